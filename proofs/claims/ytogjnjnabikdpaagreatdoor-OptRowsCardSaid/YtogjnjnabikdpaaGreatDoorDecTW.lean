/- Ranges over functions whose contracts speak of memory. -/
import Derived.Test.YtogjnjnabikdpaaGreatDoorLiveCW
import Derived.Test.YtogjnjnabikdpaaGreatDoorCheckBW
import Derived.KernelRfl
import Derived.Test.YtogjnjnabikdpaaGreatDoorEvInsCW
import Derived.Test.YtogjnjnabikdpaaGreatDoorEvSrcCW
set_option linter.unusedSimpArgs false
set_option linter.unusedVariables false
set_option maxHeartbeats 4000000
set_option maxRecDepth 10000
namespace Go.Ev
open Go Go.RowKit
variable {G:Tbl}
mutual
theorem V.cl_cl{n m:Nat}(h:n≤m):∀ v:V,(v.cl m).cl n=v.cl n
 | .ptr id off=>by
  by_cases h1:id<m
  ·simp only[V.cl,if_pos h1]
  ·simp only[V.cl,if_neg h1,if_neg (show¬id<n by omega)]
 | .rs id off k sz=>by
  by_cases h1:id<m
  ·simp only[V.cl,if_pos h1]
  ·simp only[V.cl,if_neg h1,if_neg (show¬id<n by omega)]
 | .mp id=>by
  by_cases h1:id<m
  ·simp only[V.cl,if_pos h1]
  ·simp only[V.cl,if_neg h1,if_neg (show¬id<n by omega)]
 | .yld id=>by
  by_cases h1:id<m
  ·simp only[V.cl,if_pos h1]
  ·simp only[V.cl,if_neg h1,if_neg (show¬id<n by omega)]
 | .gs id k=>by
  by_cases h1:id<m
  ·simp only[V.cl,if_pos h1]
  ·simp only[V.cl,if_neg h1,if_neg (show¬id<n by omega)]
 | .vs es tk=>by
  simp only[V.cl]
  cases tk with
  | own q =>
   by_cases h1:q<m
   ·simp only[Tk.cl,if_pos h1]
   ·simp only[Tk.cl,if_neg h1,if_neg (show¬q<n by omega)]
  | no=>rfl
  | full=>rfl
 | .fn f cap=>by simp only[V.cl,zfv h cap]
 | .agg cs=>by simp only[V.cl,zfv h cs]
 | .tup cs=>by simp only[V.cl,zfv h cs]
 | .undef=>rfl
 | .skp=>rfl
 | .any=>rfl
 | .int _ _=>rfl
 | .bool _=>rfl
 | .str _=>rfl
 | .nilp=>rfl
 | .cptr _=>rfl
 | .nilf=>rfl
 | .nilm=>rfl
theorem zfv{n m:Nat}(h:n≤m):∀ cs:List V,clL n (clL m cs)=clL n cs
 | []=>rfl
 | c::cs=>by simp only[clL,V.cl_cl h c,zfv h cs]
end
theorem Blk.cl_cl{n m:Nat}(h:n≤m)(b:Blk):(b.cl m).cl n=b.cl n:=by
 cases b with
 | cells cs=>simp only[Blk.cl,zfv h]
 | grow cs sz=>simp only[Blk.cl,zfv h]
 | zone k=>rfl
 | froz cs=>simp only[Blk.cl,zfv h]
 | map es=>simp only[Blk.cl,List.map_map]; congr 1; exact List.map_congr_left fun p _=>by simp only[Function.comp,V.cl_cl h]
 | siter s pos=>rfl
 | loop e0 ps as bo st=>simp only[Blk.cl,List.map_map]; congr 1; exact List.map_congr_left fun p _=>by simp only[Function.comp,V.cl_cl h]
theorem zpH{n m:Nat}(h:n≤m)(H:Heap):zac n (zac m H)=zac n H:=by
 unfold zac
 rw[←List.map_take,List.map_map,List.take_take,Nat.min_eq_left h]
 exact List.map_congr_left fun b _=>by cases b with
  | none=>rfl
  | some b=>simp only[Function.comp,Option.map_some,Blk.cl_cl h]
theorem znX{H1:Heap}{n k:Nat}{e0:List (Nat×V)}{ps:List Nat}{as bo:SCode}{st:LSt}(h:(zac n H1)[k]?=some (some (.loop e0 ps as bo st))):∃ e1,H1[k]?=some (some (.loop e1 ps as bo st)):=by
 unfold zac at h
 rw[List.getElem?_map] at h
 by_cases hk:k<n
 ·rw[List.getElem?_take_of_lt hk] at h
  cases hg:H1[k]? with
  | none=>rw[hg] at h; cases h
  | some b =>
   rw[hg] at h
   cases b with
   | none=>simp at h
   | some b =>
    cases b<;>simp[Blk.cl] at h
    obtain⟨_,rfl,rfl,rfl,rfl⟩:=h
    exact⟨_,rfl⟩
 ·rw[List.getElem?_take_eq_none (by omega)] at h; cases h
theorem ze1{f:Nat}{cap:List V}{l ps:List Nat}{as bo:SCode}{r:V}{H H2:Heap}{e0:List (Nat×V)}{ps':List Nat}{as' bo':SCode}{st:LSt}{x:Ex}{K:List Kt}{e:Env}{Q:Ex→Env→Heap→Prop}
  (h:SF G f (.yld H.length::cap) (H++[some (.loop (look e l) ps as bo .ready)]) r H2)
  (hb:H2[H.length]?=some (some (.loop e0 ps' as' bo' st))) (hst:st=.ready∧x=.nx∨st=.done x∧x≠.nx) (hr:Wr G x K e (zac H.length H2) Q):zoU G (.fn f cap) l ps as bo K e H Q:=by
 obtain⟨r1,H1,hbig,_,ht⟩:=h
 rw[←ht] at hb
 obtain⟨e1,he1⟩:=znX hb
 refine zsC hbig he1 hst ?_
 rw[←ht,zpH (by simp)] at hr
 exact hr
end Go.Ev
/- One try of decide.Decide. -/
namespace Go.Ev
open Go Go.RowKit
variable {G:Tbl}
def ansC(c:Int):Option (List Nat)→List V
 | some r=>.int .i64 c::((stO r).cs++(ofW (r.drop 18)).cs)
 | none=>.int .i64 c::(zad .u32 (zae 20)++zad .u64 (zae 7))
def zb5:SCode:=.region 1 [⟨some 13,.alloc 0 (zad .u32 (zae 34)),none⟩,⟨none,.store 34 (.t 13) (.t 46),none⟩]
def zb6:SCode:=.block 1 (.seq (.region 2 [⟨some 48,.load 34 true false (.t 13),none⟩,⟨some 49,.pcall 294 [.t 48],none⟩,⟨some 47,.mv (.t 49),none⟩,⟨some 50,.ext 0 (.t 47),none⟩,⟨some 51,.ext 1 (.t 47),none⟩,⟨some 14,.alloc 0 (zad .u32 (zae 18)),none⟩,
 ⟨some 15,.alloc 1 [.int .u32 0,.int .u32 0,.int .u64 0,.int .u64 0,.int .u64 0,.int .u64 0,.int .u64 0,.int .u64 0,.int .u64 0],none⟩,⟨none,.store 18 (.t 14) (.t 50),none⟩,⟨none,.store 9 (.t 15) (.t 51),none⟩])
 (.seq (.keep [3,4,5,6,7,14,15]) (.seq (.region 0 [⟨some 52,.load 1 false false (.t 3),none⟩,⟨some 53,.load 1 false false (.t 4),none⟩,⟨some 54,.load 1 false false (.t 5),none⟩,⟨some 55,.load 18 true false (.t 14),none⟩,⟨some 56,.load 9 true false (.t 15),none⟩,
  ⟨some 57,.pcall 308 [.t 52,.t 53,.t 54,.t 55,.t 56],none⟩]) (.seq (.keep [6,7,14,15,57]) (.cond (.t 57) (.seq (.region 0 [⟨some 58,.load 18 true false (.t 14),none⟩,⟨some 59,.load 9 true false (.t 15),none⟩,
   ⟨some 60,.build (ansC 0 none) [(0,1,.c (.int .i64 1)),(1,18,.t 58),(19,9,.t 59)],none⟩,⟨none,.store 28 (.t 6) (.t 60),none⟩,⟨none,.store 1 (.t 7) (.c (.int .i64 0)),none⟩]) .ret) .skip)))))
def tryE:List (Nat×V):=[(3,.ptr 0 0),(4,.ptr 1 0),(5,.ptr 2 0),(6,.ptr 3 0),(7,.ptr 4 0)]
structure TryH (N:Heap) (v w:List In4) (live:Nat):Prop where
 b0:N[0]?=some (some (.cells [.vs (IL v) .no]))
 b1:N[1]?=some (some (.cells [.vs (IL w) .no]))
 b2:N[2]?=some (some (.cells [.int .u32 live]))
 b3:N[3]?=some (some (.cells (ansC 0 none)))
 b4:N[4]?=some (some (.cells [.int .i64 0]))
 lo:N[14]?=some (some (.loop tryE [46] zb5 zb6 .ready))
 shut:za8 N
theorem TryH.app{N:Heap}{v w:List In4}{live:Nat}(h:TryH N v w live){X:Heap}(hX:∀ n,X.map (Option.map (Blk.cl n))=X):TryH (N++X) v w live:=by
 have lt:=(List.getElem?_eq_some_iff.1 h.lo).1
 refine⟨?_,?_,?_,?_,?_,?_,h.shut.app hX⟩
 all_goals rw[List.getElem?_append_left (by omega)]
 ·exact h.b0
 ·exact h.b1
 ·exact h.b2
 ·exact h.b3
 ·exact h.b4
 ·exact h.lo
def hitH(N:Heap)(r:List Nat):Heap:=((N.set 3 (some (.cells (ansC 1 (some r))))).set 4 (some (.cells [.int .i64 0]))).set 14 (some (.loop tryE [46] zb5 zb6 (.done .ret)))
theorem ztT{N X:Heap}{r:List Nat}(h:14<N.length):hitH (N++X) r=hitH N r++X:=by
 unfold hitH
 rw[List.set_append_left _ _ (by omega),List.set_append_left _ _ (by simp; omega),List.set_append_left _ _ (by simp; omega)]
theorem zjy{N:Heap}(h:za8 N)(hl:14<N.length)(r:List Nat):za8 (hitH N r):=by
 intro m hm
 have hm':N.length≤m:=by simpa[hitH] using hm
 have ha:clL m (ansC 1 (some r))=ansC 1 (some r):=by simp[ansC,zan,V.cl,St.cs,Da.cs,zad,Function.comp_def]
 unfold hitH
 rw[List.map_set,List.map_set,List.map_set,h m hm']
 have hle:(Blk.loop tryE [46] zb5 zb6 (.done .ret)).cl m=.loop tryE [46] zb5 zb6 (.done .ret):=by
  simp[Blk.cl,tryE,V.cl,show 0<m by omega,show 1<m by omega,show 2<m by omega,show 3<m by omega,show 4<m by omega]
 have hla:(Blk.cells (ansC 1 (some r))).cl m=.cells (ansC 1 (some r)):=by rw[Blk.cl,ha]
 have hl4:(Blk.cells [V.int .i64 0]).cl m=.cells [.int .i64 0]:=by simp[Blk.cl,clL,V.cl]
 simp only[Option.map_some,hle,hla,hl4]
theorem zr4[HasWd G][HasNeg G][HasIns G][HasCheck G][HasData G][HasWith G][HasStep G][HasWRight G][HasWinRun G][HasWinAsg G][HasWinState G][HasDecDf G]
  {N:Heap} {v w:List In4} {live:Nat} (h:TryH N v w live) (hf:v.length≤maxLen) (hg:w.length≤maxLen) (hk:∀ x∈v,x.k<4294967296) (hkw:∀ x∈w,x.k<4294967296) (hlv:live<4294967296)
  (hv:winB v=true) (hw:winB w=true) {r:List Nat} (hr:r.length=34) (hr':∀ x∈r,x<4294967296) {t:Bool} (ht:zfn v w live (stO r) (ofW (r.drop 18))=t) :
  YS G 14 [.agg (zad .u32 r)] N (!t) (if t=true then hitH N r else N):=by
 have lt:=(List.getElem?_eq_some_iff.1 h.lo).1
 obtain⟨b,H',hy,rfl,rfl⟩:=zvk (R:=fun b H'=>b=(!t)∧H'=if t=true then hitH N r else N) (G:=G) (args:=[.agg (zad .u32 r)]) h.lo rfl (by
  have rt:=zaj (k:=.u32) hr
  have rd:(zad .u32 r).drop 34=[]:=List.drop_eq_nil_of_le (by simp[hr])
  have kk:∀ r:Heap,(N++r)[N.length]?=r[0]?:=fun r=>apn0 rfl
  have k0:∀(r:Heap) x,(N++r).set N.length x=N++r.set 0 x:=fun r x=>zbW rfl x
  have l14:∀ r:Heap,(N++r)[14]?=some (some (.loop tryE [46] zb5 zb6 .ready)):=fun r=>by rw[List.getElem?_append_left lt]; exact h.lo
  simp[zb5,tryE,putP,kk,k0,hr,rt,rd]
  refine⟨_,_,_,_,l14 _,?_⟩
  obtain⟨B,hB⟩:∃ B,B=N.set 14 (some (.loop tryE [46] zb5 zb6 .busy)):=⟨_,rfl⟩
  have nB:B.length=N.length:=by rw[hB]; simp
  rw[List.set_append_left _ _ lt,←hB]
  have bk0:∀ r:Heap,(B++r)[N.length]?=r[0]?:=fun r=>apn0 nB
  have bk1:∀ r:Heap,(B++r)[N.length+1]?=r[1]?:=fun r=>apnk nB 1
  have bk2:∀ r:Heap,(B++r)[N.length+2]?=r[2]?:=fun r=>apnk nB 2
  have bs1:∀(r:Heap) x,(B++r).set (N.length+1) x=B++r.set 1 x:=fun r x=>zcD nB 1 x
  have bs2:∀(r:Heap) x,(B++r).set (N.length+2) x=B++r.set 2 x:=fun r x=>zcD nB 2 x
  have bk2':∀ r:Heap,(B++r)[N.length+1+1]?=r[2]?:=bk2
  have bs2':∀(r:Heap) x,(B++r).set (N.length+1+1) x=B++r.set 2 x:=bs2
  have g2:∀(a b c:Option Blk) (r:Heap) h,(B++a::b::c::r)[N.length+1+1]'h=c:=fun a b c r h=>(List.getElem?_eq_some_iff.1 (bk2 (a::b::c::r))).2
  have look:∀{p:Nat} {c:List V},N[p]?=some (some (.cells c))→p≠14→∀ r:Heap,(B++r)[p]?=some (some (.cells c)):=fun{p c} hp hne r=>by
   rw[List.getElem?_append_left (by rw[nB]; exact(List.getElem?_eq_some_iff.1 hp).1),hB,List.getElem?_set_ne (Ne.symm hne)]; exact hp
  have q0:=look h.b0 (by decide)
  have q1:=look h.b1 (by decide)
  have q2:=look h.b2 (by decide)
  have q3:=look h.b3 (by decide)
  have q0':∀(r:Heap) h,(B++r)[0]'h=some (.cells [.vs (IL v) .no]):=fun r h=>(List.getElem?_eq_some_iff.1 (q0 r)).2
  have q1':∀(r:Heap) h,(B++r)[1]'h=some (.cells [.vs (IL w) .no]):=fun r h=>(List.getElem?_eq_some_iff.1 (q1 r)).2
  have q2':∀(r:Heap) h,(B++r)[2]'h=some (.cells [.int .u32 live]):=fun r h=>(List.getElem?_eq_some_iff.1 (q2 r)).2
  have q3':∀(r:Heap) h,(B++r)[3]'h=some (.cells (ansC 0 none)):=fun r h=>(List.getElem?_eq_some_iff.1 (q3 r)).2
  have hso:=zpe hr hr'
  have hdo:=zj7 (w:=r.drop 18) (by simp[hr]) (fun x hx=>hr' x (List.mem_of_mem_drop hx))
  have hst:=zpW (G:=G) r hr hr'
  have hdi:=zrv (G:=G) v w live (stO r) (ofW (r.drop 18)) hf hg hk hkw hlv hso hdo
  rw[hv,hw,ht] at hdi
  have sl:=ziz hso
  have dl:=zkL hdo
  have hans:ansC 1 (some r)=.int .i64 1::((stO r).cs++(ofW (r.drop 18)).cs):=rfl
  obtain⟨S,hS⟩:∃ S,S=(stO r).cs:=⟨_,rfl⟩
  obtain⟨D,hD⟩:∃ D,D=(ofW (r.drop 18)).cs:=⟨_,rfl⟩
  have Sk:∀ n,clL n S=S:=fun n=>by rw[hS]; exact cs_cl _ n
  have Dk:∀ n,clL n D=D:=fun n=>by rw[hD]; exact zeh _ n
  have Sn:S.map V.nf1=S:=by rw[hS]; exact zjf _
  have Dn:D.map V.nf1=D:=by rw[hD]; exact zhA _
  simp only[FL,SV,DV,Bool.true_and] at hst hdi
  rw[←hS,←hD] at hst hdi hans
  rw[←hS] at sl
  rw[←hD] at dl
  have St:=List.take_of_length_le (i:=18) (l:=S) (by omega)
  have Dt:=List.take_of_length_le (i:=9) (l:=D) (by omega)
  have Sd:S.drop 18=[]:=List.drop_eq_nil_of_le (by omega)
  have Dd:D.drop 9=[]:=List.drop_eq_nil_of_le (by omega)
  obtain⟨A0,hA0⟩:∃ A0,A0=ansC 0 none:=⟨_,rfl⟩
  have lA0:A0.length=28:=by rw[hA0]; rfl
  simp only[←hA0] at q3 q3'
  simp[zb6,nB,bk0,bk1,bk2,bs1,bs2,hr,rt,rd,←hA0]
  refine zab hst ?_
  simp[nB,bk0,bk1,bk2,bs1,bs2,sl,dl,St,Dt,Sd,Dd,Sk,Dk,Sn,Dn,q0,q1,q2,q3,q0',q1',q2',q3',zaa]
  simp[nB,bk0,bk1,bk2,bk2',g2,bs1,bs2,bs2',sl,dl,St,Dt,Sd,Dd,Sk,Dk,Sn,Dn,q0,q1,q2,q3,q0',q1',q2',q3',zaa]
  refine zab hdi ?_
  have B14:∀ r:Heap,(B++r)[14]?=some (some (.loop tryE [46] zb5 zb6 .busy)):=fun r=>by
   rw[List.getElem?_append_left (by omega),hB,List.getElem?_set_self (by omega)]
  cases t with
  | false =>
   have fin0:∀ r:Heap,zac N.length ((B++r).set 14 (some (.loop tryE [46] zb5 zb6 .ready)))=N:=fun r=>by
    rw[List.set_append_left _ _ (by omega),hB,List.set_set,zeC h.lo]
    exact h.shut.back r
   simp
   exact⟨_,_,_,_,B14 _,fin0 _⟩
  | true =>
   simp[nB,bk0,bk1,bk2,bk2',g2,bs1,bs2,bs2',sl,dl,St,Dt,Sd,Dd,Sk,Dk,Sn,Dn,q0,q1,q2,q3,q0',q1',q2',q3',zaa]
   have dr:(S++A0.drop 19).drop 27=[]:=List.drop_eq_nil_of_le (by simp; omega)
   have ln:(V.int .i64 1::(S++D)).length=28:=by simp; omega
   have tn:(S++D).take 27=S++D:=List.take_of_length_le (by simp; omega)
   have dn:A0.drop 28=[]:=List.drop_eq_nil_of_le (by omega)
   have q4:=look h.b4 (by decide)
   have ts3:∀(r:Heap) x,(B++r).set 3 x=B.set 3 x++r:=fun r x=>List.set_append_left _ _ (by omega)
   have ts4:∀(r:Heap) y x,(B.set 3 y++r).set 4 x=(B.set 3 y).set 4 x++r:=fun r y x=>List.set_append_left _ _ (by simp; omega)
   have tg4':∀(r:Heap) y,(B.set 3 y++r)[4]?=some (some (.cells [.int .i64 0])):=fun r y=>by
    have:=q4 []
    rw[List.getElem?_append_left (by simp; omega),List.getElem?_set_ne (by decide)]
    simpa using this
   have tg4'':∀(r:Heap) y h,(B.set 3 y++r)[4]'h=some (.cells [.int .i64 0]):=fun r y h=>(List.getElem?_eq_some_iff.1 (tg4' r y)).2
   simp[lA0,dr,dn,tn,nB,sl,dl,q3,q3',ts3,ts4,tg4',tg4'',St,Sd,Dt,Dd]
   refine⟨tryE,[46],zb5,zb6,?_,?_⟩
   ·have:=B14 []
    rw[List.append_nil] at this
    rw[List.getElem?_append_left (by simp; omega),List.getElem?_set_ne (by decide),List.getElem?_set_ne (by decide)]
    exact this
   ·have he:((B.set 3 (some (Blk.cells (V.int IntKind.i64 1::(S++D))))).set 4 (some (Blk.cells [V.int IntKind.i64 0]))).set 14 (some (.loop tryE [46] zb5 zb6 (.done .ret)))=hitH N r:=by
     rw[hB,←hans,List.set_comm _ _ (show(14:Nat)≠3 by decide),List.set_comm _ _ (show(14:Nat)≠4 by decide),List.set_set]
     rfl
    rw[List.set_append_left _ _ (by simp; omega),he]
    have:=(zjy h.shut lt r).back [some (Blk.cells (zad .u32 r)),some (Blk.cells S),some (Blk.cells D)]
    rwa[show(hitH N r).length=N.length by simp[hitH]] at this)
 exact hy
end Go.Ev
/- decide.Decide. -/
namespace Go.Ev
open Go Go.RowKit
variable {G:Tbl}
noncomputable def decR(v w:List In4)(live:Nat):Int×Option (List Nat) :=
 if(winB v&&winB w)=true then
  if zc1 (winV [] v).p (winV (winV [] v).L w).p (winV [] v).st (winV (winV [] v).L w).st live=true then(0,none)
  else match(zbv (winV (winV [] v).L w).L (winV [] v).p (winV (winV [] v).L w).p live).find? fun r=>zfn v w live (stO r) (ofW (r.drop 18)) with
   | some r=>(1,some r)
   | none=>(2,none)
 else(0,none)
def zn1(a b c d e:List V):Heap:=[some (.cells a),some (.cells b),some (.cells c),some (.cells d),some (.cells e),some (.map []),some (.cells [.vs [] (.own 7),.mp 5]),some (.zone 0)]
theorem ztU{a b c d e:List V}(ha:∀ n,clL n a=a)(hb:∀ n,clL n b=b)(hc:∀ n,clL n c=c)(hd:∀ n,clL n d=d)(he:∀ n,clL n e=e):Bk (zn1 a b c d e) 6 7 5 []:=by
 refine⟨rfl,rfl,rfl,fun n hn=>?_,fun a h=>(by cases h),by decide⟩
 simp only[zn1,List.length_cons,List.length_nil] at hn
 simp[zn1,Blk.cl,ha,hb,hc,hd,he,clL,V.cl,Tk.cl,show 7<n by omega,show 5<n by omega]
theorem zvO[HasSymNew G](a b c d e:List V):Big G (.F 256 [] [some (.cells a),some (.cells b),some (.cells c),some (.cells d),some (.cells e)] (.ptr 6 0) [some (.cells a),some (.cells b),some (.cells c),some (.cells d),some (.cells e),some (.map []),some (.cells [.vs [] .full,.mp 5])]):=by
 refine F_of HasSymNew.h_sym_New (Nat.le_of_ble_eq_true rfl) ?_
 simp
section
variable {H:Heap} {b z m:Nat} {L:List Nd}
noncomputable def ofC(L:List Nd)(w:List In4):List V:=if winB w=true then vcs (winV L w).p (winV L w).st .no else vcs (List.replicate 18 0) [] .full
noncomputable def ofL(L:List Nd)(w:List In4):List Nd:=if winB w=true then(winV L w).L else L
theorem zou[HasWd G][HasNeg G][HasIns G][HasCheck G][HasWRight G][HasAffine G][HasBits G][HasSym G][HasWinOf G](w:List In4)(h:Bk H b z m L)(hi:Inv L)(hs:L.length≤800000)(hf:w.length≤maxLen)(hk:∀ x∈w,x.k<4294967296) :
  SF G 296 [.ptr b 0,FL w] H (.tup [.agg (ofC L w),.bool (winB w)]) (upd H b z m (ofL L w)):=by
 cases hw:winB w with
 | true =>
  have:=zx2 (G:=G) w h hi hs hf hk hw
  simpa only[ofC,ofL,hw,if_true] using this
 | false =>
  have:=zx1 (G:=G) w h hf hk hw
  simpa only[ofC,ofL,hw,Bool.false_eq_true,if_false,h.upd_self] using this
theorem zms(hi:Inv L){w:List In4}(hk:∀ x∈w,x.k<4294967296):(ofC L w).length=19:=by
 unfold ofC
 split
 ·exact zeK (zeL hi w hk).len
 ·rfl
theorem zov(w:List In4)(n:Nat):clL n (ofC L w)=ofC L w:=by
 unfold ofC
 split<;>(rw[zan,vcs]; simp[za7,Function.comp_def,V.cl,Tk.cl])
theorem zqc(hi:Inv L){w:List In4}(hk:∀ x∈w,x.k<4294967296):Inv (ofL L w):=by
 unfold ofL
 split
 ·exact(zeL hi w hk).ext.inv
 ·exact hi
theorem zqd(hi:Inv L){w:List In4}(hk:∀ x∈w,x.k<4294967296):(ofL L w).length≤L.length+114:=by
 unfold ofL
 split
 ·rename_i hw
  have hw32:w.length≤32:=by simp only[winB,Bool.and_eq_true,decide_eq_true_eq] at hw; exact hw.1
  have:=(zeL hi w hk).ext.len
  omega
 ·omega
end
theorem zlf(c:Int):(ansC c none).length=28:=rfl
theorem zin(c:Int)(o:Option (List Nat))(n:Nat):clL n (ansC c o)=ansC c o:=by cases o<;>simp[ansC,zan,V.cl,St.cs,Da.cs,zad,Function.comp_def]
theorem zqe(c:Int)(o:Option (List Nat)):(ansC c o).map V.nf1=ansC c o:=by cases o<;>simp[ansC,V.nf1,St.cs,Da.cs,zad,Function.comp_def]
theorem zr5(c:Int):(ansC c none).take 28=ansC c none:=List.take_of_length_le (by rw[zlf]; exact Nat.le_refl _)
theorem zr6(c:Int):(ansC c none).drop 28=[]:=List.drop_eq_nil_of_le (by rw[zlf]; exact Nat.le_refl _)
theorem zvP[HasDec G](H:Heap)(b live:Nat)(X1 X2:List V)(k1:∀ n,clL n X1=X1)(k2:∀ n,clL n X2=X2)(m1:X1.map V.nf1=X1)(m2:X2.map V.nf1=X2) :
  Big G (.F 311 [.ptr b 0,.agg X1,.agg X2,.int .u32 live] H (.fn 310 [.ptr (H.length+3) 0,.ptr H.length 0,.ptr (H.length+1) 0,.ptr (H.length+2) 0])
   (H++[some (.cells [.ptr b 0]),some (.cells X1),some (.cells X2),some (.cells [.int .u32 live])])):=by
 refine F_of HasDec.h_decide_tries (Nat.le_of_ble_eq_true rfl) ?_
 simp[m1,m2,ap0,apk,set0,setk]
theorem zjz[HasWd G][HasNeg G][HasIns G][HasCheck G][HasData G][HasWith G][HasStep G][HasWRight G][HasWinRun G][HasWinAsg G][HasWinState G][HasWinOf G][HasAffApart G][HasAffine G][hBA:HasBitsA G][HasSymNew G][HasSym G][HasSymApart G][HasDecDf G][HasDec G]
  (v w:List In4) (live:Nat) (hf:v.length≤maxLen) (hg:w.length≤maxLen) (hk:∀ x∈v,x.k<4294967296) (hkw:∀ x∈w,x.k<4294967296) (hlv:live<4294967296) :
  FP G 312 [FL v,FL w,.int .u32 live] (.tup [.agg (ansC (decR v w live).1 (decR v w live).2),.int .i64 (if(winB v&&winB w)=true then 0 else 1)]):=by
 haveI:HasBits G:=hBA.toHasBits
 refine zak HasDec.h_decide_Decide (Nat.le_of_ble_eq_true rfl) ?_
 obtain⟨Z,hZ⟩:∃ Z:List V,Z=vcs (List.replicate 18 0) [] .full:=⟨_,rfl⟩
 have lZ:Z.length=19:=by rw[hZ]; rfl
 have drop19:Z.drop 19=[]:=List.drop_eq_nil_of_le (by omega)
 have hZz:[V.int .i64 0,.int .i64 0,.int .i64 0,.int .i64 0,.int .i64 0,.int .i64 0,.int .i64 0,.int .i64 0,.int .i64 0,.int .i64 0,.int .i64 0,.int .i64 0,.int .i64 0,.int .i64 0,.int .i64 0,.int .i64 0,.int .i64 0,.int .i64 0,.vs [] .full]=Z:=by rw[hZ]; rfl
 obtain⟨A0,hA0⟩:∃ A0:List V,A0=ansC 0 none:=⟨_,rfl⟩
 have hA0z:V.int .i64 0::(zad .u32 (zae 20)++zad .u64 (zae 7))=A0:=by rw[hA0]; rfl
 have lA0:A0.length=28:=by rw[hA0]; rfl
 have kA0:∀ n,clL n A0=A0:=fun n=>by rw[hA0]; simp[ansC,zan,V.cl,zad,Function.comp_def]
 have hB:=ztU (a:=[.vs (IL v) .no]) (b:=[.vs (IL w) .no]) (c:=[.int .u32 live]) (d:=A0) (e:=[.int .i64 0]) (fun n=>by simp[clL,V.cl,Tk.cl]) (fun n=>by simp[clL,V.cl,Tk.cl]) (fun n=>by simp[clL,V.cl]) kA0 (fun n=>by simp[clL,V.cl])
 obtain⟨H0,hH0⟩:∃ H0,H0=zn1 [.vs (IL v) .no] [.vs (IL w) .no] [.int .u32 live] A0 [.int .i64 0]:=⟨_,rfl⟩
 rw[←hH0] at hB
 have n0:H0.length=8:=by rw[hH0]; rfl
 have t0:∀ r,zac 8 (H0++r)=H0:=fun r=>by have:=hB.shut.back r; rwa[n0] at this
 have a8:∀ r:Heap,(H0++r)[8]?=r[0]?:=fun r=>apn0 n0
 have a9:∀ r:Heap,(H0++r)[9]?=r[1]?:=fun r=>apnk n0 1
 have b8:∀(r:Heap) x,(H0++r).set 8 x=H0++r.set 0 x:=fun r x=>zbW n0 x
 have b9:∀(r:Heap) x,(H0++r).set 9 x=H0++r.set 1 x:=fun r x=>zcD n0 1 x
 have o0:∀ r:Heap,(H0++r)[0]?=some (some (.cells [.vs (IL v) .no])):=fun r=>by rw[hH0]; rfl
 have o1:∀ r:Heap,(H0++r)[1]?=some (some (.cells [.vs (IL w) .no])):=fun r=>by rw[hH0]; rfl
 have o3:∀ r:Heap,(H0++r)[3]?=some (some (.cells A0)):=fun r=>by rw[hH0]; rfl
 have o4:∀ r:Heap,(H0++r)[4]?=some (some (.cells [.int .i64 0])):=fun r=>by rw[hH0]; rfl
 have hBn:Bk (H0++[none]) 6 7 5 []:=hB.app fun n=>by simp
 simp[FL,hA0z]
 refine zhx (zvO [.vs (IL v) .no] [.vs (IL w) .no] [.int .u32 live] A0 [.int .i64 0]) (by simp) ?_
 simp
 rw[show([some (.cells [.vs (IL v) .no]),some (.cells [.vs (IL w) .no]),some (.cells [.int .u32 live]),some (.cells A0),some (.cells [.int .i64 0]),some (.map []),some (.cells [.vs [] (.own 7),.mp 5]),some (.zone 0),none]:Heap)=H0++[none] from by rw[hH0]; rfl]
 obtain⟨L1,hL1⟩:∃ L1,L1=ofL [] v:=⟨_,rfl⟩
 obtain⟨X1,hX1⟩:∃ X1,X1=ofC [] v:=⟨_,rfl⟩
 have i1:Inv L1:=by rw[hL1]; exact zqc Inv.nil hk
 have z1:L1.length≤114:=by rw[hL1]; simpa using zqd Inv.nil hk
 have x1:X1.length=19:=by rw[hX1]; exact zms Inv.nil hk
 have c1:∀ n,clL n X1=X1:=fun n=>by rw[hX1]; exact zov v n
 have hof:=zou (G:=G) v hBn Inv.nil (by decide) hf hk
 rw[←hL1,←hX1,hB.upd_app] at hof
 obtain⟨U,hU⟩:∃ U,U=upd H0 6 7 5 L1:=⟨_,rfl⟩
 have hUB:Bk U 6 7 5 L1:=by rw[hU]; exact hB.to i1 (by omega)
 rw[←hU] at hof
 have nU:U.length=8:=by rw[hU,zbf,n0]
 have keepU:∀{p:Nat} {c:List V},(H0++[])[p]?=some (some (.cells c))→p≠6→U[p]?=some (some (.cells c)):=fun{p c} hp hne=>by
  rw[hU]; exact znM hB (by simpa using hp) hne
 obtain⟨L2,hL2⟩:∃ L2,L2=ofL L1 w:=⟨_,rfl⟩
 obtain⟨X2,hX2⟩:∃ X2,X2=ofC L1 w:=⟨_,rfl⟩
 have i2:Inv L2:=by rw[hL2]; exact zqc i1 hkw
 have z2:L2.length≤228:=by rw[hL2]; have:=zqd i1 hkw; omega
 have x2:X2.length=19:=by rw[hX2]; exact zms i1 hkw
 have c2:∀ n,clL n X2=X2:=fun n=>by rw[hX2]; exact zov w n
 have hUX:Bk (U++[some (.cells X1),none]) 6 7 5 L1:=hUB.app fun n=>by simp[Blk.cl,c1]
 have hof2:=zou (G:=G) w hUX i1 (by omega) hg hkw
 rw[←hL2,←hX2,hUB.upd_app] at hof2
 obtain⟨T,hT⟩:∃ T,T=upd U 6 7 5 L2:=⟨_,rfl⟩
 have hTB:Bk T 6 7 5 L2:=by rw[hT]; exact hUB.to i2 (by omega)
 rw[←hT] at hof2
 have nT:T.length=8:=by rw[hT,zbf,nU]
 have keepT:∀{p:Nat} {c:List V},(H0++[])[p]?=some (some (.cells c))→p≠6→T[p]?=some (some (.cells c)):=fun{p c} hp hne=>by
  rw[hT]; exact znM hUB (keepU hp hne) hne
 have apl:∀{A:Heap} {p:Nat} {c:List V},A[p]?=some (some (.cells c))→∀ r:Heap,(A++r)[p]?=some (some (.cells c)):=fun{A p c} hp r=>by
  rw[List.getElem?_append_left (List.getElem?_eq_some_iff.1 hp).1]; exact hp
 have u1:=apl (keepU (o1 []) (by decide))
 have u1':∀(r:Heap) h,(U++r)[1]'h=some (.cells [.vs (IL w) .no]):=fun r h=>(List.getElem?_eq_some_iff.1 (u1 r)).2
 have q0:=apl (keepT (o0 []) (by decide))
 have q1:=apl (keepT (o1 []) (by decide))
 have q2:=apl (keepT (c:=[.int .u32 live]) (p:=2) (by rw[hH0]; rfl) (by decide))
 have q3:=apl (keepT (o3 []) (by decide))
 have q4:=apl (keepT (o4 []) (by decide))
 have q0':∀(r:Heap) h,(T++r)[0]'h=some (.cells [.vs (IL v) .no]):=fun r h=>(List.getElem?_eq_some_iff.1 (q0 r)).2
 have q1':∀(r:Heap) h,(T++r)[1]'h=some (.cells [.vs (IL w) .no]):=fun r h=>(List.getElem?_eq_some_iff.1 (q1 r)).2
 have q2':∀(r:Heap) h,(T++r)[2]'h=some (.cells [.int .u32 live]):=fun r h=>(List.getElem?_eq_some_iff.1 (q2 r)).2
 have q3':∀(r:Heap) h,(T++r)[3]'h=some (.cells A0):=fun r h=>(List.getElem?_eq_some_iff.1 (q3 r)).2
 have q4':∀(r:Heap) h,(T++r)[4]'h=some (.cells [.int .i64 0]):=fun r h=>(List.getElem?_eq_some_iff.1 (q4 r)).2
 have ua8:∀ r:Heap,(U++r)[8]?=r[0]?:=fun r=>apn0 nU
 have ua9:∀ r:Heap,(U++r)[9]?=r[1]?:=fun r=>apnk nU 1
 have ub8:∀(r:Heap) x,(U++r).set 8 x=U++r.set 0 x:=fun r x=>zbW nU x
 have ub9:∀(r:Heap) x,(U++r).set 9 x=U++r.set 1 x:=fun r x=>zcD nU 1 x
 have ta8:∀ r:Heap,(T++r)[8]?=r[0]?:=fun r=>apn0 nT
 have ta9:∀ r:Heap,(T++r)[9]?=r[1]?:=fun r=>apnk nT 1
 have tb8:∀(r:Heap) x,(T++r).set 8 x=T++r.set 0 x:=fun r x=>zbW nT x
 have tb9:∀(r:Heap) x,(T++r).set 9 x=T++r.set 1 x:=fun r x=>zcD nT 1 x
 have d1:X1.drop 19=[]:=List.drop_eq_nil_of_le (by omega)
 have d2:X2.drop 19=[]:=List.drop_eq_nil_of_le (by omega)
 have e1:X1.take 19=X1:=List.take_of_length_le (by omega)
 have e2:X2.take 19=X2:=List.take_of_length_le (by omega)
 simp only[FL] at hof hof2
 refine zai hof ?_
 simp[nU,ua8,ub8,hZz,lZ,drop19,x1,d1,e1,u1,u1']
 refine zai hof2 ?_
 simp[nT,ta8,ta9,tb8,tb9,hZz,lZ,drop19,x1,d1,e1,x2,d2,e2,zaa]
 have hlt:∀ p,p<8→p<T.length:=fun p hp=>by omega
 have ts3:∀(r:Heap) x,(T++r).set 3 x=T.set 3 x++r:=fun r x=>List.set_append_left _ _ (by omega)
 have ts4:∀(r:Heap) y x,(T.set 3 y++r).set 4 x=(T.set 3 y).set 4 x++r:=fun r y x=>List.set_append_left _ _ (by simp; omega)
 have tg3:∀(r:Heap) y x,((T.set 3 y).set 4 x++r)[3]?=some y:=fun r y x=>by
  rw[List.getElem?_append_left (by simp; omega),List.getElem?_set_ne (by decide),List.getElem?_set_self (by omega)]
 have tg4:∀(r:Heap) y x,((T.set 3 y).set 4 x++r)[4]?=some x:=fun r y x=>by
  rw[List.getElem?_append_left (by simp; omega),List.getElem?_set_self (by simp; omega)]
 have tg4':∀(r:Heap) y,(T.set 3 y++r)[4]?=some (some (.cells [.int .i64 0])):=fun r y=>by
  have:=q4 []
  rw[List.getElem?_append_left (by simp; omega),List.getElem?_set_ne (by decide)]
  simpa using this
 have tg4'':∀(r:Heap) y h,(T.set 3 y++r)[4]'h=some (.cells [.int .i64 0]):=fun r y h=>(List.getElem?_eq_some_iff.1 (tg4' r y)).2
 have tg3n:∀(r:Heap) y x h,((T.set 3 y).set 4 x++r)[3]'h=y:=fun r y x h=>(List.getElem?_eq_some_iff.1 (tg3 r y x)).2
 have tg4n:∀(r:Heap) y x h,((T.set 3 y).set 4 x++r)[4]'h=x:=fun r y x h=>(List.getElem?_eq_some_iff.1 (tg4 r y x)).2
 have A28:A0.take 28=A0:=List.take_of_length_le (by omega)
 have D28:A0.drop 28=[]:=List.drop_eq_nil_of_le (by omega)
 have nA0:A0.map V.nf1=A0:=by rw[hA0]; simp[ansC,zad,Function.comp_def,V.nf1]
 cases hv:winB v with
 | false =>
  have hd:decR v w live=(0,none):=by simp[decR,hv]
  simp[hd,←hA0,nT,q3,q3',lA0,ts3,ts4,A28,D28,tg3,tg4,tg4',tg4'',tg3n,tg4n,zaa,kA0,nA0]
 | true =>
 cases hw:winB w with
 | false =>
  have hd:decR v w live=(0,none):=by simp[decR,hv,hw]
  simp[hd,←hA0,nT,q3,q3',lA0,ts3,ts4,A28,D28,tg3,tg4,tg4',tg4'',tg3n,tg4n,zaa,kA0,nA0]
 | true =>
 have hXv:X1=vcs (winV [] v).p (winV [] v).st .no:=by rw[hX1,ofC,if_pos hv]
 have hLv:L1=(winV [] v).L:=by rw[hL1,ofL,if_pos hv]
 have hXw:X2=vcs (winV L1 w).p (winV L1 w).st .no:=by rw[hX2,ofC,if_pos hw]
 have hLw:L2=(winV L1 w).L:=by rw[hL2,ofL,if_pos hw]
 have k1:=zeL Inv.nil v hk
 have k2:=zeL i1 w hkw
 have hD:decR v w live=decR v w live:=rfl
 conv at hD=>rhs; rw[decR,hv,hw,if_pos (show(true&&true)=true from rfl),←hLv,←hLw]
 obtain⟨P,hP⟩:∃ P,P=(winV [] v).p:=⟨_,rfl⟩
 obtain⟨S,hS⟩:∃ S,S=(winV [] v).st:=⟨_,rfl⟩
 obtain⟨Q,hQ⟩:∃ Q,Q=(winV L1 w).p:=⟨_,rfl⟩
 obtain⟨R,hR⟩:∃ R,R=(winV L1 w).st:=⟨_,rfl⟩
 have pl:P.length=18:=by rw[hP]; exact k1.len
 have ql:Q.length=18:=by rw[hQ]; exact k2.len
 have sl:S.length≤1000000:=by
  have hw32:v.length≤32:=by simp only[winB,Bool.and_eq_true,decide_eq_true_eq] at hv; exact hv.1
  have:=k1.st
  rw[hS]; omega
 rw[←hP,←hQ,←hS,←hR] at hD
 rw[←hP,←hS] at hXv
 rw[←hQ,←hR] at hXw
 have hsa:=zwv (G:=G) P Q S R live hlv pl ql sl
 rw[←hXv,←hXw] at hsa
 have m1:X1.map V.nf1=X1:=by rw[hXv]; simp[vcs,za7,Function.comp_def,V.nf1]
 have m2:X2.map V.nf1=X2:=by rw[hXw]; simp[vcs,za7,Function.comp_def,V.nf1]
 simp[nT,q2,q2',ta8,ta9,x1,x2,e1,e2,zaa,m1,m2,c1,c2]
 refine zab hsa ?_
 cases hsm:zc1 P Q S R live with
 | true =>
  rw[hsm,if_pos rfl] at hD
  have At:V.int .i64 0::A0.tail=A0:=by rw[hA0]; rfl
  simp[hD,←hA0,nT,q3,q3',lA0,ts3,ts4,A28,D28,tg3,tg4,tg4',tg4'',tg3n,tg4n,zaa,kA0,nA0,At]
 | false =>
  rw[hsm] at hD
  simp only[Bool.false_eq_true,if_false] at hD
  simp[nT,q2,q2',ta8,ta9,x1,x2,e1,e2,zaa,m1,m2,c1,c2]
  have n10:(T++[some (Blk.cells X1),some (Blk.cells X2)]).length=10:=by simp[nT]
  have htr:=zvP (G:=G) (T++[some (Blk.cells X1),some (Blk.cells X2)]) 6 live X1 X2 c1 c2 m1 m2
  rw[n10,List.append_assoc] at htr
  refine zhx htr (by simp) ?_
  simp
  subst hA0
  obtain⟨E,hE⟩:∃ E,E=T++[some (Blk.cells X1),some (Blk.cells X2),some (.cells [.ptr 6 0]),some (.cells X1),some (.cells X2),some (.cells [.int .u32 live])]:=⟨_,rfl⟩
  have nE:E.length=14:=by rw[hE]; simp[nT]
  obtain⟨HH,hHH⟩:∃ HH,HH=E++[some (Blk.loop tryE [46] zb5 zb6 .ready)]:=⟨_,rfl⟩
  have nHH:HH.length=15:=by rw[hHH]; simp[nE]
  have hHT:HH=T++[some (Blk.cells X1),some (Blk.cells X2),some (.cells [.ptr 6 0]),some (.cells X1),some (.cells X2),some (.cells [.int .u32 live]),some (Blk.loop tryE [46] zb5 zb6 .ready)]:=by rw[hHH,hE]; simp
  have hBE:Bk E 6 7 5 L2:=by
   rw[hE]
   refine hTB.app2 fun n hn=>?_
   simp[nT] at hn
   simp[Blk.cl,c1,c2,clL,V.cl,show 6<n by omega]
  have hBH:Bk HH 6 7 5 L2:=by
   rw[hHH]
   refine hBE.app2 fun n hn=>?_
   simp[nE] at hn
   simp[Blk.cl,tryE,V.cl,show 0<n by omega,show 1<n by omega,show 2<n by omega,show 3<n by omega,show 4<n by omega]
  have h14:HH[14]?=some (some (.loop tryE [46] zb5 zb6 .ready)):=by rw[hHH]; exact apn0 nE
  have hTH:TryH HH v w live:=⟨by rw[hHT]; exact q0 _,by rw[hHT]; exact q1 _,by rw[hHT]; exact q2 _,by rw[hHT]; exact q3 _,by rw[hHT]; exact q4 _,h14,hBH.shut⟩
  have h10:HH[10]?=some (some (.cells [.ptr 6 0])):=by rw[hHT]; exact apnk nT 2
  have h11:HH[11]?=some (some (.cells (vcs P S .no))):=by rw[hHT,←hXv]; exact apnk nT 3
  have h12:HH[12]?=some (some (.cells (vcs Q R .no))):=by rw[hHT,←hXw]; exact apnk nT 4
  have h13:HH[13]?=some (some (.cells [.int .u32 live])):=by rw[hHT]; exact apnk nT 5
  have htt:=zs3 (G:=G) hBH i2 (id:=14) (i1:=13) (i2:=10) (i3:=11) (i4:=12) (live:=live) hlv h13 h10 h11 h12 pl ql (by omega) (hit:=fun r=>zfn v w live (stO r) (ofW (r.drop 18))) (H':=hitH HH)
   (fun r hr hh X hX=>by
    obtain⟨hr1,hr2⟩:=zhT hr
    have:=zr4 (G:=G) (hTH.app hX) hf hg hk hkw hlv hv hw hr1 hr2 hh
    simpa using this)
   (fun r hr hh X hX=>by
    obtain⟨hr1,hr2⟩:=zhT hr
    have:=zr4 (G:=G) (hTH.app hX) hf hg hk hkw hlv hv hw hr1 hr2 hh
    rw[ztT (by omega)] at this
    simpa using this)
   (fun r hr hh=>⟨by
    have:=(zjy hBH.shut (by omega) r).self
    rwa[show(hitH HH r).length=HH.length by simp[hitH]] at this,by simp[hitH]⟩)
  rw[←hE]
  have hbE:=hBE.shut.self
  rw[nE] at hbE
  have hlk:look (mkE [(3,V.ptr 0 0),(4,V.ptr 1 0),(5,V.ptr 2 0),(6,V.ptr 3 0),(7,V.ptr 4 0),(45,V.fn 310 [V.ptr 13 0,V.ptr 10 0,V.ptr 11 0,V.ptr 12 0])]) [3,4,5,6,7]=tryE:=by simp[tryE]
  cases hfd:(zbv L2 P Q live).find? (fun r=>zfn v w live (stO r) (ofW (r.drop 18))) with
  | none =>
   rw[hfd] at htt hD
   have htE:zac 14 HH=E:=by rw[hHH]; have:=hBE.shut.back [some (Blk.loop tryE [46] zb5 zb6 .ready)]; rwa[nE] at this
   refine ze1 (as:=zb5) (bo:=zb6) (x:=.nx) (H2:=HH) (r:=.tup []) ?_ (by rw[nE]; exact h14) (.inl ⟨rfl,rfl⟩) ?_
   ·rw[nE]
    rw[hHH] at htt
    rw[hHH,hlk]
    exact htt
   rw[nE,htE,hE]
   simp only[] at hD
   have At:∀ c,V.int .i64 c::(ansC 0 none).tail=ansC c none:=fun c=>rfl
   simp[hD,nT,q3,q3',lA0,ts3,ts4,A28,D28,tg3,tg4,tg4',tg4'',tg3n,tg4n,zaa,kA0,nA0,At,zlf,zin,zqe,zr5,zr6]
  | some r =>
   rw[hfd] at htt hD
   obtain⟨hr1,hr2⟩:=zhT (List.mem_of_find?_eq_some hfd)
   have lA:(ansC 1 (some r)).length=28:=by
    have h1:=ziz (zpe hr1 hr2)
    have h2:=zkL (zj7 (w:=r.drop 18) (by simp[hr1]) (fun x hx=>hr2 x (List.mem_of_mem_drop hx)))
    simp only[ansC,List.length_cons,List.length_append,h1,h2]
   obtain⟨A1,hA1⟩:∃ A1,A1=ansC 1 (some r):=⟨_,rfl⟩
   have kA1:∀ n,clL n A1=A1:=fun n=>by rw[hA1]; exact zin _ _ n
   have nA1:A1.map V.nf1=A1:=by rw[hA1]; exact zqe _ _
   rw[←hA1] at lA
   have tA1:A1.take 28=A1:=List.take_of_length_le (by omega)
   have hEE:hitH HH r=((T.set 3 (some (.cells A1))).set 4 (some (.cells [.int .i64 0])))++[some (Blk.cells X1),some (Blk.cells X2),some (.cells [.ptr 6 0]),some (.cells X1),some (.cells X2),some (.cells [.int .u32 live]),some (.loop tryE [46] zb5 zb6 (.done .ret))]:=by
    rw[hHT,hitH,←hA1,ts3,ts4]
    rw[List.set_append_right _ _ (by simp; omega)]
    simp[nT]
   have hsh:=zjy hBH.shut (by omega) r
   have hl14:(hitH HH r)[14]?=some (some (.loop tryE [46] zb5 zb6 (.done .ret))):=by
    unfold hitH
    exact List.getElem?_set_self (by simp; omega)
   have hsh14:zac 14 (hitH HH r)=((T.set 3 (some (.cells A1))).set 4 (some (.cells [.int .i64 0])))++[some (Blk.cells X1),some (Blk.cells X2),some (.cells [.ptr 6 0]),some (.cells X1),some (.cells X2),some (.cells [.int .u32 live])]:=by
    have hmE:E.map (Option.map (Blk.cl 14))=E:=by
     have:=hbE
     unfold zac at this
     rwa[List.take_of_length_le (by omega)] at this
    have hE1:zac 14 ((E.set 3 (some (.cells A1))).set 4 (some (.cells [.int .i64 0])))=(E.set 3 (some (.cells A1))).set 4 (some (.cells [.int .i64 0])):=by
     unfold zac
     rw[List.take_of_length_le (by simp; omega),List.map_set,List.map_set,hmE]
     simp[Blk.cl,kA1,clL,V.cl]
    have hEs:(E.set 3 (some (.cells A1))).set 4 (some (.cells [.int .i64 0]))=((T.set 3 (some (.cells A1))).set 4 (some (.cells [.int .i64 0])))++[some (Blk.cells X1),some (Blk.cells X2),some (.cells [.ptr 6 0]),some (.cells X1),some (.cells X2),some (.cells [.int .u32 live])]:=by rw[hE,ts3,ts4]
    have hcut:hitH HH r=((E.set 3 (some (.cells A1))).set 4 (some (.cells [.int .i64 0])))++[some (.loop tryE [46] zb5 zb6 (.done .ret))]:=by rw[hEs,hEE]; simp
    rw[hcut,zgo hE1 (by simp; exact nE),hEs]
   refine ze1 (as:=zb5) (bo:=zb6) (x:=.ret) (H2:=hitH HH r) (r:=.tup []) ?_ (by rw[nE]; exact hl14) (.inr ⟨rfl,by decide⟩) ?_
   ·rw[nE]
    rw[hlk,←hHH]
    exact htt
   rw[nE,hsh14]
   simp only[] at hD
   simp[hD,nT,lA,tA1,kA1,nA1,tg3,tg4,tg3n,tg4n,←hA1]
end Go.Ev
/- The examples of layer 18. -/
namespace Go.Ev
open Go Go.RowKit
variable {G:Tbl}
theorem dec_tells{v w:List In4}{live:Nat}(hv:winB v=true)(hw:winB w=true) :
  decR v w live=(0,none)∧zc1 (winV [] v).p (winV (winV [] v).L w).p (winV [] v).st (winV (winV [] v).L w).st live=true ∨
  (∃ r,decR v w live=(1,some r)∧r∈zbv (winV (winV [] v).L w).L (winV [] v).p (winV (winV [] v).L w).p live∧zfn v w live (stO r) (ofW (r.drop 18))=true∧zc1 (winV [] v).p (winV (winV [] v).L w).p (winV [] v).st (winV (winV [] v).L w).st live=false) ∨
  decR v w live=(2,none)∧(∀ r∈zbv (winV (winV [] v).L w).L (winV [] v).p (winV (winV [] v).L w).p live,zfn v w live (stO r) (ofW (r.drop 18))=false)∧zc1 (winV [] v).p (winV (winV [] v).L w).p (winV [] v).st (winV (winV [] v).L w).st live=false:=by
 have hD:decR v w live=decR v w live:=rfl
 conv at hD=>rhs; rw[decR,hv,hw,if_pos (show(true&&true)=true from rfl)]
 cases hs:zc1 (winV [] v).p (winV (winV [] v).L w).p (winV [] v).st (winV (winV [] v).L w).st live with
 | true =>
  rw[hs,if_pos rfl] at hD
  exact .inl ⟨hD,rfl⟩
 | false =>
  rw[hs] at hD
  simp only[Bool.false_eq_true,if_false] at hD
  cases hfd:(zbv (winV (winV [] v).L w).L (winV [] v).p (winV (winV [] v).L w).p live).find? (fun r=>zfn v w live (stO r) (ofW (r.drop 18))) with
  | none =>
   rw[hfd] at hD
   refine .inr (.inr ⟨hD,fun r hr=>?_,rfl⟩)
   have:=List.find?_eq_none.1 hfd r hr
   simpa using this
  | some r =>
   rw[hfd] at hD
   have hh:=List.find?_some hfd
   exact .inr (.inl ⟨r,hD,List.mem_of_find?_eq_some hfd,hh,rfl⟩)
end Go.Ev
/- knows of layer 18. -/
namespace Go.Ev
open Go Go.RowKit
variable {G:Tbl}
theorem zq4{r:List Nat}(hr:r.length=34)(hr':∀ x∈r,x<4294967296)(c:Int):(ansC c (some r)).length=28∧(ansC c (some r)).tail.take 18=(stO r).cs∧(ansC c (some r)).drop 19=(ofW (r.drop 18)).cs:=by
 have h1:=ziz (zpe hr hr')
 have h2:=zkL (zj7 (w:=r.drop 18) (by simp[hr]) (fun x hx=>hr' x (List.mem_of_mem_drop hx)))
 refine⟨by simp only[ansC,List.length_cons,List.length_append,h1,h2],?_,?_⟩
 ·simp only[ansC,List.tail_cons]
  rw[List.take_left' h1]
 ·simp only[ansC]
  rw[List.drop_succ_cons,List.drop_left' h1]
end Go.Ev
/- The laws DecideEqual, DecideDiffer. -/
namespace Go.Ev
open Go Go.RowKit
variable {G:Tbl}
theorem zmt(c:Int)(o:Option (List Nat)):(ansC c o).take 1=[.int .i64 c]:=by cases o<;>rfl
theorem zlg(v w:List In4)(live:Nat):(ansC (decR v w live).1 (decR v w live).2).length=28:=by
 cases hww:winB v&&winB w with
 | false =>
  have hd0:decR v w live=(0,none):=by simp[decR,hww]
  rw[hd0]; rfl
 | true =>
  simp only[Bool.and_eq_true] at hww
  rcases dec_tells (live:=live) hww.1 hww.2 with⟨e,_⟩|⟨r,e,hr,_,_⟩|⟨e,_,_⟩
  ·rw[e]; rfl
  ·obtain⟨h1,h2⟩:=zhT hr
   rw[e]; exact(zq4 h1 h2 1).1
  ·rw[e]; rfl
end Go.Ev
/- Which pieces are free: splice.free, splice.Free, hurdleref22.Free. -/
namespace Go.Ev
open Go Go.RowKit
variable {G:Tbl}
def zcR(f:List In4)(a m:Nat):Bool:=(List.range m).all fun j=>!hitB f f.length (a+1+j)
theorem zlQ(f:List In4)(a m:Nat):zcR f a (m+1)=(zcR f a m&&!hitB f f.length (a+1+m)):=by simp[zcR,List.range_succ,List.all_append]
theorem zk1{f:List In4}{a m n:Nat}(h:hitB f f.length (a+1+m)=true)(hm:m<n):zcR f a n=false:=by
 rw[←Bool.not_eq_true,zcR,List.all_eq_true]
 intro h2
 have:=h2 m (List.mem_range.2 hm)
 rw[h] at this; cases this
def zbQ(f:List In4)(a n:Nat):Bool:=winB ((f.drop a).take n)&&zcR f a (n-1)
def inB(f:List In4)(a n:Int):Bool:=decide (0≤a∧1≤n∧a<f.length∧n≤f.length-a)
def zbc(f:List In4)(a n:Int):Bool:=inB f a n&&zbQ f a.toNat n.toNat
def zcj(f:List In4)(a n:Int):Bool:=zao f&&zbc f a n
theorem zcg{f:List In4}(hs:zao f=true):f.length≤4096:=by simp only[zao,Bool.and_eq_true,decide_eq_true_eq] at hs; exact hs.1.1
theorem zio{f:List In4}(hk:∀ x∈f,x.k<4294967296)(a n:Nat):∀ x∈(f.drop a).take n,x.k<4294967296:=fun x hx=>hk x (List.mem_of_mem_drop (List.mem_of_mem_take hx))
theorem zqf[HasIns G][HasCheck G][HasWRight G][HasSpl G](f:List In4)(a n:Int)(hs:zao f=true)(hk:∀ x∈f,x.k<4294967296) :
  FP G 205 [FL f,.vs (zaL (hits f f.length)) .no,.int .i64 a,.int .i64 n] (.bool (zbc f a n)):=by
 refine zak HasSpl.h_splice_free (Nat.le_of_ble_eq_true rfl) ?_
 have hl:=zcg hs
 have hml:maxLen=9223372036854775807:=by decide
 by_cases h1:a<0
 ·have:zbc f a n=false:=by simp[zbc,inB,show¬0≤a by omega]
  simp[h1,this]
 by_cases h2:n<1
 ·have:zbc f a n=false:=by simp[zbc,inB,show¬1≤n by omega]
  simp[h1,h2,this]
 by_cases h3:(f.length:Int)≤a
 ·have:zbc f a n=false:=by simp[zbc,inB,show¬a<f.length by omega]
  simp[h1,h2,h3,FL,this]
 have s1:subI .i64 (f.length:Int) a=(f.length:Int)-a:=by rw[zaK]<;>omega
 by_cases h4:(f.length:Int)-a<n
 ·have:zbc f a n=false:=by simp[zbc,inB,show¬n≤f.length-a by omega]
  simp[h1,h2,h3,h4,s1,FL,this]
 have hin:inB f a n=true:=by simp only[inB,decide_eq_true_eq]; omega
 obtain⟨a,rfl⟩:=Int.eq_ofNat_of_zero_le (show 0≤a by omega)
 obtain⟨n,rfl⟩:=Int.eq_ofNat_of_zero_le (show 0≤n by omega)
 have hfr:zbc f (a:Int) (n:Int)=zbQ f a n:=by simp[zbc,hin]
 rw[hfr]
 have h1:((a:Int)<0)=False:=eq_false h1
 have h2':((n:Int)<1)=False:=eq_false h2
 have h2:(n=0)=False:=eq_false (by omega)
 have h3:((f.length:Int)≤(a:Int))=False:=eq_false h3
 have h4:((f.length:Int)-(a:Int)<(n:Int))=False:=eq_false h4
 have hbd:a+n≤f.length:=by omega
 have aa:addI .i64 (a:Int) (n:Int)=((a+n:Nat):Int):=addN (by omega)
 have a1:addI .i64 (a:Int) 1=((a+1:Nat):Int):=zag (by omega)
 have hw:=zb1 (G:=G) ((f.drop a).take n) (by rw[List.length_take]; omega) (zio hk a n)
 have hsl:List.take n (List.drop a (IL f))=IL ((f.drop a).take n):=by rw[zg0,zg1]
 have hhl:=zjg f f.length
 simp only[FL] at hw
 simp(disch:=omega)[h1,h2,h2',h3,h4,s1,FL,aa,leTn,hsl,-Int.natCast_add]
 refine zab hw ?_
 cases hwb:winB ((f.drop a).take n)
 ·simp[zbQ,hwb]
 have hfn:zbQ f a n=zcR f a (n-1):=by simp[zbQ,hwb]
 rw[hfn]
 simp[a1,-Int.natCast_add]
 refine W_up (n-1) (fun j=>[(1,.vs (zaL (hits f f.length)) .no),(2,.int .i64 a),(3,.int .i64 n),(9,.int .i64 ((a+1+j:Nat):Int))]) (fun _=>[]) (fun j=>zcR f a j=true) ?_ ?_
 ·simp[zaa,zac,zcR]
 intro j hj hp
 by_cases hlt:j<n-1
 ·have hF:((a+1+j:Nat):Int)<((a+n:Nat):Int):=by omega
  have hg:=zf4 f f.length (a+1+j) (by omega)
  obtain⟨_,hgv⟩:=List.getElem?_eq_some_iff.1 hg
  have a2:addI .i64 ((a+1+j:Nat):Int) 1=((a+1+(j+1):Nat):Int):=zag (by omega)
  cases hh:hitB f f.length (a+1+j)
  ·rw[hh] at hg hgv
   have hp':zcR f a (j+1)=true:=by rw[zlQ,hp,hh]; rfl
   simp(disch:=omega)[aa,ltT hF,hg,hgv,hhl,hlt,a2,hp',zaa,zac,-Int.natCast_add]
  ·rw[hh] at hg hgv
   have:=zk1 hh hlt
   simp(disch:=omega)[aa,ltT hF,hg,hgv,hhl,this,-Int.natCast_add]
 ·have hne:j=n-1:=by omega
  subst hne
  have hF:¬((a+1+(n-1):Nat):Int)<((a+n:Nat):Int):=by omega
  simp[aa,ltF hF,hp,-Int.natCast_add]
theorem zvQ[HasIns G][HasCheck G][HasWRight G][HasSpl G](f:List In4)(a n:Int)(hf:f.length≤maxLen)(hk:∀ x∈f,x.k<4294967296) :
  FP G 206 [FL f,.int .i64 a,.int .i64 n] (.bool (zcj f a n)):=by
 refine zak HasSpl.h_splice_Free (Nat.le_of_ble_eq_true rfl) ?_
 have hso:=zfs (G:=G) f hf hk
 simp
 refine zab hso ?_
 cases hs:zao f
 ·simp[zcj,hs]
 ·simp
  refine zab (zmf f hs hk) ?_
  simp
  refine zab (zqf f a n hs hk) ?_
  simp[zcj,hs]
theorem zow[HasR2 G][HasR5 G][HasR17 G][HasR22 G](f:List In4)(a n:Int)(hf:f.length≤maxLen)(hk:∀ x∈f,x.k<4294967296) :
  FP G 211 [FL f,.int .i64 a,.int .i64 n] (.bool (zcj f a n)):=by
 refine zak HasR22.h_hurdleref22_Free (Nat.le_of_ble_eq_true rfl) ?_
 have hso:=zm7 (G:=G) f hf hk
 simp
 refine zab hso ?_
 cases hs:zao f
 ·simp[zcj,hs]
 have hfz:zcj f a n=zbc f a n:=by simp[zcj,hs]
 rw[hfz]
 have hl:=zcg hs
 have hml:maxLen=9223372036854775807:=by decide
 by_cases h1:a<0
 ·have:zbc f a n=false:=by simp[zbc,inB,show¬0≤a by omega]
  simp[h1,this]
 by_cases h2:n<1
 ·have:zbc f a n=false:=by simp[zbc,inB,show¬1≤n by omega]
  simp[h1,h2,this]
 by_cases h3:(f.length:Int)≤a
 ·have:zbc f a n=false:=by simp[zbc,inB,show¬a<f.length by omega]
  simp[h1,h2,h3,FL,this]
 have s1:subI .i64 (f.length:Int) a=(f.length:Int)-a:=by rw[zaK]<;>omega
 by_cases h4:(f.length:Int)-a<n
 ·have:zbc f a n=false:=by simp[zbc,inB,show¬n≤f.length-a by omega]
  simp[h1,h2,h3,h4,s1,FL,this]
 have hin:inB f a n=true:=by simp only[inB,decide_eq_true_eq]; omega
 obtain⟨a,rfl⟩:=Int.eq_ofNat_of_zero_le (show 0≤a by omega)
 obtain⟨n,rfl⟩:=Int.eq_ofNat_of_zero_le (show 0≤n by omega)
 have hfr:zbc f (a:Int) (n:Int)=zbQ f a n:=by simp[zbc,hin]
 rw[hfr]
 have h1:((a:Int)<0)=False:=eq_false h1
 have h2':((n:Int)<1)=False:=eq_false h2
 have h2:(n=0)=False:=eq_false (by omega)
 have h3:((f.length:Int)≤(a:Int))=False:=eq_false h3
 have h4:((f.length:Int)-(a:Int)<(n:Int))=False:=eq_false h4
 have hbd:a+n≤f.length:=by omega
 have aa:addI .i64 (a:Int) (n:Int)=((a+n:Nat):Int):=addN (by omega)
 have a1:addI .i64 (a:Int) 1=((a+1:Nat):Int):=zag (by omega)
 have hw:=zgJ (G:=G) ((f.drop a).take n) (by rw[List.length_take]; omega) (zio hk a n)
 have hsl:List.take n (List.drop a (IL f))=IL ((f.drop a).take n):=by rw[zg0,zg1]
 simp only[FL] at hw
 simp(disch:=omega)[h1,h2,h2',h3,h4,s1,FL,aa,leTn,hsl,-Int.natCast_add]
 refine zab hw ?_
 cases hwb:winB ((f.drop a).take n)
 ·simp[zbQ,hwb]
 have hfn:zbQ f a n=zcR f a (n-1):=by simp[zbQ,hwb]
 rw[hfn]
 simp[a1,-Int.natCast_add]
 refine W_up (n-1) (fun j=>[(0,FL f),(1,.int .i64 a),(2,.int .i64 n),(7,.int .i64 ((a+1+j:Nat):Int))]) (fun _=>[]) (fun j=>zcR f a j=true) ?_ ?_
 ·simp[zaa,zac,zcR,FL]
 intro j hj hp
 by_cases hlt:j<n-1
 ·have hF:((a+1+j:Nat):Int)<((a+n:Nat):Int):=by omega
  have a2:addI .i64 ((a+1+j:Nat):Int) 1=((a+1+(j+1):Nat):Int):=zag (by omega)
  simp(disch:=omega)[aa,ltT hF,FL,-Int.natCast_add]
  refine W_up f.length (fun i=>[(0,FL f),(1,.int .i64 a),(2,.int .i64 n),(7,.int .i64 ((a+1+j:Nat):Int)),(8,.int .i64 i)]) (fun _=>[]) (fun i=>hitB f i (a+1+j)=false) ?_ ?_
  ·simp[zaa,zac,FL,hitB]
  intro i hi hq
  by_cases hil:i<f.length
  ·obtain⟨x,hfx⟩:∃ x,x=f[i]:=⟨_,rfl⟩
   have hg:f[i]?=some x:=by rw[List.getElem?_eq_getElem hil,hfx]
   have hD:f.getD i RET=x:=by rw[List.getD,hg]; rfl
   have hjm:=zuD (G:=G) f i (a+1+j) x hg (zdQ hs hg) (hk x (hfx▸List.getElem_mem hil)) (by omega) (by omega)
   simp only[FL] at hjm
   have hsu:=zhQ f i (a+1+j)
   rw[hq,hD,Bool.false_or] at hsu
   simp(disch:=omega)[FL,ltT,-Int.natCast_add]
   refine zab hjm ?_
   cases hjb:za9 x i (a+1+j)
   ·rw[hjb] at hsu
    simp(disch:=omega)[hil,zag,zaa,zac,FL,hsu,-Int.natCast_add]
   ·rw[hjb] at hsu
    have hh:hitB f f.length (a+1+j)=true:=by
     rw[hitB,List.any_eq_true]
     exact⟨i,List.mem_range.2 hil,by rw[hD]; exact hjb⟩
    have:=zk1 hh hlt
    simp[this]
  ·have hne:i=f.length:=by omega
   subst hne
   have hp':zcR f a (j+1)=true:=by rw[zlQ,hp,hq]; rfl
   simp(disch:=omega)[FL,hlt,a2,hp',zaa,zac,-Int.natCast_add]
 ·have hne:j=n-1:=by omega
  subst hne
  have hF:¬((a+1+(n-1):Nat):Int)<((a+n:Nat):Int):=by omega
  simp[aa,ltF hF,hp,FL,-Int.natCast_add]
end Go.Ev
/- A filter with another window: splice.Put. -/
namespace Go.Ev
open Go Go.RowKit
variable {G:Tbl}
def adjN(a e less i d:Nat):Nat:=if i<a∧e≤i+1+d then d-less else d
def putI(a e less i:Nat)(x:In4):In4:=if x.op=5 then{ x with k:=adjN a e less i x.k } else if isBr x.op then{ x with jt:=(adjN a e less i x.jt.toNat:Nat),jf:=(adjN a e less i x.jf.toNat:Nat) } else x
def pre(f:List In4)(a e less m:Nat):List In4:=(List.range m).map fun i=>putI a e less i (f.getD i RET)
def putL(f:List In4)(a n:Nat)(w:List In4):List In4:=pre f a (a+n) (n-w.length) a++w++f.drop (a+n)
def zhE(f:List In4)(a n:Int)(w:List In4):Bool:=zcj f a n&&winB w&&decide ((w.length:Int)≤n)
def zds(f:List In4)(a n:Nat)(w:List In4)(i:Nat):List In4 :=
 if i≤a then pre f a (a+n) (n-w.length) i else pre f a (a+n) (n-w.length) a++w++(f.take i).drop (a+n)
theorem zox(f:List In4)(a e less m:Nat):pre f a e less (m+1)=pre f a e less m++[putI a e less m (f.getD m RET)]:=by simp[pre,List.range_succ]
theorem zc4(f:List In4)(a e less m:Nat):(pre f a e less m).length=m:=by simp[pre]
theorem zr7{f:List In4}{a n:Nat}{w:List In4}{i:Nat}(hi:i≤f.length)(hw:w.length≤32):(zds f a n w i).length≤i+32:=by
 unfold zds
 split
 ·rw[zc4]; omega
 ·simp only[List.length_append,zc4,List.length_drop,List.length_take]; omega
theorem zr8{f:List In4}{a n:Nat}{w:List In4}(h:a+n≤f.length)(hn:0<n):zds f a n w f.length=putL f a n w:=by
 rw[zds,if_neg (by omega),List.take_length,putL]
theorem zvR[HasSpl G](a e less i d:Nat)(z:Blk)(y:List V)(hi:i≤5000)(hd:d<4294967296)(hl:less≤d+5000)(hle:i<a→e≤i+1+d→less≤d) :
  Big G (.F 207 [.int .i64 i,.int .i64 d,.ptr 0 0,.ptr 1 0,.ptr 2 0] [some (.cells [.int .i64 a]),some (.cells [.int .i64 e]),some (.cells [.int .i64 less]),some z,some (.cells y)] (.int .i64 (adjN a e less i d:Nat))
   [some (.cells [.int .i64 a]),some (.cells [.int .i64 e]),some (.cells [.int .i64 less]),some z,some (.cells y)]):=by
 refine F_of HasSpl.h_splice_Put_1 (Nat.le_of_ble_eq_true rfl) ?_
 have a1:addI .i64 (i:Int) 1=((i+1:Nat):Int):=zag (by omega)
 have a2:addI .i64 ((i+1:Nat):Int) (d:Int)=((i+1+d:Nat):Int):=addN (by omega)
 by_cases h1:i<a
 ·by_cases h2:e≤i+1+d
  ·have s1:subI .i64 (d:Int) (less:Int)=((adjN a e less i d:Nat):Int):=by
    have:=hle h1 h2
    rw[adjN,if_pos ⟨h1,h2⟩,zaK]<;>omega
   have h2':((e:Int)≤((i+1+d:Nat):Int))=True:=eq_true (by omega)
   simp[h1,a1,a2,h2',s1,-Int.natCast_add]
  ·have s1:adjN a e less i d=d:=by rw[adjN,if_neg (by omega)]
   have h2':((e:Int)≤((i+1+d:Nat):Int))=False:=eq_false (by omega)
   simp[h1,a1,a2,h2',s1,-Int.natCast_add]
 ·have s1:adjN a e less i d=d:=by rw[adjN,if_neg (by omega)]
  simp[h1,s1]
theorem zw1[HasIns G][HasCheck G][HasWRight G][HasSpl G](f w:List In4)(a n:Nat)(hf:f.length≤maxLen)(hw:w.length≤maxLen)(hk:∀ x∈f,x.k<4294967296)(hkw:∀ x∈w,x.k<4294967296)(h:zhE f a n w=true) :
  FP G 208 [FL f,.int .i64 a,.int .i64 n,FL w] (.tup [.vs (IL (putL f a n w)) .no,.int .i64 0]):=by
 refine zak HasSpl.h_splice_Put (Nat.le_of_ble_eq_true rfl) ?_
 have hfr:=zvQ (G:=G) f a n hf hk
 have hwr:=zb1 (G:=G) w hw hkw
 simp only[zhE,Bool.and_eq_true,decide_eq_true_eq] at h
 obtain⟨⟨h1,h2⟩,h3⟩:=h
 rw[h1] at hfr
 rw[h2] at hwr
 simp only[zcj,zbc,inB,Bool.and_eq_true,decide_eq_true_eq] at h1
 obtain⟨hs,⟨_,i2,i3,i4⟩,hfn⟩:=h1
 simp only[Int.toNat_natCast] at hfn
 have hlen:=zcg hs
 have hw32:w.length≤32:=by simp only[winB,Bool.and_eq_true,decide_eq_true_eq] at h2; exact h2.1
 have hbd:a+n≤f.length:=by omega
 have h3':((n:Int)<(w.length:Int))=False:=eq_false (by omega)
 have aa:addI .i64 (a:Int) (n:Int)=((a+n:Nat):Int):=addN (by omega)
 have ss:subI .i64 (n:Int) (w.length:Int)=((n-w.length:Nat):Int):=by rw[zaK]<;>omega
 simp only[FL] at hfr hwr
 simp[FL]
 refine zab hfr ?_
 simp
 refine zab hwr ?_
 simp[h3',aa,ss,-Int.natCast_add]
 obtain⟨T,hT⟩:∃ T:Nat→List In4,∀ j,T j=zds f a n w j:=⟨_,fun _=>rfl⟩
 have hT0:T 0=[]:=by rw[hT,zds,if_pos (by omega)]; rfl
 refine W_up f.length (fun i=>[(3,FL w),(5,.ptr 0 0),(10,.ptr 1 0),(12,.fn 207 [.ptr 0 0,.ptr 1 0,.ptr 2 0]),(13,.vs (IL (T i)) (.own 3)),(40,FL f),(41,.int .i64 f.length),(42,.int .i64 i)])
  (fun i=>[some (.cells [.int .i64 a]),some (.cells [.int .i64 ((a+n:Nat):Int)]),some (.cells [.int .i64 ((n-w.length:Nat):Int)]),some (.zone (T i).length)]) (fun _=>True) ?_ ?_
 ·simp[zaa,zac,FL,hT0]
 intro i hi _
 by_cases hlt:i<f.length
 ·have hTl:(T i).length≤i+32:=by rw[hT]; exact zr7 hi hw32
  obtain⟨x,hfx⟩:∃ x,x=f[i]:=⟨_,rfl⟩
  have hgg:=zaY hlt
  rw[←hfx] at hgg
  have hfx:=hfx.symm
  have hg:f[i]?=some x:=by rw[List.getElem?_eq_getElem hlt,hfx]
  have hD:f.getD i RET=x:=by rw[List.getD,hg]; rfl
  have hxm:x∈f:=hfx▸List.getElem_mem hlt
  have hkk:=hk x hxm
  have hbo:=zdQ hs hg
  have hcs:x.cs=[.int .i64 x.op,.int .i64 x.jt,.int .i64 x.jf,.int .u32 (x.k:Int)]:=rfl
  have hbr:=zcf (G:=G) x
  simp[IV,hcs] at hbr
  have hend:((a:Int)≤(i:Int))=(a≤i):=propext (by omega)
  by_cases hia:i=a
  ·have e1:((i:Int)==(a:Int))=true:=by simp[hia]
   have hTs:T (i+1)=T i++w:=by
    rw[hT,hT,zds,zds,if_neg (by omega),if_pos (by omega),hia]
    rw[List.drop_eq_nil_of_le (by rw[List.length_take]; omega)]; simp
   have hTl2:(T (i+1)).length=(T i).length+w.length:=by rw[hTs]; simp
   have hE:((i:Int)<((a+n:Nat):Int))=True:=eq_true (by omega)
   have hG:((a:Int)≤(i:Int))=True:=eq_true (by omega)
   have hap:IL (T i)++IL w=IL (T (i+1)):=by rw[zkm,hTs]
   by_cases hw0:w=[]
   ·subst hw0
    have hTe:T (i+1)=T i:=by rw[hTs]; simp
    simp(disch:=omega)[ltT,FL,hgg,hfx,hcs,e1,hE,hG,hTe,hlt,zag,zaa,zac,-Int.natCast_add]
   ·simp(disch:=omega)[ltT,FL,hgg,hfx,hcs,e1,hE,hG,zeY,hw0,leTn,hap,hTl2,hlt,zag,zaa,zac,-Int.natCast_add]
  have e1:((i:Int)==(a:Int))=false:=beqF (by omega)
  by_cases hmid:a≤i∧i<a+n
  ·have hTe:T (i+1)=T i:=by
    rw[hT,hT,zds,zds,if_neg (by omega),if_neg (by omega)]
    rw[List.drop_eq_nil_of_le (by rw[List.length_take]; omega),List.drop_eq_nil_of_le (by rw[List.length_take]; omega)]
   have hE:((i:Int)<((a+n:Nat):Int))=True:=eq_true (by omega)
   have hG:((a:Int)≤(i:Int))=True:=eq_true (by omega)
   simp(disch:=omega)[ltT,FL,hgg,hfx,hcs,e1,hE,hG,hTe,hlt,zag,zaa,zac,-Int.natCast_add]
  have hTs:T (i+1)=T i++[putI a (a+n) (n-w.length) i x]:=by
   rw[hT,hT]
   by_cases hlo:i<a
   ·rw[zds,zds,if_pos (by omega),if_pos (by omega),zox,hD]
   ·have hadj:∀ d,adjN a (a+n) (n-w.length) i d=d:=fun d=>by rw[adjN,if_neg (by omega)]
    have hpx:putI a (a+n) (n-w.length) i x=x:=by
     unfold putI
     simp only[hadj]
     obtain⟨op,jt,jf,k⟩:=x
     by_cases h5:op=5
     ·simp[h5]
     ·cases hbx:isBr op
      ·simp[h5]
      ·obtain⟨b1,b2,b3,b4⟩:=hbo hbx
       simp only at b1 b2 b3 b4
       simp[h5]; omega
    have hdr:(f.take (i+1)).drop (a+n)=(f.take i).drop (a+n)++[x]:=by
     rw[List.take_add_one,hg,Option.toList_some,List.drop_append_of_le_length (by rw[List.length_take]; omega)]
    rw[hpx,zds,zds,if_neg (by omega),hdr]
    by_cases hia2:i≤a
    ·omega
    ·rw[if_neg hia2,←List.append_assoc]
  have hTl2:(T (i+1)).length=(T i).length+1:=by rw[hTs]; simp
  have ho:∀ d:Nat,d<4294967296→_:=fun d hd=>zvR (G:=G) a (a+n) (n-w.length) i d (.zone (T i).length) x.cs (by omega) hd (by omega) (fun h1 h2=>by omega)
  have hadl:∀ d:Nat,adjN a (a+n) (n-w.length) i d≤d:=fun d=>by unfold adjN; split<;>omega
  have hsn:∀ y:In4,y=putI a (a+n) (n-w.length) i x→IL (T i)++[y.cs]=IL (T (i+1)):=fun y hy=>by rw[hTs,hy]; exact zkX _ _
  by_cases hai:a≤i
  ·have hG:((a:Int)≤(i:Int))=True:=eq_true (by omega)
   have hE:((i:Int)<((a+n:Nat):Int))=False:=eq_false (by omega)
   by_cases h5:x.op=5
   ·have b5:(x.op==5)=true:=by simp[h5]
    have hc:=zda x.k hkk
    have hov:=ho x.k hkk
    have hc2:zaP .u32 ((adjN a (a+n) (n-w.length) i x.k:Nat):Int)=((adjN a (a+n) (n-w.length) i x.k:Nat):Int):=by unfold zaP; exact zaT (by have:=hadl x.k; omega)
    have hap:=hsn ⟨x.op,x.jt,x.jf,adjN a (a+n) (n-w.length) i x.k⟩ (by simp[putI,h5])
    simp only[In4.cs] at hov hap
    simp(disch:=omega)[ltT,FL,hgg,hfx,hcs,e1,hG,hE,b5,hc,-Int.natCast_add]
    refine zaF hov (by simp) ?_
    simp(disch:=omega)[zac,hc2,leTn,hap,hTl2,hlt,zag,zaa,-Int.natCast_add]
   have b5:(x.op==5)=false:=beqF h5
   simp(disch:=omega)[ltT,FL,hgg,hfx,hcs,e1,hG,hE,b5,-Int.natCast_add]
   refine zab hbr ?_
   cases hbx:isBr x.op
   ·have hap:=hsn x (by simp[putI,h5,hbx])
    simp only[In4.cs] at hap
    simp(disch:=omega)[leTn,hap,hTl2,hlt,zag,zaa,zac,-Int.natCast_add]
   ·obtain⟨b1,b2,b3,b4⟩:=hbo hbx
    have hov:=ho x.jt.toNat (by omega)
    have hov2:=ho x.jf.toNat (by omega)
    have hap:=hsn ⟨x.op,(adjN a (a+n) (n-w.length) i x.jt.toNat:Nat),(adjN a (a+n) (n-w.length) i x.jf.toNat:Nat),x.k⟩ (by simp[putI,h5,hbx])
    have j1:((x.jt.toNat:Nat):Int)=x.jt:=by omega
    have j2:((x.jf.toNat:Nat):Int)=x.jf:=by omega
    simp only[In4.cs,j1,j2] at hov hov2 hap
    simp
    refine zaF hov (by simp[zac]) ?_
    simp[zac]
    refine zaF hov2 (by simp[zac]) ?_
    simp(disch:=omega)[zac,leTn,hap,hTl2,hlt,zag,zaa,-Int.natCast_add]
    omega
  ·have hG:((a:Int)≤(i:Int))=False:=eq_false (by omega)
   by_cases h5:x.op=5
   ·have b5:(x.op==5)=true:=by simp[h5]
    have hc:=zda x.k hkk
    have hov:=ho x.k hkk
    have hc2:zaP .u32 ((adjN a (a+n) (n-w.length) i x.k:Nat):Int)=((adjN a (a+n) (n-w.length) i x.k:Nat):Int):=by unfold zaP; exact zaT (by have:=hadl x.k; omega)
    have hap:=hsn ⟨x.op,x.jt,x.jf,adjN a (a+n) (n-w.length) i x.k⟩ (by simp[putI,h5])
    simp only[In4.cs] at hov hap
    simp(disch:=omega)[ltT,FL,hgg,hfx,hcs,e1,hG,b5,hc,-Int.natCast_add]
    refine zaF hov (by simp) ?_
    simp(disch:=omega)[zac,hc2,leTn,hap,hTl2,hlt,zag,zaa,-Int.natCast_add]
   have b5:(x.op==5)=false:=beqF h5
   simp(disch:=omega)[ltT,FL,hgg,hfx,hcs,e1,hG,b5,-Int.natCast_add]
   refine zab hbr ?_
   cases hbx:isBr x.op
   ·have hap:=hsn x (by simp[putI,h5,hbx])
    simp only[In4.cs] at hap
    simp(disch:=omega)[leTn,hap,hTl2,hlt,zag,zaa,zac,-Int.natCast_add]
   ·obtain⟨b1,b2,b3,b4⟩:=hbo hbx
    have hov:=ho x.jt.toNat (by omega)
    have hov2:=ho x.jf.toNat (by omega)
    have hap:=hsn ⟨x.op,(adjN a (a+n) (n-w.length) i x.jt.toNat:Nat),(adjN a (a+n) (n-w.length) i x.jf.toNat:Nat),x.k⟩ (by simp[putI,h5,hbx])
    have j1:((x.jt.toNat:Nat):Int)=x.jt:=by omega
    have j2:((x.jf.toNat:Nat):Int)=x.jf:=by omega
    simp only[In4.cs,j1,j2] at hov hov2 hap
    simp
    refine zaF hov (by simp[zac]) ?_
    simp[zac]
    refine zaF hov2 (by simp[zac]) ?_
    simp(disch:=omega)[zac,leTn,hap,hTl2,hlt,zag,zaa,-Int.natCast_add]
    omega
 ·have hne:i=f.length:=by omega
  subst hne
  have hTe:T f.length=putL f a n w:=by rw[hT,zr8 hbd (by omega)]
  simp[hTe]
end Go.Ev
/- A filter's free pieces: splice.Pieces, hurdleref22.Pieces. -/
namespace Go.Ev
open Go Go.RowKit
variable {G:Tbl}
abbrev Pc:=Nat×Nat
def pr(c:Nat→Bool)(a k j:Nat):List Pc:=(List.range j).flatMap fun i=>if c (k-i) then [(a,k-i)] else []
theorem zfw(c:Nat→Bool)(a k j:Nat):pr c a k (j+1)=pr c a k j++(if c (k-j)=true then [(a,k-j)] else []):=by
 simp[pr,List.range_succ,List.flatMap_append]
theorem zkr(c:Nat→Bool)(a:Nat):∀(d k:Nat),(∀ m,k<m→m≤k+d→c m=false)→∀ j,pr c a (k+d) (d+j)=pr c a k j
 | 0,k,_,j=>by simp
 | d+1,k,h,0=>by
  have:=zkr c a d (k+1) (fun m h1 h2=>h m (by omega) (by omega)) 1
  rw[show k+(d+1)=k+1+d by omega,show d+1+0=d+1 by omega,this]
  simp[pr,h (k+1) (by omega) (by omega)]
 | d+1,k,h,j+1=>by
  have ih:=zkr c a (d+1) k h j
  rw[show d+1+(j+1)=(d+1+j)+1 by omega,zfw,ih,zfw]
  rw[show k+(d+1)-(d+1+j)=k-j by omega]
theorem zlR(c:Nat→Bool)(a k:Nat):∀ j,(pr c a k j).length≤j
 | 0=>by simp[pr]
 | j+1=>by
  rw[zfw,List.length_append]
  have:=zlR c a k j
  split<;>simp<;>omega
def cnd(f:List In4)(most:Int)(a m:Nat):Bool:=decide ((m:Int)≤most)&&decide ((m:Int)≤f.length-a)&&zcj f a m
def rows(f:List In4)(most:Int)(a:Nat):List Pc:=(List.range a).flatMap fun b=>pr (cnd f most b) b 32 31
theorem zgh(f:List In4)(most:Int)(a:Nat):rows f most (a+1)=rows f most a++pr (cnd f most a) a 32 31:=by
 simp[rows,List.range_succ,List.flatMap_append]
theorem zg8(f:List In4)(most:Int):∀ a,(rows f most a).length≤31*a
 | 0=>by simp[rows]
 | a+1=>by
  rw[zgh,List.length_append]
  have:=zg8 f most a
  have:=zlR (cnd f most a) a 32 31
  omega
theorem zqg{c:Nat→Bool}(h:∀ m,c m=false)(a k:Nat):∀ j,pr c a k j=[]
 | 0=>rfl
 | j+1=>by rw[zfw,zqg h a k j,h]; rfl
theorem zng{f:List In4}(h:zao f=false)(most:Int):∀ a,rows f most a=[]
 | 0=>rfl
 | a+1=>by rw[zgh,zng h most a,zqg (fun m=>by simp[cnd,zcj,h])]; rfl
theorem zw2{f:List In4}{most:Int}{a:Nat}(k:Int)(hk:k=min most (min ((f.length:Int)-a) 32)):pr (cnd f most a) a 32 31=pr (cnd f most a) a k.toNat (k.toNat-1):=by
 by_cases h2:k<1
 ·have:∀ m,1≤m→m≤32→cnd f most a m=false:=by
   intro m h1 h3
   by_cases hm:(m:Int)≤most
   ·have:¬(m:Int)≤f.length-a:=by omega
    simp[cnd,this]
   ·simp[cnd,hm]
  have h3:=zkr (cnd f most a) a 31 1 (fun m h1 h2=>this m (by omega) (by omega)) 0
  simp only[Nat.add_zero] at h3
  rw[show k.toNat-1=0 by omega,h3]
  rfl
 ·have h3:=zkr (cnd f most a) a (32-k.toNat) k.toNat (fun m h1 h3=>by
   by_cases hm:(m:Int)≤most
   ·have:¬(m:Int)≤f.length-a:=by omega
    simp[cnd,this]
   ·simp[cnd,hm]) (k.toNat-1)
  rw[show k.toNat+(32-k.toNat)=32 by omega,show 32-k.toNat+(k.toNat-1)=31 by omega] at h3
  exact h3
def zcF(l:List Pc):List (List V):=l.map fun p=>[.int .i64 (p.1:Int),.int .i64 (p.2:Int)]
@[simp] theorem zw3 (l:List Pc):(zcF l).length=l.length:=by simp[zcF]
@[simp] theorem zBm:zcF []=[]:=rfl
@[simp] theorem zlS (l:List Pc) (a m:Nat):zcF l++[[V.int .i64 (a:Int),.int .i64 (m:Int)]]=zcF (l++[(a,m)]):=by simp[zcF]
@[simp] theorem zBn (l:List Pc) (i:Nat):(zcF l)[i]?=(l[i]?).map fun p=>[.int .i64 (p.1:Int),.int .i64 (p.2:Int)]:=by simp[zcF]
@[simp] theorem zBJ (l:List Pc):(∀ f∈zcF l,f.length=2)=True:=by
 simp only[eq_iff_iff,iff_true]
 intro f hf
 simp only[zcF,List.mem_map] at hf
 obtain⟨x,_,rfl⟩:=hf
 rfl
theorem zr9[HasIns G][HasCheck G][HasWRight G][HasSpl G](f:List In4)(most:Int)(hf:f.length≤maxLen)(hk:∀ x∈f,x.k<4294967296)(hm:-9223372036854775808≤most∧most≤9223372036854775807) :
  FP G 209 [FL f,.int .i64 most] (.vs (zcF (rows f most f.length)) .no):=by
 refine zak HasSpl.h_splice_Pieces (Nat.le_of_ble_eq_true rfl) ?_
 have hso:=zfs (G:=G) f hf hk
 simp
 refine zab hso ?_
 cases hs:zao f
 ·rw[zng hs]; simp
 have hl:=zcg hs
 simp
 refine zab (zmf f hs hk) ?_
 simp[FL]
 refine W_up f.length (fun a=>[(0,FL f),(1,.int .i64 most),(5,.vs (zaL (hits f f.length)) .no),(6,.vs (zcF (rows f most a)) (.own 0)),(15,.int .i64 f.length),(16,.int .i64 a)]) (fun a=>[some (.zone (rows f most a).length)]) (fun _=>True) ?_ ?_
 ·simp[zaa,zac,FL,rows]
 intro a ha _
 have hrl:=zg8 f most a
 by_cases hlt:a<f.length
 ·obtain⟨k,hkk⟩:∃ k,k=min most (min ((f.length:Int)-a) 32):=⟨_,rfl⟩
  have hpm:=zw2 k hkk
  have s1:subI .i64 (f.length:Int) (a:Int)=(f.length:Int)-a:=by rw[zaK]<;>omega
  have hkm:(if 32<if(f.length:Int)-(a:Int)<most then(f.length:Int)-(a:Int) else most then 32 else if(f.length:Int)-(a:Int)<most then(f.length:Int)-(a:Int) else most)=k:=by omega
  simp(disch:=omega)[ltT,FL,s1,mmGo,mmI,hkm,-Int.natCast_add]
  obtain⟨T,hT⟩:∃ T:Nat→List Pc,∀ j,T j=rows f most a++pr (cnd f most a) a k.toNat j:=⟨_,fun _=>rfl⟩
  have hT0:T 0=rows f most a:=by rw[hT]; simp[pr]
  refine W_up (k.toNat-1) (fun j=>[(0,FL f),(1,.int .i64 most),(5,.vs (zaL (hits f f.length)) .no),(6,.vs (zcF (T j)) (.own 0)),(7,.int .i64 a),(8,.int .i64 (k-j)),(15,.int .i64 f.length),(16,.int .i64 a)])
   (fun j=>[some (.zone (T j).length)]) (fun _=>True) ?_ ?_
  ·simp[zaa,zac,FL,hT0]
  intro j hj _
  have hpl:=zlR (cnd f most a) a k.toNat j
  have hll:(T j).length≤31*a+j:=by rw[hT,List.length_append]; omega
  have hps:=zfw (cnd f most a) a k.toNat j
  by_cases hjl:j<k.toNat-1
  ·have hge:(2:Int)≤k-j:=by omega
   have e1:k-(j:Int)=((k.toNat-j:Nat):Int):=by omega
   have hfr:=zqf (G:=G) f a ((k.toNat-j:Nat):Int) hs hk
   have s2:subI .i64 ((k.toNat-j:Nat):Int) 1=k-((j+1:Nat):Int):=by rw[zaK]<;>omega
   have hle:((2:Int)≤((k.toNat-j:Nat):Int))=True:=eq_true (by omega)
   have hcn:cnd f most a (k.toNat-j)=zbc f a ((k.toNat-j:Nat):Int):=by
    have h1:((k.toNat-j:Nat):Int)≤most:=by omega
    have h2:((k.toNat-j:Nat):Int)≤f.length-a:=by omega
    simp[cnd,h1,h2,zcj,hs]
   simp only[FL] at hfr
   rw[hcn] at hps
   rw[e1]
   simp(disch:=omega)[hle,FL,-Int.natCast_add]
   refine zab hfr ?_
   cases hfb:zbc f a ((k.toNat-j:Nat):Int)
   ·rw[hfb] at hps
    have hsame:T (j+1)=T j:=by rw[hT,hT,hps]; simp
    simp(disch:=omega)[s2,hjl,hsame,zaa,zac,FL,-Int.natCast_add]
   ·rw[hfb] at hps
    simp only[if_true] at hps
    have hsn:T (j+1)=T j++[(a,k.toNat-j)]:=by rw[hT,hT,hps,List.append_assoc]
    have hll2:(T (j+1)).length=(T j).length+1:=by rw[hsn]; simp
    have hsn2:zcF (T j)++[[V.int .i64 (a:Int),.int .i64 ((k.toNat-j:Nat):Int)]]=zcF (T (j+1)):=by rw[zlS,hsn]
    simp(disch:=omega)[leTn,hsn2,hll2,s2,hjl,zaa,zac,FL,-Int.natCast_add,-zlS]
  ·have hne:j=k.toNat-1:=by omega
   subst hne
   have hF:((2:Int)≤k-((k.toNat-1:Nat):Int))=False:=eq_false (by omega)
   have hTe:T (k.toNat-1)=rows f most (a+1):=by rw[hT,←hpm,←zgh]
   rw[hTe]
   simp(disch:=omega)[hF,hlt,zag,zaa,zac,FL,-Int.natCast_add]
 ·have hne:a=f.length:=by omega
  subst hne
  simp
def zcG(t:Tk)(l:List Pc):List (List V):=l.map fun p=>[.vs [[.int .i64 (p.1:Int)],[.int .i64 (p.2:Int)]] t]
@[simp] theorem zw4 (t:Tk) (l:List Pc):(zcG t l).length=l.length:=by simp[zcG]
@[simp] theorem zBo (t:Tk):zcG t []=[]:=rfl
theorem zq5(t:Tk)(l:List Pc)(a m:Nat):zcG t l++[[V.vs [[.int .i64 (a:Int)],[.int .i64 (m:Int)]] t]]=zcG t (l++[(a,m)]):=by simp[zcG]
@[simp] theorem zBp (t:Tk) (l:List Pc) (i:Nat):(zcG t l)[i]?=(l[i]?).map fun p=>[.vs [[.int .i64 (p.1:Int)],[.int .i64 (p.2:Int)]] t]:=by simp[zcG]
@[simp] theorem zBK (t:Tk) (l:List Pc):(∀ f∈zcG t l,f.length=1)=True:=by
 simp only[eq_iff_iff,iff_true]
 intro f hf
 simp only[zcG,List.mem_map] at hf
 obtain⟨x,_,rfl⟩:=hf
 rfl
theorem zq6[HasR2 G][HasR5 G][HasR17 G][HasR22 G](f:List In4)(most:Int)(hf:f.length≤1000)(hk:∀ x∈f,x.k<4294967296) :
  FP G 214 [FL f,.int .i64 most] (.vs (zcG .full (rows f most f.length)) .no):=by
 refine zak HasR22.h_hurdleref22_Pieces (Nat.le_of_ble_eq_true rfl) ?_
 simp[FL]
 refine W_up f.length (fun a=>[(0,FL f),(1,.int .i64 most),(5,.vs (zcG .full (rows f most a)) (.own 0)),(6,.int .i64 a)]) (fun a=>[some (.zone (rows f most a).length)]) (fun _=>True) ?_ ?_
 ·simp[zaa,zac,FL,rows]
 intro a ha _
 have hrl:=zg8 f most a
 by_cases hlt:a<f.length
 ·simp(disch:=omega)[ltT,FL,-Int.natCast_add]
  obtain⟨T,hT⟩:∃ T:Nat→List Pc,∀ j,T j=rows f most a++pr (cnd f most a) a 32 j:=⟨_,fun _=>rfl⟩
  have hT0:T 0=rows f most a:=by rw[hT]; simp[pr]
  refine W_up 31 (fun j=>[(0,FL f),(1,.int .i64 most),(5,.vs (zcG .full (T j)) (.own 0)),(6,.int .i64 a),(7,.int .i64 ((32:Int)-j))])
   (fun j=>[some (.zone (T j).length)]) (fun _=>True) ?_ ?_
  ·simp[zaa,zac,FL,hT0]
  intro j hj _
  have hpl:=zlR (cnd f most a) a 32 j
  have hll:(T j).length≤31*a+j:=by rw[hT,List.length_append]; omega
  have hps:=zfw (cnd f most a) a 32 j
  by_cases hjl:j<31
  ·have e1:(32:Int)-(j:Int)=((32-j:Nat):Int):=by omega
   have hle:((2:Int)≤((32-j:Nat):Int))=True:=eq_true (by omega)
   have s2:subI .i64 ((32-j:Nat):Int) 1=(32:Int)-((j+1:Nat):Int):=by rw[zaK]<;>omega
   have s1:subI .i64 (f.length:Int) (a:Int)=(f.length:Int)-a:=by rw[zaK]<;>omega
   have hfr:=zow (G:=G) f a ((32-j:Nat):Int) (by have:maxLen=9223372036854775807:=(by decide); omega) hk
   simp only[FL] at hfr
   have no:cnd f most a (32-j)=false→T (j+1)=T j:=by
    intro h; rw[hT,hT,hps,h]; simp
   rw[e1]
   by_cases hm:((32-j:Nat):Int)≤most
   ·by_cases hl2:((32-j:Nat):Int)≤(f.length:Int)-a
    ·have hcn:cnd f most a (32-j)=zcj f a ((32-j:Nat):Int):=by simp only[cnd,hm,hl2,decide_true,Bool.true_and]
     simp(disch:=omega)[hle,FL,hm,s1,hl2]
     refine zab hfr ?_
     cases hfb:zcj f a ((32-j:Nat):Int)
     ·have hsame:=no (hcn.trans hfb)
      simp(disch:=omega)[s2,hjl,hsame,zaa,zac,FL]
     ·have hsn:T (j+1)=T j++[(a,32-j)]:=by rw[hT,hT,hps,hcn,hfb,List.append_assoc]; rfl
      have hll2:(T (j+1)).length=(T j).length+1:=by rw[hsn]; simp
      have hsn2:zcG .full (T j)++[[V.vs [[.int .i64 (a:Int)],[.int .i64 ((32-j:Nat):Int)]] .full]]=zcG .full (T (j+1)):=by rw[zq5,hsn]
      simp(disch:=omega)[leTn,hsn2,hll2,s2,hjl,zaa,zac,FL]
    ·have hsame:=no (by simp only[cnd,hl2,decide_false,Bool.and_false,Bool.false_and])
     simp(disch:=omega)[hle,FL,hm,s1,hl2,s2,hjl,hsame,zaa,zac]
   ·have hsame:=no (by simp only[cnd,hm,decide_false,Bool.false_and])
    simp(disch:=omega)[hle,FL,hm,s2,hjl,hsame,zaa,zac]
  ·have hne:j=31:=by omega
   subst hne
   have hTe:T 31=rows f most (a+1):=by rw[hT,←zgh]
   rw[hTe]
   simp(disch:=omega)[hlt,zag,zaa,zac,FL,-Int.natCast_add]
 ·have hne:a=f.length:=by omega
  subst hne
  simp[FL]
theorem zsa{c:Nat→Bool}{a k:Nat}{p:Pc}:∀{j:Nat},p∈pr c a k j→p.1=a∧c p.2=true∧p.2≤k∧k<p.2+j
 | 0,h=>by simp[pr] at h
 | j+1,h=>by
  rw[zfw,List.mem_append] at h
  rcases h with h|h
  ·obtain⟨h1,h2,h3,h4⟩:=zsa h; exact⟨h1,h2,h3,by omega⟩
  ·split at h
   ·rename_i hc
    simp only[List.mem_singleton] at h
    subst h
    exact⟨rfl,hc,by simp,by simp only; omega⟩
   ·cases h
theorem ziO{f:List In4}{most:Int}{p:Pc}:∀{n:Nat},p∈rows f most n→p.1<n∧cnd f most p.1 p.2=true∧2≤p.2∧p.2≤32
 | 0,h=>by simp[rows] at h
 | n+1,h=>by
  rw[zgh,List.mem_append] at h
  rcases h with h|h
  ·obtain⟨h1,h2⟩:=ziO h; exact⟨by omega,h2⟩
  ·obtain⟨h1,h2,h3,h4⟩:=zsa h
   exact⟨by omega,by rw[h1]; exact h2,by omega,h3⟩
end Go.Ev
/- The laws SpliceSound and SpliceSelf. -/
namespace Go.Ev
open Go Go.RowKit
variable {G:Tbl}
theorem zoy:∀{f:List In4},(∀ i x,f[i]?=some x→oneB x (f.length-1-i)=true)→zaN f=true
 | [],_=>rfl
 | x::f,h=>by
  rw[zaN,Bool.and_eq_true]
  refine⟨by have:=h 0 x rfl; simpa using this,zoy fun i y hy=>?_⟩
  have:=h (i+1) y (by simpa using hy)
  rw[←this]; congr 1; simp only[List.length_cons]; omega
theorem zsb{x:In4}(a e less i:Nat)(h:zaV x=true)(hr:zbk x=true):zaV (putI a e less i x)=true∧zbk (putI a e less i x)=true:=by
 have hbo:=zb8 h
 have hadl:∀ d:Nat,adjN a e less i d≤d:=fun d=>by unfold adjN; split<;>omega
 unfold putI
 by_cases h5:x.op=5
 ·rw[if_pos h5]
  refine⟨?_,?_⟩
  ·have hs:za5 5=some (5,[106,97],true,false):=by decide
   unfold zaV at h ⊢
   simp only[h5,hs,Bool.true_or,Bool.true_and] at h ⊢
   exact h
  ·simp[zbk,h5]
 ·rw[if_neg h5]
  by_cases hb:isBr x.op=true
  ·rw[if_pos hb]
   obtain⟨b1,b2,b3,b4⟩:=hbo hb
   have:=hadl x.jt.toNat
   have:=hadl x.jf.toNat
   refine⟨?_,?_⟩
   ·unfold zaV at h ⊢
    simp only at h ⊢
    split at h
    ·rename_i r hsr
     simp only[hsr,Bool.and_eq_true] at h ⊢
     refine⟨h.1,?_⟩
     have key:∀ r∈zaC,isBr r.1=r.2.2.2:=by decide
     obtain⟨q1,q2⟩:=zc2 hsr
     have:=key r q2
     rw[q1,hb] at this
     rw[←this]
     simp only[if_true,decide_eq_true_eq]
     omega
    ·cases h
   ·have hn:∀ p∈[21,37,53,69,29,45,61,(77:Int)],p≠32∧p≠52∧¬(p=2∨p=3∨p=96∨p=97)∧¬(p=100∨p=116):=by decide
    obtain⟨n1,n2,n3,n4⟩:=hn _ (by simpa[isBr] using hb)
    simp only[zbk,n1,n2,n3,n4,if_false]
  ·rw[if_neg hb]; exact⟨h,hr⟩
theorem zw5(a e less i:Nat)(x:In4):(putI a e less i x).op=x.op:=by
 unfold putI
 split
 ·rfl
 ·split<;>rfl
theorem zsc{x:In4}(h:zaJ x=true)(left:Nat):oneB x left=true:=by
 simp only[zaJ,Bool.and_eq_true] at h
 rw[zjw h.1.1,h.1.2,h.2]; rfl
theorem zks{w:List In4}(h:winB w=true):∀ x∈w,zaJ x=true:=by
 simp only[winB,Bool.and_eq_true,List.all_eq_true] at h
 exact h.2
theorem znh{f:List In4}{a n:Nat}(hs:zao f=true)(hf:zbQ f a n=true)(hn:0<n)(hbd:a+n≤f.length):a+n<f.length:=by
 by_cases h:a+n<f.length
 ·exact h
 ·exfalso
  have hg:f[a+n-1]?=some (f[a+n-1]'(by omega)):=List.getElem?_eq_getElem (by omega)
  obtain⟨_,h2,_⟩:=zeD hs hg
  have hm:f[a+n-1]'(by omega)∈(f.drop a).take n:=by
   refine List.mem_of_getElem? (i:=n-1) ?_
   rw[List.getElem?_take,if_pos (by omega),List.getElem?_drop,show a+(n-1)=a+n-1 by omega]
   exact hg
  simp only[zbQ,Bool.and_eq_true] at hf
  have hp:=zks hf.1 _ hm
  simp only[zaJ,Bool.and_eq_true] at hp
  have:=h2 (ziM hp.1.1).2.2
  omega
theorem zsd{f:List In4}{a n:Nat}(hf:zbQ f a n=true){i:Nat}{x:In4}(hg:f[i]?=some x){t:Nat}(h1:a<t)(h2:t<a+n):za9 x i t=false:=by
 simp only[zbQ,Bool.and_eq_true,zcR,List.all_eq_true,List.mem_range,Bool.not_eq_true'] at hf
 have:=hf.2 (t-a-1) (by omega)
 rw[show a+1+(t-a-1)=t by omega,hitB,←Bool.not_eq_true,List.any_eq_true] at this
 rw[←Bool.not_eq_true]
 intro h
 refine this ⟨i,List.mem_range.2 (List.getElem?_eq_some_iff.1 hg).1,?_⟩
 rw[List.getD,hg]; exact h
theorem ziP{f w:List In4}{a n:Nat}(hbd:a+n≤f.length):(putL f a n w).length=f.length-n+w.length:=by
 simp only[putL,List.length_append,zc4,List.length_drop]; omega
theorem zse{f w:List In4}{a n:Nat}(hs:zao f=true)(hf:zbQ f a n=true)(hn:0<n)(hbd:a+n≤f.length)(hw:winB w=true)(hwn:w.length≤n):zao (putL f a n w)=true:=by
 have hlast:=znh hs hf hn hbd
 have hL:=ziP (w:=w) hbd
 have hl:=zcg hs
 have h1:zaN (putL f a n w)=true:=by
  refine zoy fun i x hx=>?_
  rw[hL]
  by_cases hia:i<a
  ·rw[putL,List.append_assoc,List.getElem?_append_left (by rw[zc4]; exact hia)] at hx
   have hg:f[i]?=some (f[i]'(by omega)):=List.getElem?_eq_getElem (by omega)
   obtain⟨y,hy⟩:∃ y,y=f[i]'(by omega):=⟨_,rfl⟩
   rw[←hy] at hg
   have hx2:x=putI a (a+n) (n-w.length) i y:=by
    rw[pre,List.getElem?_map,List.getElem?_range hia] at hx
    simp only[Option.map_some,Option.some.injEq] at hx
    rw[←hx,List.getD,hg]; rfl
   subst hx2
   have ho:=(zeD hs hg).1
   simp only[oneB,Bool.and_eq_true] at ho
   obtain⟨⟨⟨o1,o2⟩,o3⟩,o4⟩:=ho
   obtain⟨r1,r2⟩:=zsb a (a+n) (n-w.length) i o1 o2
   have hbo:=zb8 o1
   rw[oneB,zw5,r1,r2]
   have tgt:∀ d:Nat,za9 y i (i+1+d)=true→i+1+d<f.length→adjN a (a+n) (n-w.length) i d<f.length-n+w.length-1-i:=by
    intro d hj hd
    have hnh:¬(a<i+1+d∧i+1+d<a+n):=fun⟨h1,h2⟩=>by rw[zsd hf hg h1 h2] at hj; cases hj
    unfold adjN
    split<;>omega
   by_cases h5:y.op=5
   ·have hb:isBr y.op=false:=by rw[h5]; decide
    rw[if_pos h5,decide_eq_true_eq] at o3
    have:=tgt y.k (by simp[za9,h5]) (by omega)
    simp only[hb,h5,if_true,Bool.true_and,Bool.false_eq_true,if_false,Bool.and_true,decide_eq_true_eq,show isBr 5=false by decide]
    simp only[putI,h5,if_true]
    exact this
   ·cases hb:isBr y.op
    ·simp[h5]
    ·obtain⟨b1,b2,b3,b4⟩:=hbo hb
     rw[if_pos hb,decide_eq_true_eq] at o4
     have t1:=tgt y.jt.toNat (by simp[za9,h5,hb]) (by omega)
     have t2:=tgt y.jf.toNat (by simp[za9,h5,hb]) (by omega)
     simp only[h5,hb,if_false,if_true,Bool.true_and,decide_eq_true_eq]
     simp only[putI,h5,hb,if_false,if_true]
     omega
  ·rw[putL,List.append_assoc,List.getElem?_append_right (by rw[zc4]; omega),zc4] at hx
   by_cases hiw:i-a<w.length
   ·rw[List.getElem?_append_left hiw] at hx
    exact zsc (zks hw x (List.mem_of_getElem? hx)) _
   ·rw[List.getElem?_append_right (by omega),List.getElem?_drop] at hx
    have ho:=(zeD hs hx).1
    rw[←ho]; congr 1
    have:=(List.getElem?_eq_some_iff.1 hx).1
    omega
 have h2:endB (putL f a n w)=true:=by
  have he:endB f=true:=by simp only[zao,Bool.and_eq_true] at hs; exact hs.2
  have hne:f.drop (a+n)≠[]:=by
   intro h
   have:=congrArg List.length h
   rw[List.length_drop] at this; simp at this; omega
  have:(putL f a n w).getLast?=f.getLast?:=by
   rw[putL,List.getLast?_append,List.getLast?_drop,if_neg (by omega)]
   cases hq:f.getLast? with
   | none=>simp only[endB,hq] at he; cases he
   | some z=>rfl
  simp only[endB,this]
  exact he
 have h3:(putL f a n w).length≤4096:=by rw[hL]; omega
 simp[zao,h1,h2,h3]
theorem zAM{f w:List In4}{a n:Nat}(hk:∀ x∈f,x.k<4294967296)(hkw:∀ x∈w,x.k<4294967296):∀ x∈putL f a n w,x.k<4294967296:=by
 intro x hx
 simp only[putL,List.mem_append] at hx
 rcases hx with(hx|hx)|hx
 ·simp only[pre,List.mem_map,List.mem_range] at hx
  obtain⟨i,hi,rfl⟩:=hx
  have hy:(f.getD i RET).k<4294967296:=by
   rw[List.getD]
   cases hg:f[i]? with
   | none=>decide
   | some z=>exact hk z (List.mem_of_getElem? hg)
  generalize f.getD i RET=y at hy
  have hadl:∀ d:Nat,adjN a (a+n) (n-w.length) i d≤d:=fun d=>by unfold adjN; split<;>omega
  unfold putI
  split
  ·have:=hadl y.k; simp only; omega
  ·split<;>exact hy
 ·exact hkw x hx
 ·exact hk x (List.mem_of_mem_drop hx)
end Go.Ev
/- A filter in which another window was put, run: plain. -/
namespace Go.Ev
open Go Go.RowKit
theorem zni{x:In4}(h:zaJ x=true):x.op≠5∧isBr x.op=false∧x.op≠6∧x.op≠22:=by
 simp only[zaJ,Bool.and_eq_true] at h
 obtain⟨h1,h2,h3⟩:=ziM h.1.1
 simp only[zax,decide_eq_false_iff_not,not_or] at h3
 exact⟨h1,h2,h3.1,h3.2⟩
theorem zsf(g:List In4):bh g [0]=nd g:=by
 funext p
 simp[bh]
end Go.Ev
/- Filters without what is never come to: plain laws. -/
namespace Go.Ev
open Go Go.RowKit
def cntB(m:List Bool)(n:Nat):Nat:=(m.take n).countP id
def prX(m:List Bool)(x:In4):In4:=if x.op=5 then{ x with k:=cntB m x.k } else if isBr x.op then{ x with jt:=(cntB m x.jt.toNat:Nat),jf:=(cntB m x.jf.toNat:Nat) } else x
def pruR:List In4→List Bool→List In4
 | x::f,true::m=>prX m x::pruR f m
 | _::f,false::m=>pruR f m
 | _,_=>[]
def clsB:List In4→List Bool→Prop
 | x::f,b::m=>(b=true→∀ o∈offs x,m[o]?=some true)∧clsB f m
 | [],[]=>True
 | _,_=>False
theorem zdB:∀{f:List In4} {m:List Bool},clsB f m→f.length=m.length
 | [],[],_=>rfl
 | [],_::_,h=>by cases h
 | _::_,[],h=>by cases h
 | x::f,b::m,h=>by simp[zdB h.2]
theorem znj:∀{f:List In4} {m:List Bool} (o:Nat),clsB f m→clsB (f.drop o) (m.drop o)
 | _,_,0,h=>by simpa using h
 | [],[],o+1,h=>by simp[clsB]
 | [],_::_,_+1,h=>by cases h
 | _::_,[],_+1,h=>by cases h
 | x::f,b::m,o+1,h=>by simpa using znj o h.2
theorem zjA(b:Bool)(m:List Bool)(n:Nat):cntB (b::m) (n+1)=(if b then 1 else 0)+cntB m n:=by
 cases b<;>simp[cntB,Nat.add_comm]
theorem zcs(m:List Bool):cntB m 0=0:=by simp[cntB]
theorem ziQ:∀(f:List In4) (m:List Bool) (o:Nat),f.length=m.length→(pruR f m).drop (cntB m o)=pruR (f.drop o) (m.drop o)
 | f,m,0,h=>by simp[zcs]
 | [],m,o+1,h=>by
  have:m=[]:=List.eq_nil_of_length_eq_zero (by simpa using h.symm)
  subst this
  simp[pruR]
 | x::f,[],o+1,h=>by simp at h
 | x::f,b::m,o+1,h=>by
  have ih:=ziQ f m o (by simpa using h)
  rw[zjA]
  cases b with
  | true =>
   rw[if_pos rfl,pruR,Nat.add_comm,List.drop_succ_cons,ih]; rfl
  | false =>
   simp only[Bool.false_eq_true,if_false,Nat.zero_add,pruR]
   rw[ih]; rfl
theorem zg9(m:List Bool)(x:In4):(prX m x).op=x.op:=by
 unfold prX
 split
 ·rfl
 ·split<;>rfl
theorem ztV(m:List Bool)(s:St)(x:In4)(d:Da):zbm s (prX m x) d=zbm s x d:=by
 by_cases h5:x.op=5
 ·have e1:aluT (5:Int)=(0,false,false):=by decide
  have e2:(prX m x).op=5:=by rw[zg9,h5]
  have o:∀ y:In4,y.op=5→zbm s y d=(s,true):=fun y hy=>by
   simp only[zbm,hy,e1,Bool.false_eq_true,if_false,zcE]
   simp
  rw[o _ e2,o _ h5]
 ·unfold prX
  rw[if_neg h5]
  split<;>rfl
theorem ztW(m:List Bool)(s:St)(x:In4):goes s (prX m x)=cntB m (goes s x):=by
 have ho:=zg9 m x
 by_cases h5:x.op=5
 ·simp only[goes,ho,h5,if_true]
  simp[prX,h5]
 by_cases hb:isBr x.op=true
 ·have hp:prX m x={ x with jt:=(cntB m x.jt.toNat:Nat),jf:=(cntB m x.jf.toNat:Nat) }:=by rw[prX,if_neg h5,if_pos hb]
  have ht:takesB s (prX m x)=takesB s x:=by rw[hp]; rfl
  simp only[goes,ho,if_neg h5,hb,if_true,ht]
  rw[hp]
  cases takesB s x<;>simp
 ·simp[goes,ho,h5,hb,zcs]
theorem zqh(d:Da):∀(n:Nat) (f:List In4) (m:List Bool) (s:St),f.length≤n→clsB f m→m[0]?=some true→run d (pruR f m) s=run d f s
 | _,[],[],_,_,_,h=>by cases h
 | _,[],_::_,_,_,h,_=>by cases h
 | _,_::_,[],_,_,h,_=>by cases h
 | 0,_::_,_,_,h,_,_=>by simp at h
 | n+1,x::f,b::m,s,hn,hc,h0=>by
  simp only[List.getElem?_cons_zero,Option.some.injEq] at h0
  subst h0
  rw[pruR,zpc,zpc,zg9,ztV,ztW]
  by_cases h6:x.op=6
  ·have hk:(prX m x).k=x.k:=by
    have:isBr (6:Int)=false:=by decide
    simp[prX,h6,this]
   rw[if_pos h6,if_pos h6,hk]
  rw[if_neg h6,if_neg h6]
  by_cases h22:x.op=22
  ·rw[if_pos h22,if_pos h22]
  rw[if_neg h22,if_neg h22]
  by_cases hg:(zbm s x d).2=true
  case neg=>rw[if_neg hg,if_neg hg]
  rw[if_pos hg,if_pos hg]
  have he:zax x.op=false:=by simp[zax,h6,h22]
  have hm:=hc.1 rfl _ (zsU he s)
  have ih:=zqh d n (f.drop (goes s x)) (m.drop (goes s x)) (zbm s x d).1 (by simp at hn ⊢; omega) (znj _ hc.2) (by rw[List.getElem?_drop,Nat.add_zero]; exact hm)
  rw[ziQ f m _ (zdB hc.2),ih]
theorem zfx:∀(f:List In4) (m:List Bool),f.length=m.length→(pruR f m).length=m.countP id
 | [],[],_=>rfl
 | [],_::_,h=>by simp at h
 | _::_,[],h=>by simp at h
 | x::f,true::m,h=>by simp[pruR,zfx f m (by simpa using h)]
 | x::f,false::m,h=>by simp[pruR,zfx f m (by simpa using h)]
theorem zmu{m:List Bool}{o:Nat}(h:m[o]?=some true):cntB m o<m.countP id:=by
 have hl:=(List.getElem?_eq_some_iff.1 h).1
 have e:m=m.take o++true::m.drop (o+1):=by
  have:=List.drop_eq_getElem_cons hl
  rw[(List.getElem?_eq_some_iff.1 h).2] at this
  rw[←this,List.take_append_drop]
 rw[cntB]
 conv=>rhs; rw[e,List.countP_append,List.countP_cons]
 simp
theorem zeM(m:List Bool)(o:Nat):cntB m o≤o:=by
 have:=List.countP_le_length (p:=id) (l:=m.take o)
 rw[cntB]
 have h2:=List.length_take_le o m
 omega
theorem zsg{x:In4}(m:List Bool)(h:zaV x=true)(hr:zbk x=true):zaV (prX m x)=true∧zbk (prX m x)=true:=by
 have hbo:=zb8 h
 have hcl:∀ n,cntB m n≤n:=zeM m
 obtain⟨op,jt,jf,k⟩:=x
 by_cases h5:op=5
 ·subst h5
  have hb:isBr 5=false:=by decide
  simp only[prX,if_true]
  constructor
  ·simp only[zaV] at h ⊢
   have hs:za5 5=some (5,[106,97],true,false):=by decide
   simp only[hs] at h ⊢
   simpa using h
  ·simp[zbk]
 ·cases hb:isBr op
  ·simp[prX,h5,hb,h,hr]
  ·obtain⟨b1,b2,b3,b4⟩:=hbo hb
   simp only at b1 b2 b3 b4
   have e:prX m ⟨op,jt,jf,k⟩=⟨op,(cntB m jt.toNat:Nat),(cntB m jf.toNat:Nat),k⟩:=by simp[prX,h5,hb]
   rw[e]
   constructor
   ·simp only[zaV] at h ⊢
    cases hs:za5 op with
    | none=>rw[hs] at h; cases h
    | some r =>
     rw[hs] at h
     simp only[Bool.and_eq_true] at h ⊢
     refine⟨h.1,?_⟩
     have h2:=h.2
     have c1:=hcl jt.toNat
     have c2:=hcl jf.toNat
     split at h2
     ·rename_i hh
      rw[if_pos hh,decide_eq_true_eq]
      omega
     ·rename_i hh
      rw[decide_eq_true_eq] at h2
      rw[if_neg hh,decide_eq_true_eq]
      omega
   ·simpa[zbk] using hr
theorem zjB:∀{f:List In4} {m:List Bool},clsB f m→zaN f=true→zaN (pruR f m)=true
 | [],[],_,_=>rfl
 | [],_::_,h,_=>by cases h
 | _::_,[],h,_=>by cases h
 | x::f,false::m,h,ho=>by
  rw[zaN,Bool.and_eq_true] at ho
  rw[pruR]
  exact zjB h.2 ho.2
 | x::f,true::m,h,ho=>by
  rw[zaN,Bool.and_eq_true] at ho
  rw[pruR,zaN,Bool.and_eq_true]
  refine⟨?_,zjB h.2 ho.2⟩
  have h1:=ho.1
  simp only[oneB,Bool.and_eq_true] at h1
  obtain⟨⟨⟨r1,r2⟩,r3⟩,r4⟩:=h1
  obtain⟨p1,p2⟩:=zsg m r1 r2
  have hcl:=h.1 rfl
  rw[oneB,p1,p2,zfx f m (zdB h.2),zg9]
  simp only[Bool.true_and,Bool.and_eq_true]
  constructor
  ·by_cases h5:x.op=5
   ·have:=hcl x.k (by have:zax (5:Int)=false:=(by decide); simp[offs,h5,this])
    rw[if_pos h5,decide_eq_true_eq]
    simp only[prX,if_pos h5]
    exact zmu this
   ·rw[if_neg h5]
  ·by_cases hb:isBr x.op=true
   ·have h5:x.op≠5:=fun e=>by rw[e] at hb; revert hb; decide
    have he:zax x.op=false:=by
     rcases br_two hb with e|e|e|e|e|e|e|e<;>rw[e]<;>decide
    have t1:=hcl x.jt.toNat (by simp[offs,he,h5,hb])
    have t2:=hcl x.jf.toNat (by simp[offs,he,h5,hb])
    have c1:=zmu t1
    have c2:=zmu t2
    rw[if_pos hb,decide_eq_true_eq]
    simp only[prX,if_neg h5,if_pos hb]
    omega
   ·rw[if_neg hb]
theorem zoz:∀{f:List In4} {m:List Bool},f.length=m.length→m.any id=false→pruR f m=[]
 | [],[],_,_=>rfl
 | [],_::_,h,_=>by simp at h
 | _::_,[],h,_=>by simp at h
 | x::f,true::m,_,h=>by simp at h
 | x::f,false::m,h,h2=>by
  rw[pruR]
  exact zoz (by simpa using h) (by simpa using h2)
theorem zoA:∀{f:List In4} {m:List Bool},f.length=m.length→m.any id=true→pruR f m≠[]
 | [],[],_,h=>by simp at h
 | [],_::_,h,_=>by simp at h
 | _::_,[],h,_=>by simp at h
 | x::f,true::m,_,_=>by simp[pruR]
 | x::f,false::m,h,h2=>by
  rw[pruR]
  exact zoA (by simpa using h) (by simpa using h2)
theorem zsh{x:In4}{f:List In4}(h:f≠[]):endB (x::f)=endB f:=by
 cases f with
 | nil=>exact absurd rfl h
 | cons y f=>simp[endB,List.getLast?_cons_cons]
theorem zvS{x:In4}(h:zax x.op=false):offs x≠[]:=by
 unfold offs
 rw[h]
 simp only[Bool.false_eq_true,if_false]
 split
 ·simp
 ·split<;>simp
theorem zqi:∀{f:List In4} {m:List Bool},clsB f m→m.any id=true→endB (pruR f m)=true
 | [],[],_,h=>by simp at h
 | [],_::_,h,_=>by cases h
 | _::_,[],h,_=>by cases h
 | x::f,b::m,h,h2=>by
  have hl:=zdB h.2
  cases ha:m.any id with
  | true =>
   have ih:=zqi h.2 ha
   cases b with
   | true=>rw[pruR,zsh (zoA hl ha),ih]
   | false=>rw[pruR,ih]
  | false =>
   have hb:b=true:=by
    rw[List.any_cons,ha] at h2
    simpa using h2
   subst hb
   rw[pruR,zoz hl ha]
   simp only[endB,List.getLast?_singleton,zg9]
   cases he:zax x.op with
   | true=>rfl
   | false =>
    exfalso
    cases ho:offs x with
    | nil=>exact zvS he ho
    | cons o l =>
     have:=h.1 rfl o (by rw[ho]; simp)
     have hm:=List.mem_of_getElem? this
     have:m.any id=true:=List.any_eq_true.2 ⟨true,hm,rfl⟩
     rw[ha] at this; cases this
theorem zsi{f:List In4}{m:List Bool}(hs:zao f=true)(hc:clsB f m)(h0:m[0]?=some true):zao (pruR f m)=true:=by
 have hl:=zdB hc
 have h1:=zfx f m hl
 have h2:=List.countP_le_length (p:=id) (l:=m)
 have ha:m.any id=true:=List.any_eq_true.2 ⟨true,List.mem_of_getElem? h0,rfl⟩
 simp only[zao,Bool.and_eq_true,decide_eq_true_eq] at hs ⊢
 exact⟨⟨by omega,zjB hc hs.1.2⟩,zqi hc ha⟩
theorem zqj:∀{f:List In4} {m:List Bool},f.length=m.length→(∀ b∈m,b=true)→zaN f=true→pruR f m=f
 | [],[],_,_,_=>rfl
 | [],_::_,h,_,_=>by simp at h
 | _::_,[],h,_,_=>by simp at h
 | x::f,b::m,h,hm,ho=>by
  have hb:b=true:=hm b (by simp)
  subst hb
  rw[zaN,Bool.and_eq_true] at ho
  have hl:f.length=m.length:=by simpa using h
  have hcn:∀ n,n≤m.length→cntB m n=n:=fun n hn=>by
   have:(m.take n).countP id=(m.take n).length:=List.countP_eq_length.2 fun b hb=>hm b (by simp[List.mem_of_mem_take hb])
   rw[cntB,this,List.length_take]; omega
  rw[pruR,zqj hl (fun b hb=>hm b (by simp[hb])) ho.2]
  have h1:=ho.1
  simp only[oneB,Bool.and_eq_true] at h1
  obtain⟨⟨⟨r1,r2⟩,r3⟩,r4⟩:=h1
  have hbo:=zb8 r1
  congr 1
  obtain⟨op,jt,jf,k⟩:=x
  by_cases h5:op=5
  ·simp only[h5,if_true,decide_eq_true_eq] at r3
   simp only[prX,h5,if_true]
   rw[hcn k (by omega)]
  ·cases hbr:isBr op
   ·simp[prX,h5,hbr]
   ·obtain⟨b1,b2,b3,b4⟩:=hbo hbr
    simp only[hbr,if_true,decide_eq_true_eq] at r4
    simp only at b1 b2 b3 b4
    simp only[prX,h5,hbr,if_true,if_false]
    rw[hcn _ (by omega),hcn _ (by omega)]
    simp; omega
end Go.Ev
/- The numbers of which letters are made. -/
namespace Go.Ev
open Go Go.RowKit
variable {G:Tbl}
def ownB(x:In4):Bool:=((aluT x.op).2.2&&!(aluT x.op).2.1)||decide (x.op=0)||decide (x.op=1)
def ownN(w:List In4):List Nat:=(w.filter ownB).map In4.k
theorem zsj(w:List In4)(x:In4):ownN (w++[x])=if ownB x then ownN w++[x.k] else ownN w:=by
 unfold ownN
 rw[List.filter_append,List.map_append]
 by_cases h:ownB x=true<;>simp[h,List.filter_cons]
theorem ziR(w:List In4):(ownN w).length≤w.length:=by simp[ownN,List.length_filter_le]
noncomputable def zdX(w:List In4):List Nat :=
 (constI (winV [] w).L ((winV [] w).p.getD 0 0)).toList++((valI (zae 34) (winV [] w).L ((winV [] w).p.getD 0 0)).toList++(valI (4294967295::zae 33) (winV [] w).L ((winV [] w).p.getD 0 0)).toList)
theorem zvT[HasSymNew G](H:Heap):Big G (.F 256 [] H (.ptr (H.length+1) 0) (H++[some (.map []),some (.cells [.vs [] .full,.mp H.length])])):=by
 refine F_of HasSymNew.h_sym_New (Nat.le_of_ble_eq_true rfl) ?_
 simp[ap0,apk,set0,setk]
def BH(a:Option Blk)(L:List Nd):Heap:=[a,some (.map (ents L)),some (zd0 L 3 1),some (.zone L.length)]
theorem zvf{a:Option Blk}{L:List Nd}(ha:∀ n,a.map (Blk.cl n)=a)(hok:∀ x∈L,x.ok)(hs:L.length≤1000000):Bk (BH a L) 2 3 1 L:=by
 refine⟨rfl,rfl,rfl,fun n hn=>?_,hok,hs⟩
 simp only[BH,List.length_cons,List.length_nil] at hn
 simp[BH,zd0,Blk.cl,ha,clL,V.cl,Tk.cl,ents,zmH,show 3<n by omega,show 1<n by omega]
theorem zq7[HasWd G][HasNeg G][HasIns G][HasCheck G][HasWRight G][HasAffine G][hB:HasBitsE G][HasSymNew G][HasSym G][HasSymEval G][HasWinOf G][HasSrcN G](w:List In4)(hf:w.length≤maxLen)(hk:∀ x∈w,x.k<4294967296)(hw:winB w=true) :
  FP G 326 [FL w] (.vs (nats .u32 (ownN w++zdX w)) .no):=by
 haveI:HasBits G:=hB.toHasBits
 refine zak HasSrcN.h_search_numbers (Nat.le_of_ble_eq_true rfl) ?_
 obtain⟨L,hL⟩:∃ L,L=(winV [] w).L:=⟨_,rfl⟩
 have hv:=zeL Inv.nil w hk
 have hi:Inv L:=by rw[hL]; exact hv.ext.inv
 have hw32:w.length≤32:=by simp only[winB,Bool.and_eq_true,decide_eq_true_eq] at hw; exact hw.1
 have hLl:L.length≤114:=by rw[hL]; have:=hv.ext.len; simp at this; omega
 obtain⟨X,hX⟩:∃ X,X=ofC [] w:=⟨_,rfl⟩
 have lX:X.length=19:=by rw[hX]; exact zms Inv.nil hk
 have cX:∀ n,clL n X=X:=fun n=>by rw[hX]; exact zov w n
 have nX:X.map V.nf1=X:=by rw[hX,ofC,if_pos hw,vcs]; simp[za7,Function.comp_def,V.nf1]
 obtain⟨p0,hp0⟩:∃ p0,p0=(winV [] w).p.getD 0 0:=⟨_,rfl⟩
 have X1:X.take 1=[.int .i64 p0]:=by
  rw[hX,ofC,if_pos hw,zom hv.len,hp0,List.getD,List.getElem?_eq_getElem (show 0<(winV [] w).p.length by rw[hv.len]; decide)]; rfl
 have hB0:∀ k,Bk (BH (some (.zone k)) []) 2 3 1 []:=fun k=>zvf (fun n=>rfl) (by simp) (by simp)
 have hB1:∀ k,Bk (BH (some (.zone k)) L) 2 3 1 L:=fun k=>zvf (fun n=>rfl) hi.ok (by omega)
 have hB1x:∀ k,Bk (BH (some (.zone k)) L++[some (.cells X)]) 2 3 1 L:=fun k=>(hB1 k).app fun n=>by simp[Blk.cl,cX]
 have hof:=fun k=>zou (G:=G) w ((hB0 k).app (r:=[none]) fun n=>by simp) Inv.nil (by decide) hf hk
 have e1:∀ k,upd (BH (some (.zone k)) []) 2 3 1 (ofL [] w)=BH (some (.zone k)) L:=fun k=>by rw[hL,ofL,if_pos hw]; rfl
 have hof:∀ k,SF G 296 [.ptr 2 0,.vs (IL w) .no] (BH (some (.zone k)) []++[none]) (.tup [.agg X,.bool true]) (BH (some (.zone k)) L++[none]):=fun k=>by
  have:=hof k
  rw[(hB0 k).upd_app,←hX,e1,hw] at this
  exact this
 have hc:=fun k=>zjv (G:=G) p0 (hB1x k)
 have he0:=fun(k:Nat) (r:Heap) (hr:∀ n,r.map (Option.map (Blk.cl n))=r)=>ztn (G:=G) p0 (zae 34) ((hB1 k).app hr) hi (by simp) (zbA 34)
 have he1:=fun(k:Nat) (r:Heap) (hr:∀ n,r.map (Option.map (Blk.cl n))=r)=>ztn (G:=G) p0 (4294967295::zae 33) ((hB1 k).app hr) hi (by simp) (fun c hc=>by rcases List.mem_cons.1 hc with rfl|h; decide; exact zbA 33 c h)
 have hT:zdX w=(constI L p0).toList++((valI (zae 34) L p0).toList++(valI (4294967295::zae 33) L p0).toList):=by rw[hL,hp0]; rfl
 rw[hT]
 generalize constI L p0=o1 at hc ⊢
 generalize valI (zae 34) L p0=o2 at he0 ⊢
 generalize valI (4294967295::zae 33) L p0=o3 at he1 ⊢
 obtain⟨T,hT⟩:∃ T:Nat→List Nat,∀ j,T j=ownN (w.take j):=⟨_,fun _=>rfl⟩
 have T0:T 0=[]:=by rw[hT]; rfl
 have TN:T w.length=ownN w:=by rw[hT,List.take_length]
 have Tl:∀ i,(T i).length≤i:=fun i=>by rw[hT]; exact Nat.le_trans (ziR _) (by rw[List.length_take]; omega)
 simp[FL]
 refine W_up w.length (fun i=>[(0,FL w),(3,.vs (nats .u32 (T i)) (.own 0)),(18,FL w),(19,.int .i64 w.length),(20,.int .i64 i)]) (fun i=>[some (.zone (T i).length)]) (fun _=>True) ?_ ?_
 ·simp[zaa,zac,FL,T0]
 intro i hi' _
 by_cases hlt:i<w.length
 ·obtain⟨x,hx⟩:∃ x,x=w[i]:=⟨_,rfl⟩
  have hg:w[i]?=some x:=by rw[List.getElem?_eq_getElem hlt,hx]
  have hgg:=zaY hlt
  rw[←hx] at hgg
  have hal:=ziH (G:=G) x
  have hcs:x.cs=[.int .i64 x.op,.int .i64 x.jt,.int .i64 x.jf,.int .u32 (x.k:Int)]:=rfl
  have hl:=Tl i
  have hs:T (i+1)=if ownB x then T i++[x.k] else T i:=by rw[hT,hT,List.take_add_one,hg]; exact zsj _ _
  simp only[IV,hcs] at hal
  have hsn:nats .u32 (T i)++[[V.int .u32 (x.k:Int)]]=nats .u32 (T i++[x.k]):=zeR .u32 (T i) x.k
  simp(disch:=omega)[ltT,FL,hgg,hcs,hlt]
  refine zab hal ?_
  cases ha:(aluT x.op).2.2 with
  | true =>
   cases hb:(aluT x.op).2.1 with
   | false =>
    have hy:ownB x=true:=by simp[ownB,ha,hb]
    rw[if_pos hy] at hs
    have hsl:(T (i+1)).length=(T i).length+1:=by rw[hs]; simp
    rw[←hs] at hsn
    simp(disch:=omega)[ltT,leTn,FL,hgg,hcs,hlt,hsn,hsl,zag,zaa,zac,-Int.natCast_add]
   | true =>
    by_cases o0:x.op=0
    ·have hy:ownB x=true:=by simp[ownB,o0]
     rw[if_pos hy] at hs
     have hsl:(T (i+1)).length=(T i).length+1:=by rw[hs]; simp
     rw[←hs] at hsn
     simp(disch:=omega)[ltT,leTn,FL,hgg,hcs,hlt,o0,hsn,hsl,zag,zaa,zac,-Int.natCast_add]
    by_cases o1:x.op=1
    ·have hy:ownB x=true:=by simp[ownB,o1]
     rw[if_pos hy] at hs
     have hsl:(T (i+1)).length=(T i).length+1:=by rw[hs]; simp
     rw[←hs] at hsn
     simp(disch:=omega)[ltT,leTn,FL,hgg,hcs,hlt,o1,hsn,hsl,zag,zaa,zac,-Int.natCast_add]
    have hy:ownB x=false:=by simp[ownB,hb,o0,o1]
    rw[hy] at hs
    simp only[Bool.false_eq_true,if_false] at hs
    simp(disch:=omega)[ltT,leTn,FL,hgg,hcs,hlt,o0,o1,beqF o0,beqF o1,hs,zag,zaa,zac,-Int.natCast_add]
  | false =>
    by_cases o0:x.op=0
    ·have hy:ownB x=true:=by simp[ownB,o0]
     rw[if_pos hy] at hs
     have hsl:(T (i+1)).length=(T i).length+1:=by rw[hs]; simp
     rw[←hs] at hsn
     simp(disch:=omega)[ltT,leTn,FL,hgg,hcs,hlt,o0,hsn,hsl,zag,zaa,zac,-Int.natCast_add]
    by_cases o1:x.op=1
    ·have hy:ownB x=true:=by simp[ownB,o1]
     rw[if_pos hy] at hs
     have hsl:(T (i+1)).length=(T i).length+1:=by rw[hs]; simp
     rw[←hs] at hsn
     simp(disch:=omega)[ltT,leTn,FL,hgg,hcs,hlt,o1,hsn,hsl,zag,zaa,zac,-Int.natCast_add]
    have hy:ownB x=false:=by simp[ownB,ha,o0,o1]
    rw[hy] at hs
    simp only[Bool.false_eq_true,if_false] at hs
    simp(disch:=omega)[ltT,leTn,FL,hgg,hcs,hlt,o0,o1,beqF o0,beqF o1,hs,zag,zaa,zac,-Int.natCast_add]
 ·have hne:i=w.length:=by omega
  subst hne
  have hol:=ziR w
  obtain⟨O,hO⟩:∃ O,O=ownN w:=⟨_,rfl⟩
  simp only[TN,←hO]
  rw[←hO] at hol
  simp[FL]
  refine zhx (zvT _) (by simp) ?_
  simp
  rw[show([some (.zone O.length),some (.map []),some (.cells [.vs [] (.own 3),.mp 1]),some (.zone 0),none]:Heap)=BH (some (.zone O.length)) []++[none] from rfl]
  refine zai (hof _) ?_
  have nB:∀ k,(BH (some (.zone k)) L).length=4:=fun k=>rfl
  have kk:∀(k:Nat) (r:Heap),(BH (some (.zone k)) L++r)[4]?=r[0]?:=fun k r=>apn0 (nB k)
  have k0:∀(k:Nat) (r:Heap) x,(BH (some (.zone k)) L++r).set 4 x=BH (some (.zone k)) L++r.set 0 x:=fun k r x=>zbW (nB k) x
  have kz:∀(k:Nat) (r:Heap),(BH (some (.zone k)) L++r)[0]?=some (some (.zone k)):=fun k r=>rfl
  have sz:∀(k n:Nat) (r:Heap),(BH (some (.zone k)) L++r).set 0 (some (.zone n))=BH (some (.zone n)) L++r:=fun k n r=>rfl
  obtain⟨Z,hZ⟩:∃ Z:List V,Z=vcs (List.replicate 18 0) [] .full:=⟨_,rfl⟩
  have lZ:Z.length=19:=by rw[hZ]; rfl
  have hZz:[V.int .i64 0,.int .i64 0,.int .i64 0,.int .i64 0,.int .i64 0,.int .i64 0,.int .i64 0,.int .i64 0,.int .i64 0,.int .i64 0,.int .i64 0,.int .i64 0,.int .i64 0,.int .i64 0,.int .i64 0,.int .i64 0,.int .i64 0,.int .i64 0,.vs [] .full]=Z:=by rw[hZ]; rfl
  have tX:X.take 19=X:=List.take_of_length_le (by omega)
  have dZ:Z.drop 19=[]:=List.drop_eq_nil_of_le (by omega)
  simp[hZz,lZ,kk,k0,lX,tX,dZ,nX,cX]
  simp[hZz,lZ,kk,k0,lX,tX,dZ,nX,cX,X1]
  refine zai (hc _) ?_
  rcases o1 with _|a
  ·obtain⟨O1,hO1⟩:∃ O1,O1=O++[]:=⟨_,rfl⟩
   have lO1:O1.length≤40:=by rw[hO1]; simp; omega
   obtain⟨F,hF⟩:∃ F:Nat→List Nat,∀ i,F i=O1++(if i=0 then [] else if i=1 then o2.toList else o2.toList++o3.toList):=⟨_,fun _=>rfl⟩
   have F0:F 0=O1:=by rw[hF]; simp
   have F1:F 1=O1++o2.toList:=by rw[hF]; simp
   have F2:F 2=F 1++o3.toList:=by rw[hF,F1]; simp
   have lF:∀ i,(F i).length≤42:=fun i=>by
    rw[hF]
    split
    ·simp; omega
    ·split
     ·cases o2<;>simp<;>omega
     ·cases o2<;>cases o3<;>simp<;>omega
   simp(disch:=omega)[nB,kk,k0,kz,sz,lX,X1,leTn,leFn]
   have hO0:O=O1:=by rw[hO1]; simp
   refine W_up 2 (fun i=>[(3,.vs (nats .u32 (F i)) (.own 0)),(9,.ptr 2 0),(10,.ptr 4 0),(71,.agg [.int .u32 0,.int .u32 4294967295]),(72,.int .i64 i)]) (fun i=>BH (some (.zone (F i).length)) L++[some (.cells X)]) (fun _=>True) ?_ ?_
   ·have:=((hB1 O1.length).app (r:=[some (.cells X)]) fun n=>by simp[Blk.cl,cX]).shut.self
    simp[nB] at this
    simp[zaa,nB,F0,this,hO0]
   intro i hi2 _
   have lFi:=lF i
   have a01:addI .i64 0 1=1:=by decide
   have a11:addI .i64 1 1=2:=by decide
   have ht:∀ k:Nat,zac 5 (BH (some (.zone k)) L++[some (.cells X)])=BH (some (.zone k)) L++[some (.cells X)]:=fun k=>by
    have:=((hB1 k).app (r:=[some (.cells X)]) fun n=>by simp[Blk.cl,cX]).shut.self
    simpa[nB] using this
   have hb:∀(k:Nat),zac 5 (BH (some (.zone k)) L++[some (.cells X),none])=BH (some (.zone k)) L++[some (.cells X)]:=fun k=>by
    have:=((hB1 k).app (r:=[some (.cells X)]) fun n=>by simp[Blk.cl,cX]).shut.back [none]
    simpa[nB] using this
   by_cases h0:i=0
   ·subst h0
    simp[nB,kk,k0,kz,sz,lX,X1]
    refine zai (he0 _ _ fun n=>by simp[Blk.cl,cX]) ?_
    cases o2 with
    | none =>
     have F1':F 1=F 0:=by rw[F1,F0]; simp
     simp[nB,kk,k0,kz,sz,lX,X1,zaa,ht,hb,a01,a11,F1']
    | some y =>
     have F1':F 1=F 0++[y]:=by rw[F1,F0]; simp
     have l1:(F 1).length=(F 0).length+1:=by rw[F1']; simp
     have hsn:nats .u32 (F 0)++[[V.int .u32 (y:Int)]]=nats .u32 (F 1):=by rw[F1']; exact zeR .u32 (F 0) y
     simp(disch:=omega)[nB,kk,k0,kz,sz,lX,X1,leTn,leFn,zaa,ht,hb,a01,a11,hsn,l1]
   by_cases h1:i=1
   ·subst h1
    simp[nB,kk,k0,kz,sz,lX,X1]
    refine zai (he1 _ _ fun n=>by simp[Blk.cl,cX]) ?_
    cases o3 with
    | none =>
     have F2':F 2=F 1:=by rw[F2]; simp
     simp[nB,kk,k0,kz,sz,lX,X1,zaa,ht,hb,a01,a11,F2']
    | some y =>
     have F2':F 2=F 1++[y]:=by rw[F2]; simp
     have l2:(F 2).length=(F 1).length+1:=by rw[F2']; simp
     have hsn:nats .u32 (F 1)++[[V.int .u32 (y:Int)]]=nats .u32 (F 2):=by rw[F2']; exact zeR .u32 (F 1) y
     simp(disch:=omega)[nB,kk,k0,kz,sz,lX,X1,leTn,leFn,zaa,ht,hb,a01,a11,hsn,l2]
   obtain rfl:i=2:=by omega
   have hfin:F 2=O++((none:Option Nat).toList++(o2.toList++o3.toList)):=by rw[F2,F1,hO1]; simp
   simp[hfin]
  ·obtain⟨O1,hO1⟩:∃ O1,O1=O++[a]:=⟨_,rfl⟩
   have lO1:O1.length≤40:=by rw[hO1]; simp; omega
   obtain⟨F,hF⟩:∃ F:Nat→List Nat,∀ i,F i=O1++(if i=0 then [] else if i=1 then o2.toList else o2.toList++o3.toList):=⟨_,fun _=>rfl⟩
   have F0:F 0=O1:=by rw[hF]; simp
   have F1:F 1=O1++o2.toList:=by rw[hF]; simp
   have F2:F 2=F 1++o3.toList:=by rw[hF,F1]; simp
   have lF:∀ i,(F i).length≤42:=fun i=>by
    rw[hF]
    split
    ·simp; omega
    ·split
     ·cases o2<;>simp<;>omega
     ·cases o2<;>cases o3<;>simp<;>omega
   simp(disch:=omega)[nB,kk,k0,kz,sz,lX,X1,leTn,leFn]
   have hsn0:nats .u32 O++[[V.int .u32 (a:Int)]]=nats .u32 O1:=by rw[hO1]; exact zeR .u32 O a
   have l01:O.length+1=O1.length:=by rw[hO1]; simp
   refine W_up 2 (fun i=>[(3,.vs (nats .u32 (F i)) (.own 0)),(9,.ptr 2 0),(10,.ptr 4 0),(71,.agg [.int .u32 0,.int .u32 4294967295]),(72,.int .i64 i)]) (fun i=>BH (some (.zone (F i).length)) L++[some (.cells X),none]) (fun _=>True) ?_ ?_
   ·have:=((hB1 O1.length).app (r:=[some (.cells X),none]) fun n=>by simp[Blk.cl,cX]).shut.self
    simp[nB] at this
    simp[zaa,nB,F0,this,hO1.symm,l01]
   intro i hi2 _
   have lFi:=lF i
   have a01:addI .i64 0 1=1:=by decide
   have a11:addI .i64 1 1=2:=by decide
   have ht:∀ k:Nat,zac 6 (BH (some (.zone k)) L++[some (.cells X),none])=BH (some (.zone k)) L++[some (.cells X),none]:=fun k=>by
    have:=((hB1 k).app (r:=[some (.cells X),none]) fun n=>by simp[Blk.cl,cX]).shut.self
    simpa[nB] using this
   have hb:∀(k:Nat),zac 6 (BH (some (.zone k)) L++[some (.cells X),none,none])=BH (some (.zone k)) L++[some (.cells X),none]:=fun k=>by
    have:=((hB1 k).app (r:=[some (.cells X),none]) fun n=>by simp[Blk.cl,cX]).shut.back [none]
    simpa[nB] using this
   by_cases h0:i=0
   ·subst h0
    simp[nB,kk,k0,kz,sz,lX,X1]
    refine zai (he0 _ _ fun n=>by simp[Blk.cl,cX]) ?_
    cases o2 with
    | none =>
     have F1':F 1=F 0:=by rw[F1,F0]; simp
     simp[nB,kk,k0,kz,sz,lX,X1,zaa,ht,hb,a01,a11,F1']
    | some y =>
     have F1':F 1=F 0++[y]:=by rw[F1,F0]; simp
     have l1:(F 1).length=(F 0).length+1:=by rw[F1']; simp
     have hsn:nats .u32 (F 0)++[[V.int .u32 (y:Int)]]=nats .u32 (F 1):=by rw[F1']; exact zeR .u32 (F 0) y
     simp(disch:=omega)[nB,kk,k0,kz,sz,lX,X1,leTn,leFn,zaa,ht,hb,a01,a11,hsn,l1]
   by_cases h1:i=1
   ·subst h1
    simp[nB,kk,k0,kz,sz,lX,X1]
    refine zai (he1 _ _ fun n=>by simp[Blk.cl,cX]) ?_
    cases o3 with
    | none =>
     have F2':F 2=F 1:=by rw[F2]; simp
     simp[nB,kk,k0,kz,sz,lX,X1,zaa,ht,hb,a01,a11,F2']
    | some y =>
     have F2':F 2=F 1++[y]:=by rw[F2]; simp
     have l2:(F 2).length=(F 1).length+1:=by rw[F2']; simp
     have hsn:nats .u32 (F 1)++[[V.int .u32 (y:Int)]]=nats .u32 (F 2):=by rw[F2']; exact zeR .u32 (F 1) y
     simp(disch:=omega)[nB,kk,k0,kz,sz,lX,X1,leTn,leFn,zaa,ht,hb,a01,a11,hsn,l2]
   obtain rfl:i=2:=by omega
   have hfin:F 2=O++((some a).toList++(o2.toList++o3.toList)):=by rw[F2,F1,hO1]; simp
   simp[hfin]
end Go.Ev
