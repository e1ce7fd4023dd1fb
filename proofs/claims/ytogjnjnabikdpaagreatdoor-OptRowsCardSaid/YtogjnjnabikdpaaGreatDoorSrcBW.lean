/- Letters: one is put. -/
import Derived.Test.YtogjnjnabikdpaaGreatDoorDecTW
import Derived.Test.YtogjnjnabikdpaaGreatDoorLiveCW
import Derived.KernelRfl
import Derived.Test.YtogjnjnabikdpaaGreatDoorEvInsCW
import Derived.Test.YtogjnjnabikdpaaGreatDoorCheckBW
import Derived.Test.YtogjnjnabikdpaaGreatDoorEvSrcCW
set_option linter.unusedSimpArgs false
set_option linter.unusedVariables false
set_option maxHeartbeats 8000000
set_option maxRecDepth 10000
namespace Go.Ev
open Go Go.RowKit
variable {G:Tbl}
def ltr(l:List In4)(x:In4):List In4:=if x∈l then l else if winB [x]=true then l++[x] else l
theorem zkM(l:List In4)(x:In4):(ltr l x).length≤l.length+1:=by unfold ltr; split; omega; split<;>simp
def mls(l:List In4):List (V×V):=l.map fun x=>(IV x,.bool true)
theorem zte{x:In4}:∀{l:List In4} (i:Nat),x∈l→zbx (.row [.int,.int,.int,.int]) (.agg x.cs) (mls l) i=some (some (i+l.idxOf x,.bool true))
 | [],i,h=>by cases h
 | y::l,i,h=>by
  simp only[mls,List.map_cons,zbx,zbd,IV,aeq4]
  by_cases e:x=y
  ·subst e; simp
  ·have hm:x∈l:=by simpa[e] using h
   have ih:=zte (i+1) hm
   have hix:(y::l).idxOf x=l.idxOf x+1:=by rw[List.idxOf_cons,beq_false_of_ne (Ne.symm e)]; rfl
   simp only[mls,IV] at ih
   simp only[e,decide_false,ih,hix,show i+1+l.idxOf x=i+(l.idxOf x+1) from by omega]
theorem zmN{x:In4}:∀{l:List In4} (i:Nat),x∉l→zbx (.row [.int,.int,.int,.int]) (.agg x.cs) (mls l) i=some none
 | [],i,_=>rfl
 | y::l,i,h=>by
  simp only[List.mem_cons,not_or] at h
  have ih:=zmN (i+1) h.2
  simp only[mls,IV] at ih
  simp only[mls,List.map_cons,zbx,zbd,IV,aeq4,h.1,decide_false,ih]
def BL3(a b:List In4)(n:Nat):Heap:=[some (.cells [.vs (IL a) (.own 3)]),some (.map (mls b)),some (.cells [.mp 1]),some (.zone n)]
def BL(l:List In4):Heap:=BL3 l l l.length
theorem zmO(a b:List In4)(n:Nat):za8 (BL3 a b n):=by
 intro m hm
 simp only[BL3,List.length_cons,List.length_nil] at hm
 have hmap:(mls b).map (fun p=>(p.1.cl m,p.2.cl m))=mls b:=by
  simp[mls,IV,In4.cs,V.cl,clL,Function.comp_def]
 simp[BL3,Blk.cl,clL,V.cl,Tk.cl,show 3<m by omega,show 1<m by omega,hmap]
theorem zkN[HasIns G][HasCheck G][HasWRight G][HasSrcL G](l:List In4)(x:In4)(r:Heap)(hr:∀ n,r.map (Option.map (Blk.cl n))=r)(hl:l.length≤1000000)(hk:x.k<4294967296) :
  SF G 327 [IV x,.ptr 2 0,.ptr 0 0] (BL l++r) (.tup []) (BL (ltr l x)++r):=by
 refine zbz HasSrcL.h_search_Letters_1 (Nat.le_of_ble_eq_true rfl) ?_
 have nB:∀ a b n,(BL3 a b n).length=4:=fun a b n=>rfl
 have hxl:x.cs.length=4:=rfl
 have hxt:x.cs.take 4=x.cs:=rfl
 have kx:∀ n,clL n x.cs=x.cs:=fun n=>by simp[In4.cs,clL,V.cl]
 have nx:x.cs.map V.nf1=x.cs:=rfl
 have g0:∀ a b n (s:Heap),(BL3 a b n++s)[0]?=some (some (.cells [.vs (IL a) (.own 3)])):=fun a b n s=>rfl
 have g1:∀ a b n (s:Heap),(BL3 a b n++s)[1]?=some (some (.map (mls b))):=fun a b n s=>rfl
 have g2:∀ a b n (s:Heap),(BL3 a b n++s)[2]?=some (some (.cells [.mp 1])):=fun a b n s=>rfl
 have g3:∀ a b n (s:Heap),(BL3 a b n++s)[3]?=some (some (.zone n)):=fun a b n s=>rfl
 have s0:∀ a a' b n (s:Heap),(BL3 a b n++s).set 0 (some (.cells [.vs (IL a') (.own 3)]))=BL3 a' b n++s:=fun a a' b n s=>rfl
 have s1:∀ a b b' n (s:Heap),(BL3 a b n++s).set 1 (some (.map (mls b')))=BL3 a b' n++s:=fun a b b' n s=>rfl
 have s3:∀ a b n n' (s:Heap),(BL3 a b n++s).set 3 (some (.zone n'))=BL3 a b n'++s:=fun a b n n' s=>rfl
 have kk:∀ a b n (s:Heap),(BL3 a b n++(r++s))[4+r.length]?=s[0]?:=fun a b n s=>by
  rw[←List.append_assoc]; exact apn0 (by simp[nB])
 have k0:∀ a b n (s:Heap) y,(BL3 a b n++(r++s)).set (4+r.length) y=BL3 a b n++(r++s.set 0 y):=fun a b n s y=>by
  rw[←List.append_assoc,zbW (by simp[nB]),List.append_assoc]
 have hpu:(∀ y∈x.cs,y.pure=true)=True:=eq_true (fun y hy=>by simp only[In4.cs,List.mem_cons,List.not_mem_nil,or_false] at hy; rcases hy with rfl|rfl|rfl|rfl<;>rfl)
 have hself:=aeq4 x x
 simp only[decide_true] at hself
 have hwr:=zb1 (G:=G) [x] (by simp[maxLen]) (fun y hy=>by simp at hy; rw[hy]; exact hk)
 simp only[FL,IL,List.map_cons,List.map_nil] at hwr
 have bk:∀ a b n (s:Heap),zac (4+r.length) (BL3 a b n++(r++s))=BL3 a b n++r:=fun a b n s=>by
  have:=((zmO a b n).app hr).back s
  rw[List.append_assoc,List.length_append,nB] at this
  exact this
 simp[BL,nB,IV,hxl,hxt,kx,nx,g0,g1,g2,g3,kk,k0,zbd,hself]
 by_cases hin:x∈l
 ·have hR:ltr l x=l:=if_pos hin
  simp[zte 0 hin,hR,bk]
 ·simp[zmN 0 hin,zbd,hself,hxl,hxt,kx,nx,g0,g1,g2,g3,kk,k0,hpu]
  refine zab hwr ?_
  cases hw:winB [x] with
  | false =>
   have hR:ltr l x=l:=by rw[ltr,if_neg hin,hw]; rfl
   simp[hR,bk]
  | true =>
   have hR:ltr l x=l++[x]:=by rw[ltr,if_neg hin,hw]; rfl
   have hm:mls l++[(V.agg x.cs,V.bool true)]=mls (l++[x]):=by simp[mls,IV]
   have hil:IL l++[x.cs]=IL (l++[x]):=by simp[IL]
   have hpure:x.cs.all V.pure=true:=rfl
   have hisz:∀ f∈IL l,f.length=4:=fun f hf=>by simp only[IL,List.mem_map] at hf; obtain⟨y,_,rfl⟩:=hf; rfl
   have hb:(l.length+1)*32≤140737488355328:=by omega
   have s0':∀ a a' b n,(BL3 a b n).set 0 (some (.cells [.vs (IL a') (.own 3)]))=BL3 a' b n:=fun a a' b n=>rfl
   have s1':∀ a b b' n,(BL3 a b n).set 1 (some (.map (mls b')))=BL3 a b' n:=fun a b b' n=>rfl
   have s3':∀ a b n n',(BL3 a b n).set 3 (some (.zone n'))=BL3 a b n':=fun a b n n'=>rfl
   simp[zmN 0 hin,zbd,hself,hxl,hxt,kx,nx,g0,g1,g2,g3,kk,k0,nB,hm,s1,hpu,s0',s1',s3',hb,hR,bk]
theorem zeV{f:Nat}{cap args:List V}{r:V}{H H':Heap}{base:Nat}{d:Option Nat}{os:List SOper}{K:List Kt}{e:Env}{Q:Ex→Env→Heap→Prop}(h:SF G f (args++cap) H r H')
  (hr:WO G base os K (e.put d r) H' Q):zkA G false (.fn f cap) args base d os K e H Q:=by
 obtain⟨r1,H1,hb,hr1,ht⟩:=h
 refine zaF hb (fun h=>by cases h) ?_
 rw[hr1,ht]
 exact hr
end Go.Ev
/- A window's letters. -/
namespace Go.Ev
open Go Go.RowKit
variable {G:Tbl}
def ltrs(l xs:List In4):List In4:=xs.foldl ltr l
theorem zcC:∀(xs l:List In4),(ltrs l xs).length≤l.length+xs.length
 | [],l=>Nat.le_refl _
 | x::xs,l=>by
  have h1:=zcC xs (ltr l x)
  have h2:=zkM l x
  show(ltrs (ltr l x) xs).length≤_
  rw[List.length_cons]; omega
theorem znE(l xs:List In4)(x:In4):ltrs l (xs++[x])=ltr (ltrs l xs) x:=by simp[ltrs]
theorem zpX(l xs ys:List In4):ltrs l (xs++ys)=ltrs (ltrs l xs) ys:=by simp[ltrs]
def ops6:List Nat:=[0,1,4,84,68,164]
def lops(n:Nat):List In4:=ops6.map fun(o:Nat)=>(⟨o,0,0,n⟩:In4)
def zdS(w:List In4)(nums:List Nat):List In4:=ltrs (ltrs (ltrs [] w) [⟨7,0,0,0⟩,⟨135,0,0,0⟩]) (nums.flatMap lops)
theorem zrE[HasWd G][HasNeg G][HasIns G][HasCheck G][HasWRight G][HasAffine G][hB:HasBitsE G][HasSymNew G][HasSym G][HasSymEval G][HasWinOf G][HasSrcN G][HasSrcL G](w:List In4)(hf:w.length≤maxLen)(hk:∀ x∈w,x.k<4294967296)(hw:winB w=true)
  (hn:∀ n∈ownN w++zdX w,n<4294967296):FP G 330 [FL w] (.tup [FL (zdS w (ownN w++zdX w)),.int .i64 0]):=by
 refine zak HasSrcL.h_search_Letters (Nat.le_of_ble_eq_true rfl) ?_
 have hwr:=zb1 (G:=G) w hf hk
 have hnu:=zq7 (G:=G) w hf hk hw
 have hw32:w.length≤32:=by simp only[winB,Bool.and_eq_true,decide_eq_true_eq] at hw; exact hw.1
 have hnl:(ownN w++zdX w).length≤35:=by
  have:=ziR w
  rw[List.length_append,zdX]
  simp only[List.length_append]
  have h1:∀ o:Option Nat,o.toList.length≤1:=fun o=>by cases o<;>simp
  have a1:=h1 (constI (winV [] w).L ((winV [] w).p.getD 0 0))
  have a2:=h1 (valI (zae 34) (winV [] w).L ((winV [] w).p.getD 0 0))
  have a3:=h1 (valI (4294967295::zae 33) (winV [] w).L ((winV [] w).p.getD 0 0))
  omega
 generalize ownN w++zdX w=nums at hnu hnl hn ⊢
 rw[hw] at hwr
 simp only[FL] at hwr hnu
 simp[FL]
 refine zab hwr ?_
 obtain⟨T,hT⟩:∃ T:Nat→List In4,∀ j,T j=ltrs [] (w.take j):=⟨_,fun _=>rfl⟩
 have T0:T 0=[]:=by rw[hT]; rfl
 have TN:T w.length=ltrs [] w:=by rw[hT,List.take_length]
 have Tl:∀ i,i≤w.length→(T i).length≤i:=fun i hi=>by rw[hT]; have:=zcC (w.take i) []; rw[List.length_take] at this; simp at this; omega
 have nB:∀ l,(BL l).length=4:=fun l=>rfl
 have kk:∀ l (r:Heap),(BL l++r)[4]?=r[0]?:=fun l r=>apn0 (nB l)
 have k0:∀ l (r:Heap) x,(BL l++r).set 4 x=BL l++r.set 0 x:=fun l r x=>zbW (nB l) x
 have bk:∀ l (r:Heap),zac 4 (BL l++r)=BL l:=fun l r=>(zmO l l l.length).back r
 have bk0:∀ l,zac 4 (BL l)=BL l:=fun l=>(zmO l l l.length).self
 have hg0:∀ l,(BL l)[0]?=some (some (.cells [.vs (IL l) (.own 3)])):=fun l=>rfl
 have hE:([some (.cells [.vs [] (.own 3)]),some (.map []),some (.cells [.mp 1]),some (.zone 0)]:Heap)=BL []:=rfl
 simp[hE]
 refine W_up w.length (fun i=>[(0,FL w),(4,.ptr 0 0),(6,.fn 327 [.ptr 2 0,.ptr 0 0]),(18,FL w),(19,.int .i64 w.length),(20,.int .i64 i)]) (fun i=>BL (T i)) (fun _=>True) ?_ ?_
 ·simp[zaa,FL,T0,nB,bk0]
 intro i hi _
 by_cases hlt:i<w.length
 ·obtain⟨x,hx⟩:∃ x,x=w[i]:=⟨_,rfl⟩
  have hg:w[i]?=some x:=by rw[List.getElem?_eq_getElem hlt,hx]
  have hgg:=zaY hlt
  rw[←hx] at hgg
  have hxl:x.cs.length=4:=rfl
  have hxt:x.cs.take 4=x.cs:=rfl
  have hxd:([V.int .i64 0,.int .i64 0,.int .i64 0,.int .u32 0]:List V).drop 4=[]:=rfl
  have hxk:=hk x (hx▸List.getElem_mem hlt)
  have nx:x.cs.map V.nf1=x.cs:=rfl
  have hs:T (i+1)=ltr (T i) x:=by rw[hT,hT,List.take_add_one,hg]; exact znE _ _ _
  have hp:=zkN (G:=G) (T i) x [some (.cells x.cs)] (fun n=>by simp[Blk.cl,In4.cs,clL,V.cl]) (by have:=Tl i hi; omega) hxk
  simp only[IV] at hp
  simp(disch:=omega)[ltT,FL,hgg,hxl,hxt,hlt,nB,kk,k0]
  refine zeV hp ?_
  simp(disch:=omega)[hlt,hs,zag,zaa,FL,nB,bk,-Int.natCast_add]
 ·have hne:i=w.length:=by omega
  subst hne
  have hp7:=zkN (G:=G) (ltrs [] w) ⟨7,0,0,0⟩ [] (fun n=>rfl) (by have:=zcC w []; simp at this; omega) (by decide)
  have hp8:=zkN (G:=G) (ltr (ltrs [] w) ⟨7,0,0,0⟩) ⟨135,0,0,0⟩ [] (fun n=>rfl) (by have:=zcC w []; have:=zkM (ltrs [] w) ⟨7,0,0,0⟩; simp at *; omega) (by decide)
  obtain⟨B,hB⟩:∃ B,B=ltr (ltr (ltrs [] w) ⟨7,0,0,0⟩) ⟨135,0,0,0⟩:=⟨_,rfl⟩
  rw[←hB] at hp8
  have hBl:B.length≤34:=by rw[hB]; have h1:=zcC w []; have h2:=zkM (ltrs [] w) ⟨7,0,0,0⟩; have h3:=zkM (ltr (ltrs [] w) ⟨7,0,0,0⟩) ⟨135,0,0,0⟩; simp at h1; omega
  have hres:zdS w nums=ltrs B (nums.flatMap lops):=by rw[hB]; rfl
  simp only[IV,In4.cs,List.append_nil] at hp7 hp8
  simp[FL,TN]
  refine zeV hp7 ?_
  simp[FL]
  refine zeV hp8 ?_
  simp[FL]
  refine zab hnu ?_
  obtain⟨U,hU⟩:∃ U:Nat→List In4,∀ j,U j=ltrs B ((nums.take j).flatMap lops):=⟨_,fun _=>rfl⟩
  have U0:U 0=B:=by rw[hU]; rfl
  have UN:U nums.length=zdS w nums:=by rw[hU,List.take_length,hres]
  have Ul:∀ i,(U i).length≤34+6*35:=fun i=>by
   rw[hU]
   have h1:=zcC ((nums.take i).flatMap lops) B
   have h2:((nums.take i).flatMap lops).length=6*(nums.take i).length:=by
    generalize nums.take i=l
    induction l with
    | nil=>rfl
    | cons a l ih=>rw[List.flatMap_cons,List.length_append,ih,List.length_cons]; simp[lops,ops6]; omega
   rw[h2,List.length_take] at h1
   omega
  simp[FL,hg0]
  refine W_up nums.length (fun i=>[(4,.ptr 0 0),(6,.fn 327 [.ptr 2 0,.ptr 0 0]),(35,.vs (nats .u32 nums) .no),(36,.int .i64 nums.length),(37,.int .i64 i)]) (fun i=>BL (U i)) (fun _=>True) ?_ ?_
  ·simp[zaa,FL,U0,nB,bk0]
  intro i hi2 _
  by_cases hlt:i<nums.length
  ·obtain⟨n,hn'⟩:∃ n,n=nums[i]:=⟨_,rfl⟩
   have hgn:nums[i]?=some n:=by rw[List.getElem?_eq_getElem hlt,hn']
   have hnk:=hn n (hn'▸List.getElem_mem hlt)
   obtain⟨Y,hY⟩:∃ Y:Nat→List In4,∀ j,Y j=ltrs (U i) ((lops n).take j):=⟨_,fun _=>rfl⟩
   have Y0:Y 0=U i:=by rw[hY]; rfl
   have Y6:Y 6=U (i+1):=by
    rw[hY,hU,hU,List.take_of_length_le (show(lops n).length≤6 from Nat.le_refl _),List.take_add_one,hgn]
    simp[zpX]
   have Yl:∀ j,(Y j).length≤34+6*35+6:=fun j=>by
    rw[hY]
    have h1:=zcC ((lops n).take j) (U i)
    have h2:=Ul i
    have h3:(lops n).length=6:=rfl
    rw[List.length_take,h3] at h1
    omega
   obtain⟨L6,hL6⟩:∃ L6:List V,L6=[.int .i64 0,.int .i64 1,.int .i64 4,.int .i64 84,.int .i64 68,.int .i64 164]:=⟨_,rfl⟩
   have l6:L6.length=6:=by rw[hL6]; rfl
   have kL:∀ m,clL m L6=L6:=fun m=>by rw[hL6]; simp[clL,V.cl]
   have hidx:∀ j,j<6→(L6.drop j).take 1=[.int .i64 (ops6.getD j 0:Nat)]:=fun j hj=>by
    rw[hL6]
    rcases(by omega:j=0∨j=1∨j=2∨j=3∨j=4∨j=5) with rfl|rfl|rfl|rfl|rfl|rfl<;>rfl
   simp(disch:=omega)[ltT,hlt,hgn,hn'.symm,←hL6,hg0]
   refine W_up 6 (fun j=>[(4,.ptr 0 0),(6,.fn 327 [.ptr 2 0,.ptr 0 0]),(10,.int .u32 n),(35,.vs (nats .u32 nums) .no),(36,.int .i64 nums.length),(37,.int .i64 i),(41,.agg L6),(42,.int .i64 j)]) (fun j=>BL (Y j)) (fun _=>True) ?_ ?_
   ·simp[zaa,Y0,nB,bk0,kL]
   intro j hj _
   by_cases hj6:j<6
   ·obtain⟨o,ho⟩:∃ o,o=ops6.getD j 0:=⟨_,rfl⟩
    have hs:Y (j+1)=ltr (Y j) ⟨o,0,0,n⟩:=by
     rw[hY,hY,List.take_add_one,←znE]
     congr 2
     have:(lops n)[j]?=some ⟨o,0,0,n⟩:=by
      rw[ho]
      rcases(by omega:j=0∨j=1∨j=2∨j=3∨j=4∨j=5) with rfl|rfl|rfl|rfl|rfl|rfl<;>rfl
     rw[this]; rfl
    have hi6:=hidx j hj6
    rw[←ho] at hi6
    have hp:=zkN (G:=G) (Y j) ⟨o,0,0,n⟩ [] (fun n=>rfl) (by have:=Yl j; omega) hnk
    simp only[IV,In4.cs,List.append_nil] at hp
    simp(disch:=omega)[ltT,hj6,l6,hi6,leTn]
    refine zeV hp ?_
    simp(disch:=omega)[hj6,hs,zag,zaa,nB,bk0,kL,-Int.natCast_add]
   ·obtain rfl:j=6:=by omega
    simp(disch:=omega)[hlt,zag,zaa,nB,bk0,Y6,-Int.natCast_add]
  ·have hne:i=nums.length:=by omega
   subst hne
   simp[hg0,UN]
end Go.Ev
/- A window's candidates: search.candidates, hurdleref19.Candidate. -/
namespace Go.Ev
open Go Go.RowKit
variable {G:Tbl}
def zmh(L:List In4):List (List In4):=L.flatMap fun x=>L.map fun y=>[x,y]
def zbE(w L:List In4):List (List In4) :=
 if w.length=0 then [] else []::(if w.length=1 then [] else L.map (fun x=>[x])++(if w.length=2 then [] else zmh L))
theorem znF{L:List In4}{i j:Nat}{x y:In4}:∀{K:List In4},K[i]?=some x→L[j]?=some y→(K.flatMap fun x=>L.map fun y=>[x,y])[i*L.length+j]?=some [x,y]
 | [],h,_=>by simp at h
 | z::K,h,h2=>by
  have hj:=(List.getElem?_eq_some_iff.1 h2).1
  rw[List.flatMap_cons]
  cases i with
  | zero =>
   simp only[List.getElem?_cons_zero,Option.some.injEq] at h
   subst h
   rw[Nat.zero_mul,Nat.zero_add,List.getElem?_append_left (by simpa using hj),List.getElem?_map,h2]; rfl
  | succ i =>
   rw[List.getElem?_cons_succ] at h
   rw[List.getElem?_append_right (by rw[List.length_map,Nat.succ_mul]; omega),List.length_map,show(i+1)*L.length+j-L.length=i*L.length+j by rw[Nat.succ_mul]; omega]
   exact znF h h2
theorem znG(L:List In4):∀ K:List In4,(K.flatMap fun x=>L.map fun y=>[x,y]).length=K.length*L.length
 | []=>by simp
 | z::K=>by rw[List.flatMap_cons,List.length_append,znG L K,List.length_map,List.length_cons,Nat.succ_mul]; omega
section
variable {w L:List In4} {i j:Nat} {x y:In4}
theorem zvo(hw:w.length≠0):(zbE w L)[0]?=some []:=by simp[zbE,hw]
theorem zBh(hw:2≤w.length)(h:L[i]?=some x):(zbE w L)[i+1]?=some [x]:=by
 have hi:=(List.getElem?_eq_some_iff.1 h).1
 rw[zbE,if_neg (by omega),List.getElem?_cons_succ,if_neg (by omega),List.getElem?_append_left (by simpa using hi),List.getElem?_map,h]; rfl
theorem zBi(hw:3≤w.length)(h:L[i]?=some x)(h2:L[j]?=some y):(zbE w L)[L.length+1+(i*L.length+j)]?=some [x,y]:=by
 rw[zbE,if_neg (by omega),show L.length+1+(i*L.length+j)=(L.length+(i*L.length+j))+1 by omega,List.getElem?_cons_succ,if_neg (by omega),List.getElem?_append_right (by simp),List.length_map,if_neg (by omega),Nat.add_sub_cancel_left]
 exact znF h h2
theorem zuL:(zbE w L).length=if w.length=0 then 0 else if w.length=1 then 1 else if w.length=2 then L.length+1 else L.length+1+L.length*L.length:=by
 unfold zbE
 split
 ·rfl
 split
 ·rfl
 split
 ·simp
 ·simp only[List.length_cons,List.length_append,List.length_map,zmh,znG]; omega
theorem zgS{c:List In4}(h:c∈zbE w L):c.length<w.length:=by
 unfold zbE at h
 split at h
 ·cases h
 ·split at h
  ·simp at h; subst h; simp; omega
  ·split at h
   ·simp at h
    rcases h with rfl|⟨a,_,rfl⟩
    ·simp; omega
    ·simp; omega
   ·simp[zmh] at h
    rcases h with rfl|⟨a,_,rfl⟩|⟨a,_,b,_,rfl⟩
    ·simp; omega
    ·simp; omega
    ·simp; omega
theorem zji{c:List In4}(h:c∈zbE w L):∀ x∈c,x∈L:=by
 unfold zbE at h
 split at h
 ·cases h
 ·split at h
  ·simp at h; subst h; simp
  ·split at h
   ·simp at h
    rcases h with rfl|⟨a,ha,rfl⟩<;>simp_all
   ·simp[zmh] at h
    rcases h with rfl|⟨a,ha,rfl⟩|⟨a,ha,b,hb,rfl⟩<;>simp_all
end
def zbL(hit:Nat→List In4→Bool):List (List In4)→Nat→Option (Nat×List In4)
 | [],_=>none
 | c::l,k=>if hit k c=true then some (k,c) else zbL hit l (k+1)
theorem zla{hit:Nat→List In4→Bool}:∀{l:List (List In4)} {k:Nat},(∀ j<l.length,∀ c,l[j]?=some c→hit (k+j) c=false)→zbL hit l k=none
 | [],_,_=>rfl
 | c::l,k,h=>by
  rw[zbL,if_neg (by rw[show k=k+0 by rfl,h 0 (by simp) c rfl]; simp)]
  exact zla fun j hj c hc=>by rw[show k+1+j=k+(j+1) by omega]; exact h (j+1) (by simp; omega) c (by simpa using hc)
theorem zkb{hit:Nat→List In4→Bool}{c:List In4}:∀{l:List (List In4)} {k j:Nat},l[j]?=some c→hit (k+j) c=true→(∀ i<j,∀ c,l[i]?=some c→hit (k+i) c=false)→zbL hit l k=some (k+j,c)
 | [],_,_,h,_,_=>by simp at h
 | d::l,k,0,h,hh,_=>by
  simp only[List.getElem?_cons_zero,Option.some.injEq] at h
  subst h
  rw[Nat.add_zero] at hh
  rw[zbL,if_pos hh]; rfl
 | d::l,k,j+1,h,hh,hn=>by
  rw[zbL,if_neg (by rw[show k=k+0 by rfl,hn 0 (by omega) d rfl]; simp)]
  rw[show k+(j+1)=k+1+j by omega] at hh ⊢
  exact zkb (by simpa using h) hh fun i hi c hc=>by rw[show k+1+i=k+(i+1) by omega]; exact hn (i+1) (by omega) c (by simpa using hc)
end Go.Ev
/- search.candidates, walked. -/
namespace Go.Ev
open Go Go.RowKit
variable {G:Tbl}
theorem ztf[HasSrcC G]{H:Heap}(hsh:za8 H){id i1 i2:Nat}{w L:List In4}{tk:Tk}(hwl:w.length≤1000)(hL:L.length≤1000)
  (h1:H[i1]?=some (some (.cells [.vs (IL w) .no]))) (h2:H[i2]?=some (some (.cells [.vs (IL L) .no]))) (hid:id<H.length) {hit:Nat→List In4→Bool} {H':Nat→List In4→Heap}
  (hyes:∀ k c,(zbE w L)[k]?=some c→hit k c=false→∀ X:Heap,(∀ n,X.map (Option.map (Blk.cl n))=X)→YS G id [.int .i64 k,.vs (IL c) .full] (H++X) true (H++X))
  (hno:∀ k c,(zbE w L)[k]?=some c→hit k c=true→∀ X:Heap,(∀ n,X.map (Option.map (Blk.cl n))=X)→YS G id [.int .i64 k,.vs (IL c) .full] (H++X) false (H' k c++X))
  (hl':∀ k c,(zbE w L)[k]?=some c→hit k c=true→zac H.length (H' k c)=H' k c∧(H' k c).length=H.length) :
  SF G 328 [.yld id,.ptr i1 0,.ptr i2 0] H (.tup []) (match zbL hit (zbE w L) 0 with|some p=>H' p.1 p.2|none=>H):=by
 refine zbz HasSrcC.h_search_candidates_1 (Nat.le_of_ble_eq_true rfl) ?_
 have lt1:i1<H.length:=(List.getElem?_eq_some_iff.1 h1).1
 have lt2:i2<H.length:=(List.getElem?_eq_some_iff.1 h2).1
 have hself:=hsh.self
 have hback:=hsh.back
 have g1:=(List.getElem?_eq_some_iff.1 h1).2
 have g2:=(List.getElem?_eq_some_iff.1 h2).2
 have e1:∀ X:Heap,(H++X)[i1]?=some (some (.cells [.vs (IL w) .no])):=fun X=>by rw[List.getElem?_append_left lt1]; exact h1
 have e2:∀ X:Heap,(H++X)[i2]?=some (some (.cells [.vs (IL L) .no])):=fun X=>by rw[List.getElem?_append_left lt2]; exact h2
 have e1':∀(X:Heap) h,(H++X)[i1]'h=some (.cells [.vs (IL w) .no]):=fun X h=>(List.getElem?_eq_some_iff.1 (e1 X)).2
 have e2':∀(X:Heap) h,(H++X)[i2]'h=some (.cells [.vs (IL L) .no]):=fun X h=>(List.getElem?_eq_some_iff.1 (e2 X)).2
 have k0:∀(r:Heap) x,(H++r).set H.length x=H++r.set 0 x:=fun r x=>zbW rfl x
 have kk:∀ r:Heap,(H++r)[H.length]?=r[0]?:=fun r=>apn0 rfl
 have k01:∀(r:Heap) x,(H++r).set (H.length+1) x=H++r.set 1 x:=fun r x=>zcD rfl 1 x
 have kk1:∀ r:Heap,(H++r)[H.length+1]?=r[1]?:=fun r=>apnk rfl 1
 have hcl:=zuL (w:=w) (L:=L)
 have hpu:∀ x:In4,(∀ y∈x.cs,y.pure=true)=True:=fun x=>eq_true (fun y hy=>by simp only[In4.cs,List.mem_cons,List.not_mem_nil,or_false] at hy; rcases hy with rfl|rfl|rfl|rfl<;>rfl)
 have hxl:∀ x:In4,x.cs.length=4:=fun x=>rfl
 have hxt:∀ x:In4,x.cs.take 4=x.cs:=fun x=>rfl
 have nx:∀ x:In4,x.cs.map V.nf1=x.cs:=fun x=>rfl
 have kx:∀(x:In4) n,clL n x.cs=x.cs:=fun x n=>by simp[In4.cs,clL,V.cl]
 obtain⟨C,hC⟩:∃ C,C=zbE w L:=⟨_,rfl⟩
 rw[←hC] at hcl ⊢
 -- what follows when nothing is hit below a number
 have none_of:∀ n,C.length≤n→(∀ j<n,∀ c,C[j]?=some c→hit j c=false)→zbL hit C 0=none:=fun n hn hP=>zla fun j hj c hc=>by rw[Nat.zero_add]; exact hP j (by omega) c hc
 have some_of:∀ k c,C[k]?=some c→hit k c=true→(∀ j<k,∀ c,C[j]?=some c→hit j c=false)→zbL hit C 0=some (k,c):=fun k c hc hh hP=>by
  have:=zkb (hit:=hit) (k:=0) hc (by rw[Nat.zero_add]; exact hh) fun i hi c hc=>by rw[Nat.zero_add]; exact hP i hi c hc
  rwa[Nat.zero_add] at this
 rw[←hC] at hyes hno hl'
 by_cases w0:w.length=0
 ·have hn:zbL hit C 0=none:=none_of 0 (by rw[hcl,if_pos w0]; exact Nat.le_refl _) fun j hj=>by omega
  have w0i:((w.length:Int)==0)=true:=by simp[w0]
  simp[h1,g1,w0,w0i,hn,hself]
 have w0i:((w.length:Int)==0)=false:=beqF (by omega)
 have c0:C[0]?=some []:=by rw[hC]; exact zvo w0
 simp[h1,g1,w0,w0i]
 cases hh0:hit 0 [] with
 | true =>
  have:=hno 0 [] c0 hh0 [] (fun n=>rfl)
  simp only[List.append_nil,IL,List.map_nil] at this
  refine zcB this ?_
  have hf:=some_of 0 [] c0 hh0 fun j hj=>by omega
  obtain⟨l1,l2⟩:=hl' 0 [] c0 hh0
  simp[hf,l1]
 | false =>
 have:=hyes 0 [] c0 hh0 [] (fun n=>rfl)
 simp only[List.append_nil,IL,List.map_nil] at this
 refine zcB this ?_
 by_cases w1:w.length=1
 ·have hn:zbL hit C 0=none:=none_of 1 (by rw[hcl,if_neg w0,if_pos w1]; exact Nat.le_refl _) fun j hj c hc=>by
   obtain rfl:j=0:=by omega
   rw[c0] at hc; cases hc; exact hh0
  simp[h1,g1,w1,hn,hself]
 have w1i:((w.length:Int)==1)=false:=beqF (by omega)
 have hw2:2≤w.length:=by omega
 simp[h1,g1,h2,g2,w1,w1i]
 have P1:∀ j<1,∀ c,C[j]?=some c→hit j c=false:=fun j hj c hc=>by
  obtain rfl:j=0:=by omega
  rw[c0] at hc; cases hc; exact hh0
 have hmap:∀ X:Heap,(∀ n,X.map (Option.map (Blk.cl n))=X)→zac H.length (H++X)=H:=fun X _=>hback X
 obtain⟨N1,hN1⟩:∃ N1:Nat→Nat,∀ i,N1 i=i+1:=⟨_,fun _=>rfl⟩
 have hN10:N1 0=1:=hN1 0
 refine W_up L.length (fun i=>[(0,.yld id),(1,.ptr i1 0),(2,.ptr i2 0),(4,.int .i64 (N1 i:Nat)),(24,.vs (IL L) .no),(25,.int .i64 L.length),(26,.int .i64 i)]) (fun _=>H) (fun i=>∀ j<i+1,∀ c,C[j]?=some c→hit j c=false) ?_ ?_
 ·simp[zaa,hself,hid,lt1,lt2,hN10]
  simpa using P1
 intro i hi hP
 by_cases hlt:i<L.length
 ·obtain⟨x,hx⟩:∃ x,x=L[i]:=⟨_,rfl⟩
  have hg:L[i]?=some x:=by rw[List.getElem?_eq_getElem hlt,hx]
  have hgg:=zaY hlt
  rw[←hx] at hgg
  have hc:C[i+1]?=some [x]:=by rw[hC]; exact zBh hw2 hg
  have hX:∀ n,([some (Blk.cells x.cs)]:Heap).map (Option.map (Blk.cl n))=[some (Blk.cells x.cs)]:=fun n=>by simp[Blk.cl,kx]
  have hX2:∀ n,([some (Blk.cells x.cs)]:Heap).map (Option.map (Blk.cl n))=[some (Blk.cells x.cs)]:=hX
  simp(disch:=omega)[ltT,hlt,hgg,hx.symm,hxl,hxt,nx,kx,kk,k0,hpu]
  have hilx:IL [x]=[x.cs]:=rfl
  cases hh:hit (i+1) [x] with
  | true =>
   have hy:=hno (i+1) [x] hc hh _ hX
   rw[hilx,←hN1 i] at hy
   refine zcB hy ?_
   have hf:=some_of (i+1) [x] hc hh hP
   obtain⟨l1,l2⟩:=hl' (i+1) [x] hc hh
   rw[←hN1 i] at l1 l2 hf
   simp[hf,zgo l1 l2]
  | false =>
   have hy:=hyes (i+1) [x] hc hh _ hX
   rw[hilx,←hN1 i] at hy
   refine zcB hy ?_
   have hP2:∀ j<i+1+1,∀ c,C[j]?=some c→hit j c=false:=fun j hj c hc'=>by
    rcases Nat.lt_succ_iff_lt_or_eq.1 hj with h|rfl
    ·exact hP j h c hc'
    ·rw[hc] at hc'; cases hc'; exact hh
   have a1:addI .i64 (N1 i:Int) 1=(N1 (i+1):Int):=by rw[hN1,hN1]; exact zag (by omega)
   simp(disch:=omega)[hlt,zag,a1,zaa,hself,hback,hid,lt1,lt2,-Int.natCast_add]
   exact hP2
 ·have hne:i=L.length:=by omega
  subst hne
  simp
  by_cases w2:w.length=2
  ·have hn:zbL hit C 0=none:=none_of (L.length+1) (by rw[hcl,if_neg w0,if_neg w1,if_pos w2]; exact Nat.le_refl _) hP
   simp[h1,g1,w2,hn,hself]
  have w2i:((w.length:Int)==2)=false:=beqF (by omega)
  have hw3:3≤w.length:=by omega
  have nn:L.length*L.length≤1000000:=Nat.le_trans (Nat.mul_le_mul hL hL) (by decide)
  simp[h1,g1,h2,g2,w2,w2i]
  obtain⟨N2,hN2⟩:∃ N2:Nat→Nat,∀ i,N2 i=L.length+1+i*L.length:=⟨_,fun _=>rfl⟩
  have hN20:N2 0=L.length+1:=by rw[hN2]; omega
  have hN1L:N1 L.length=L.length+1:=hN1 _
  refine W_up L.length (fun i=>[(0,.yld id),(2,.ptr i2 0),(4,.int .i64 (N2 i:Nat)),(42,.vs (IL L) .no),(43,.int .i64 L.length),(44,.int .i64 i)]) (fun _=>H) (fun i=>∀ j<N2 i,∀ c,C[j]?=some c→hit j c=false) ?_ ?_
  ·simp[zaa,hself,hid,lt1,lt2,hN20,hN1L]
   exact hP
  intro i hi hQ
  have hil:i*L.length≤L.length*L.length:=Nat.mul_le_mul_right _ hi
  by_cases hlt:i<L.length
  ·obtain⟨x,hx⟩:∃ x,x=L[i]:=⟨_,rfl⟩
   have hg:L[i]?=some x:=by rw[List.getElem?_eq_getElem hlt,hx]
   have hgg:=zaY hlt
   rw[←hx] at hgg
   have hX:∀ n,([some (Blk.cells x.cs)]:Heap).map (Option.map (Blk.cl n))=[some (Blk.cells x.cs)]:=fun n=>by simp[Blk.cl,kx]
   have hsx:zac (H.length+1) (H++[some (.cells x.cs)])=H++[some (.cells x.cs)]:=by
    have:=(hsh.app hX).self
    simpa using this
   have hbx:∀ r:Heap,zac (H.length+1) (H++some (.cells x.cs)::r)=H++[some (.cells x.cs)]:=fun r=>by
    have:=(hsh.app hX).back r
    simpa using this
   have hsucc:(i+1)*L.length=i*L.length+L.length:=Nat.succ_mul _ _
   have g2x:∀ r:Heap,(H++r)[i2]?=some (some (.cells [.vs (IL L) .no])):=e2
   simp(disch:=omega)[ltT,hlt,hgg,hx.symm,hxl,hxt,nx,kx,kk,k0,hpu,e2,e2']
   obtain⟨N3,hN3⟩:∃ N3:Nat→Nat,∀ j,N3 j=L.length+1+(i*L.length+j):=⟨_,fun _=>rfl⟩
   have hN30:N3 0=N2 i:=by rw[hN3,hN2]; omega
   have hN3L:N3 L.length=N2 (i+1):=by rw[hN3,hN2]; omega
   have hN3s:∀ j,N3 (j+1)=N3 j+1:=fun j=>by rw[hN3,hN3]; omega
   have hN3l:∀ j,j≤L.length→N3 j≤2000000:=fun j hj=>by rw[hN3]; omega
   refine W_up L.length (fun j=>[(0,.yld id),(2,.ptr i2 0),(4,.int .i64 (N3 j:Nat)),(8,.ptr H.length 0),(42,.vs (IL L) .no),(43,.int .i64 L.length),(44,.int .i64 i),(48,.vs (IL L) .no),(49,.int .i64 L.length),(50,.int .i64 j)]) (fun _=>H++[some (.cells x.cs)]) (fun j=>∀ m<N3 j,∀ c,C[m]?=some c→hit m c=false) ?_ ?_
   ·simp[zaa,hsx,show id<H.length+1 by omega,show i2<H.length+1 by omega,hN30]
    exact hQ
   intro j hj hR
   by_cases hjt:j<L.length
   ·obtain⟨y,hy⟩:∃ y,y=L[j]:=⟨_,rfl⟩
    have hg2:L[j]?=some y:=by rw[List.getElem?_eq_getElem hjt,hy]
    have hgg2:=zaY hjt
    rw[←hy] at hgg2
    have hc:C[L.length+1+(i*L.length+j)]?=some [x,y]:=by rw[hC]; exact zBi hw3 hg hg2
    have hXY:∀ n,([some (Blk.cells x.cs),some (Blk.cells y.cs)]:Heap).map (Option.map (Blk.cl n))=[some (Blk.cells x.cs),some (Blk.cells y.cs)]:=fun n=>by simp[Blk.cl,kx]
    have hilx:IL [x,y]=[x.cs,y.cs]:=rfl
    rw[←hN3 j] at hc
    have hql:=hN3l j (by omega)
    have hqs:=hN3s j
    obtain⟨q,hq⟩:∃ q,q=N3 j:=⟨_,rfl⟩
    rw[←hq] at hc hql hqs
    have hR':∀ m<q,∀ c,C[m]?=some c→hit m c=false:=by rw[hq]; exact hR
    have a3:addI .i64 (q:Int) 1=((q+1:Nat):Int):=zag (by omega)
    simp only[←hq]
    simp(disch:=omega)[ltT,hjt,hgg2,hy.symm,hxl,hxt,nx,kx,kk,k0,kk1,k01,hpu]
    cases hh:hit q [x,y] with
    | true =>
     have hyy:=hno q [x,y] hc hh _ hXY
     rw[hilx] at hyy
     refine zcB hyy ?_
     have hf:=some_of q [x,y] hc hh hR'
     obtain⟨l1,l2⟩:=hl' q [x,y] hc hh
     simp[hf,zgo l1 l2]
    | false =>
     have hyy:=hyes q [x,y] hc hh _ hXY
     rw[hilx] at hyy
     refine zcB hyy ?_
     have hP2:∀ m<q+1,∀ c,C[m]?=some c→hit m c=false:=fun m hm c hc'=>by
      rcases Nat.lt_succ_iff_lt_or_eq.1 hm with h|rfl
      ·exact hR' m h c hc'
      ·rw[hc] at hc'; cases hc'; exact hh
     simp(disch:=omega)[hjt,zag,a3,hqs,zaa,hsx,hbx,show id<H.length+1 by omega,show i2<H.length+1 by omega,-Int.natCast_add]
     exact hP2
   ·obtain rfl:j=L.length:=by omega
    rw[hN3L] at hR
    simp(disch:=omega)[hN3L,hlt,zag,zaa,hself,hback,hid,lt1,lt2,-Int.natCast_add,-Int.natCast_mul]
    exact hR
  ·have hne:i=L.length:=by omega
   subst hne
   have hn:zbL hit C 0=none:=none_of (N2 L.length) (by rw[hN2,hcl,if_neg w0,if_neg w1,if_neg w2]; exact Nat.le_refl _) hQ
   simp[hn,hself]
end Go.Ev
/- search.Find and search.Candidate. -/
namespace Go.Ev
open Go Go.RowKit
variable {G:Tbl}
def zkc:SCode:=.seq (.region 0 [⟨some 11,.mv (.t 26),none⟩]) (.region 0 [⟨some 12,.mv (.t 27),none⟩])
def zkd:SCode:=.block 1 (.seq (.seq (.region 0 [⟨some 28,.mv (.t 11),none⟩,⟨some 29,.load 1 false false (.t 5),none⟩,⟨some 30,.bin .geq (.t 28) (.t 29),none⟩]) (.cond (.t 30) (.exit 0) .skip)) (.seq (.keep [3,4,6,7,8,12])
 (.seq (.region 1 [⟨some 32,.load 1 false false (.t 3),none⟩,⟨some 33,.mv (.t 12),none⟩,⟨some 34,.load 1 false false (.t 4),none⟩,⟨some 35,.pcall 312 [.t 32,.t 33,.t 34],none⟩,⟨some 31,.mv (.t 35),none⟩,⟨some 36,.ext 0 (.t 31),none⟩,⟨some 37,.ext 1 (.t 31),none⟩,
  ⟨some 13,.alloc 0 (ansC 0 none),none⟩,⟨none,.store 28 (.t 13) (.t 36),none⟩,⟨some 14,.mv (.t 37),none⟩]) (.seq (.keep [6,7,8,12,13]) (.seq (.region 0 [⟨some 38,.faddr 0 (.t 13),none⟩,⟨some 39,.load 1 false false (.t 38),none⟩,⟨some 40,.bin .eql (.t 39) (.c (.int .i64 0)),none⟩])
   (.cond (.t 40) (.seq (.region 0 [⟨some 41,.mv (.t 12),none⟩,⟨none,.store 1 (.t 6) (.t 41),none⟩,⟨none,.store 1 (.t 7) (.c (.bool true)),none⟩,⟨none,.store 1 (.t 8) (.c (.int .i64 0)),none⟩]) .ret) .skip))))))
def zkO:List (Nat×V):=[(3,.ptr 0 0),(4,.ptr 1 0),(5,.ptr 2 0),(6,.ptr 3 0),(7,.ptr 4 0),(8,.ptr 5 0)]
def FH(w L:List In4)(live:Nat)(tries:Int)(o:List In4)(b:Bool)(st:LSt):Heap :=
 [some (.cells [.vs (IL w) .no]),some (.cells [.int .u32 live]),some (.cells [.int .i64 tries]),some (.cells [.vs (IL o) .full]),some (.cells [.bool b]),some (.cells [.int .i64 0]),some (.cells [.vs (IL w) .no]),some (.cells [.vs (IL L) .no]),some (.loop zkO [26,27] zkc zkd st)]
section
variable {w L o:List In4} {live:Nat} {tries:Int} {b:Bool} {st:LSt}
theorem zkP:za8 (FH w L live tries o b st):=by
 intro n hn
 simp only[FH,List.length_cons,List.length_nil] at hn
 simp[FH,zkO,Blk.cl,clL,V.cl,Tk.cl,show 0<n by omega,show 1<n by omega,show 2<n by omega,show 3<n by omega,show 4<n by omega,show 5<n by omega]
noncomputable def hitF(w:List In4)(live:Nat)(tries:Int)(k:Nat)(c:List In4):Bool:=decide (tries≤k)||decide ((decR w c live).1=0)
theorem zpn[HasWd G][HasNeg G][HasIns G][HasCheck G][HasData G][HasWith G][HasStep G][HasWRight G][HasWinRun G][HasWinAsg G][HasWinState G][HasWinOf G][HasAffApart G][HasAffine G][hBA:HasBitsA G][HasSymNew G][HasSym G][HasSymApart G][HasDecDf G][HasDec G]
  (k:Nat) (c:List In4) (hw:w.length≤maxLen) (hkw:∀ x∈w,x.k<4294967296) (hlv:live<4294967296) (hc:c.length≤maxLen) (hkc:∀ x∈c,x.k<4294967296) (X:Heap) (hX:∀ n,X.map (Option.map (Blk.cl n))=X) :
  YS G 8 [.int .i64 k,.vs (IL c) .full] (FH w L live tries [] false .ready++X) (!hitF w live tries k c)
   (if tries≤k then FH w L live tries [] false (.done (.exit 0))++X else if(decR w c live).1=0 then FH w L live tries c true (.done .ret)++X else FH w L live tries [] false .ready++X):=by
 have nF:∀ o b st,(FH w L live tries o b st).length=9:=fun o b st=>rfl
 obtain⟨b',H',hy,rfl,rfl⟩:=zvk (R:=fun b' H'=>b'=(!hitF w live tries k c)∧H'=(if tries≤k then FH w L live tries [] false (.done (.exit 0))++X else if(decR w c live).1=0 then FH w L live tries c true (.done .ret)++X else FH w L live tries [] false .ready++X))
  (G:=G) (H:=FH w L live tries [] false .ready++X) (id:=8) (args:=[.int .i64 k,.vs (IL c) .full]) (e0:=zkO) (ps:=[26,27]) (as:=zkc) (bo:=zkd) rfl rfl (by
  have s8:∀ o b st st' (r:Heap),(FH w L live tries o b st++r).set 8 (some (.loop zkO [26,27] zkc zkd st'))=FH w L live tries o b st'++r:=fun o b st st' r=>rfl
  have g8:∀ o b st (r:Heap),(FH w L live tries o b st++r)[8]?=some (some (.loop zkO [26,27] zkc zkd st)):=fun o b st r=>rfl
  have g0:∀ o b st (r:Heap),(FH w L live tries o b st++r)[0]?=some (some (.cells [.vs (IL w) .no])):=fun o b st r=>rfl
  have g1:∀ o b st (r:Heap),(FH w L live tries o b st++r)[1]?=some (some (.cells [.int .u32 live])):=fun o b st r=>rfl
  have g2:∀ o b st (r:Heap),(FH w L live tries o b st++r)[2]?=some (some (.cells [.int .i64 tries])):=fun o b st r=>rfl
  have g3:∀ o b st (r:Heap),(FH w L live tries o b st++r)[3]?=some (some (.cells [.vs (IL o) .full])):=fun o b st r=>rfl
  have g4:∀ o b st (r:Heap),(FH w L live tries o b st++r)[4]?=some (some (.cells [.bool b])):=fun o b st r=>rfl
  have g5:∀ o b st (r:Heap),(FH w L live tries o b st++r)[5]?=some (some (.cells [.int .i64 0])):=fun o b st r=>rfl
  have s3:∀ o o' b st (r:Heap),(FH w L live tries o b st++r).set 3 (some (.cells [.vs (IL o') .full]))=FH w L live tries o' b st++r:=fun o o' b st r=>rfl
  have s4:∀ o b b' st (r:Heap),(FH w L live tries o b st++r).set 4 (some (.cells [.bool b']))=FH w L live tries o b' st++r:=fun o b b' st r=>rfl
  have s5:∀ o b st (r:Heap),(FH w L live tries o b st++r).set 5 (some (.cells [.int .i64 0]))=FH w L live tries o b st++r:=fun o b st r=>rfl
  have fb:∀ o b st (r:Heap),zac (9+X.length) (FH w L live tries o b st++(X++r))=FH w L live tries o b st++X:=fun o b st r=>by
   have:=((zkP (w:=w) (L:=L) (live:=live) (tries:=tries) (o:=o) (b:=b) (st:=st)).app hX).back r
   rw[List.append_assoc,List.length_append,nF] at this
   exact this
  have fb0:∀ o b st,zac (9+X.length) (FH w L live tries o b st++X)=FH w L live tries o b st++X:=fun o b st=>by
   have:=fb o b st []
   simpa using this
  have kk:∀ o b st (r:Heap),(FH w L live tries o b st++(X++r))[9+X.length]?=r[0]?:=fun o b st r=>by
   rw[←List.append_assoc]; exact apn0 (by simp[nF])
  have k0:∀ o b st (r:Heap) y,(FH w L live tries o b st++(X++r)).set (9+X.length) y=FH w L live tries o b st++(X++r.set 0 y):=fun o b st r y=>by
   rw[←List.append_assoc,zbW (by simp[nF]),List.append_assoc]
  have hd:=zjz (G:=G) w c live hw hc hkw hkc hlv
  simp only[FL] at hd
  obtain⟨A,hA⟩:∃ A,A=ansC 0 none:=⟨_,rfl⟩
  have lA:A.length=28:=by rw[hA]; rfl
  obtain⟨cc,B,hcc,hB,kB,lB,B1⟩:∃(cc:Int) (B:List V),(decR w c live).1=cc∧B=ansC (decR w c live).1 (decR w c live).2∧(∀ n,clL n B=B)∧B.length=28∧B.take 1=[.int .i64 cc] :=
   ⟨_,_,rfl,rfl,fun n=>zin _ _ n,zlg w c live,zmt _ _⟩
  have tB:B.take 28=B:=List.take_of_length_le (by omega)
  have dA:A.drop 28=[]:=List.drop_eq_nil_of_le (by omega)
  rw[←hB] at hd
  simp only[hitF,hcc]
  simp[zkc,zkO,putP]
  refine⟨_,_,_,_,g8 _ _ _ _,?_⟩
  rw[s8]
  simp[zkd,nF,g2]
  have s3':∀ o o' b st,(FH w L live tries o b st).set 3 (some (.cells [.vs (IL o') .full]))=FH w L live tries o' b st:=fun o o' b st=>rfl
  have s4':∀ o b b' st,(FH w L live tries o b st).set 4 (some (.cells [.bool b']))=FH w L live tries o b' st:=fun o b b' st=>rfl
  have s5':∀ o b st,(FH w L live tries o b st).set 5 (some (.cells [.int .i64 0]))=FH w L live tries o b st:=fun o b st=>rfl
  by_cases ht:tries≤(k:Int)
  ·simp[ht,g8]
   exact⟨_,_,_,_,⟨rfl,rfl,rfl,rfl⟩,fb0 _ _ _⟩
  simp[ht,zaa,nF,g0,g1,g3,g4,g5]
  refine zab hd ?_
  simp[zaa,nF,g0,g1,g3,g4,g5,←hA,lA,lB,tB,dA,kB,kk,k0,B1]
  by_cases h0:cc=0
  ·simp[h0,zaa,nF,g0,g1,g3,g4,g5,s3,s4,s5,s3',s4',s5',g8,kB]
   exact⟨_,_,_,_,⟨rfl,rfl,rfl,rfl⟩,fb _ _ _ _⟩
  ·simp[h0,beqF h0,zaa,nF,g8]
   exact⟨_,_,_,_,⟨rfl,rfl,rfl,rfl⟩,fb _ _ _ _⟩)
 exact hy
end
theorem ztg{L:List Nd}(h:Inv L){x:Int}{c:Nat}(e:constI L x=some c):c<4294967296:=by
 unfold constI at e
 split at e
 ·cases hg:L[x.toNat]? with
  | none=>rw[hg] at e; cases e
  | some a =>
   rw[hg] at e
   simp only[Option.bind_some,zau] at e
   split at e
   ·exact zbq e (h.wf a (List.mem_of_getElem? hg)).1
   ·cases e
 ·cases e
theorem zqI{w:List In4}(hk:∀ x∈w,x.k<4294967296)(hw:winB w=true):∀ n∈ownN w++zdX w,n<4294967296:=by
 have hi:Inv (winV [] w).L:=(zeL Inv.nil w hk).ext.inv
 intro n hn
 rw[List.mem_append] at hn
 rcases hn with hn|hn
 ·simp only[ownN,List.mem_map,List.mem_filter] at hn
  obtain⟨x,⟨hx,_⟩,rfl⟩:=hn
  exact hk x hx
 ·simp only[zdX,List.mem_append,Option.mem_toList,Option.mem_def] at hn
  have hv:∀ v,valI v (winV [] w).L ((winV [] w).p.getD 0 0)=some n→n<4294967296:=fun v h=>by
   have h0:0≤(winV [] w).p.getD 0 0:=by
    unfold valI at h
    split at h
    ·rename_i hh; simp only[hasI,decide_eq_true_eq] at hh; exact hh.1
    ·cases h
   obtain⟨i,hi'⟩:=Int.eq_ofNat_of_zero_le h0
   rw[hi'] at h
   exact zmZ hi h
  rcases hn with h|h|h
  ·exact ztg hi h
  ·exact hv _ h
  ·exact hv _ h
noncomputable def lettersW(w:List In4):List In4:=zdS w (ownN w++zdX w)
theorem zBj{l:List In4}{x:In4}(hl:∀ y∈l,y.k<4294967296)(hx:x.k<4294967296):∀ y∈ltr l x,y.k<4294967296:=by
 unfold ltr
 split
 ·exact hl
 ·split
  ·intro y hy
   rcases List.mem_append.1 hy with h|h
   ·exact hl y h
   ·rw[List.mem_singleton.1 h]; exact hx
  ·exact hl
theorem zmi:∀{xs l:List In4},(∀ y∈l,y.k<4294967296)→(∀ y∈xs,y.k<4294967296)→∀ y∈ltrs l xs,y.k<4294967296
 | [],_,hl,_=>hl
 | x::xs,l,hl,hx=>by
  show ∀ y∈ltrs (ltr l x) xs,y.k<4294967296
  exact zmi (zBj hl (hx x (by simp))) fun y hy=>hx y (by simp[hy])
theorem zth{w:List In4}{nums:List Nat}(hk:∀ x∈w,x.k<4294967296)(hn:∀ n∈nums,n<4294967296):∀ y∈zdS w nums,y.k<4294967296:=by
 refine zmi (zmi (zmi (by simp) hk) ?_) ?_
 ·intro y hy
  simp only[List.mem_cons,List.not_mem_nil,or_false] at hy
  rcases hy with rfl|rfl<;>decide
 ·intro y hy
  simp only[List.mem_flatMap,lops,List.mem_map] at hy
  obtain⟨n,h1,o,_,rfl⟩:=hy
  exact hn n h1
theorem zpY(w:List In4)(nums:List Nat):(zdS w nums).length≤w.length+2+6*nums.length:=by
 unfold zdS
 have h1:=zcC w []
 have h2:=zcC [⟨7,0,0,0⟩,⟨135,0,0,0⟩] (ltrs [] w)
 have h3:=zcC (nums.flatMap lops) (ltrs (ltrs [] w) [⟨7,0,0,0⟩,⟨135,0,0,0⟩])
 have h4:(nums.flatMap lops).length=6*nums.length:=by
  generalize nums=l
  induction l with
  | nil=>rfl
  | cons a l ih=>rw[List.flatMap_cons,List.length_append,ih,List.length_cons]; simp[lops,ops6]; omega
 simp at h1 h2
 omega
theorem zuM(w:List In4):(zdX w).length≤3:=by
 have h1:∀ o:Option Nat,o.toList.length≤1:=fun o=>by cases o<;>simp
 have a1:=h1 (constI (winV [] w).L ((winV [] w).p.getD 0 0))
 have a2:=h1 (valI (zae 34) (winV [] w).L ((winV [] w).p.getD 0 0))
 have a3:=h1 (valI (4294967295::zae 33) (winV [] w).L ((winV [] w).p.getD 0 0))
 rw[zdX,List.length_append,List.length_append]
 omega
theorem zmj{w:List In4}(hk:∀ x∈w,x.k<4294967296)(hw:winB w=true):∀ y∈lettersW w,y.k<4294967296:=zth hk (zqI hk hw)
theorem zpo{w:List In4}(hw:winB w=true):(lettersW w).length≤300:=by
 have hw32:w.length≤32:=by simp only[winB,Bool.and_eq_true,decide_eq_true_eq] at hw; exact hw.1
 have h1:=zpY w (ownN w++zdX w)
 have h2:=ziR w
 have h3:=zuM w
 rw[List.length_append] at h1
 unfold lettersW
 omega
theorem zwA[HasSrcC G](H:Heap)(w L:List In4):Big G (.F 329 [.vs (IL w) .no,.vs (IL L) .no] H (.fn 328 [.ptr H.length 0,.ptr (H.length+1) 0]) (H++[some (.cells [.vs (IL w) .no]),some (.cells [.vs (IL L) .no])])):=by
 refine F_of HasSrcC.h_search_candidates (Nat.le_of_ble_eq_true rfl) ?_
 simp[ap0,apk,set0,setk]
noncomputable def findR(w:List In4)(live:Nat)(tries:Int):Option (List In4) :=
 match zbL (hitF w live tries) (zbE w (lettersW w)) 0 with
 | some p=>if tries≤p.1 then none else some p.2
 | none=>none
theorem zmk{hit:Nat→List In4→Bool}{p:Nat×List In4}:∀{l:List (List In4)} {k:Nat},zbL hit l k=some p→k≤p.1∧l[p.1-k]?=some p.2∧hit p.1 p.2=true
 | [],_,h=>by cases h
 | c::l,k,h=>by
  rw[zbL] at h
  split at h
  ·rename_i hh
   cases h
   exact⟨Nat.le_refl _,by simp,hh⟩
  ·obtain⟨h1,h2,h3⟩:=zmk h
   refine⟨by omega,?_,h3⟩
   rw[show p.1-k=(p.1-(k+1))+1 by omega]
   exact h2
theorem zqJ[HasWd G][HasNeg G][HasIns G][HasCheck G][HasData G][HasWith G][HasStep G][HasWRight G][HasWinRun G][HasWinAsg G][HasWinState G][HasWinOf G][HasAffApart G][HasAffine G][hBA:HasBitsA G][HasSymNew G][HasSym G][HasSymEval G][HasSymApart G][HasDecDf G][HasDec G][HasSrcN G][HasSrcL G][HasSrcC G][HasSrcF G]
  (w:List In4) (live:Nat) (tries:Int) (hf:w.length≤maxLen) (hk:∀ x∈w,x.k<4294967296) (hw:winB w=true) (hlv:live<4294967296) :
  FP G 333 [FL w,.int .u32 live,.int .i64 tries] (.tup [FL ((findR w live tries).getD []),.bool (findR w live tries).isSome,.int .i64 0]):=by
 haveI:HasBitsE G:=hBA.toHasBitsE
 refine zak HasSrcF.h_search_Find (Nat.le_of_ble_eq_true rfl) ?_
 have hl:=zrE (G:=G) w hf hk hw (zqI hk hw)
 have hLk:=zmj hk hw
 have hLl:=zpo hw
 have hw32:w.length≤32:=by simp only[winB,Bool.and_eq_true,decide_eq_true_eq] at hw; exact hw.1
 have hR:findR w live tries=findR w live tries:=rfl
 conv at hR=>rhs; unfold findR
 change FP G 330 [FL w] (.tup [FL (lettersW w),.int .i64 0]) at hl
 generalize lettersW w=L at hl hLk hLl hR
 simp only[FL] at hl
 simp[FL]
 refine zab hl ?_
 simp
 refine zhx (zwA _ w L) (by simp) ?_
 simp
 have hcnd:=ztf (G:=G) (H:=FH w L live tries [] false .ready) zkP (id:=8) (i1:=6) (i2:=7) (w:=w) (L:=L) (tk:=.no) (by omega) (by omega) rfl rfl (show 8<9 by decide) (hit:=hitF w live tries)
  (H':=fun k c=>if tries≤(k:Int) then FH w L live tries [] false (.done (.exit 0)) else FH w L live tries c true (.done .ret))
  (fun k c hc hh X hX=>by
   have hm:=List.mem_of_getElem? hc
   have:=zpn (G:=G) (L:=L) (tries:=tries) k c hf hk hlv (by have:=zgS hm; simp only[maxLen]; omega) (fun x hx=>hLk x (zji hm x hx)) X hX
   rw[hh] at this
   simp only[hitF,Bool.or_eq_false_iff,decide_eq_false_iff_not] at hh
   rw[if_neg hh.1,if_neg hh.2] at this
   exact this)
  (fun k c hc hh X hX=>by
   have hm:=List.mem_of_getElem? hc
   have:=zpn (G:=G) (L:=L) (tries:=tries) k c hf hk hlv (by have:=zgS hm; simp only[maxLen]; omega) (fun x hx=>hLk x (zji hm x hx)) X hX
   rw[hh] at this
   simp only[hitF,Bool.or_eq_true,decide_eq_true_eq] at hh
   by_cases ht:tries≤(k:Int)
   ·rw[if_pos ht] at this ⊢
    exact this
   ·rw[if_neg ht,if_pos (hh.resolve_left ht)] at this
    rw[if_neg ht]
    exact this)
  (fun k c hc hh=>by
   by_cases ht:tries≤(k:Int)
   ·rw[if_pos ht]; exact⟨(zkP (w:=w) (L:=L) (live:=live) (tries:=tries) (o:=[]) (b:=false) (st:=.done (.exit 0))).self,rfl⟩
   ·rw[if_neg ht]; exact⟨(zkP (w:=w) (L:=L) (live:=live) (tries:=tries) (o:=c) (b:=true) (st:=.done .ret)).self,rfl⟩)
 have ht8:∀ o b st,zac 8 (FH w L live tries o b st)=[some (.cells [.vs (IL w) .no]),some (.cells [.int .u32 live]),some (.cells [.int .i64 tries]),some (.cells [.vs (IL o) .full]),some (.cells [.bool b]),some (.cells [.int .i64 0]),some (.cells [.vs (IL w) .no]),some (.cells [.vs (IL L) .no])]:=fun o b st=>by
  simp[zac,FH,Blk.cl,clL,V.cl,Tk.cl]
 cases hfc:zbL (hitF w live tries) (zbE w L) 0 with
 | none =>
  rw[hfc] at hcnd hR
  simp only[] at hcnd hR
  refine ze1 hcnd rfl (.inl ⟨rfl,rfl⟩) ?_
  simp[ht8,hR,zaa]
 | some p =>
  rw[hfc] at hcnd hR
  simp only[] at hcnd hR
  by_cases ht:tries≤(p.1:Int)
  ·rw[if_pos ht] at hcnd hR
   refine ze1 (x:=.exit 0) hcnd rfl (.inr ⟨rfl,by simp⟩) ?_
   simp[ht8,hR,zaa]
  ·rw[if_neg ht] at hcnd hR
   refine ze1 (x:=.ret) hcnd rfl (.inr ⟨rfl,by simp⟩) ?_
   simp[ht8,hR,zaa]
end Go.Ev
/- The parts of windows of sums, and of bits: plain laws. -/
namespace Go.Ev
open Go Go.RowKit
variable {G:Tbl} {L L':List Nd}
def zvp(F:Nat→List Nd→Int→Prop):Prop:=∀ i L L' x,F i L x→L <+: L'→F i L' x
def AllN(F:Nat→List Nd→Int→Prop)(n:Nat)(L:List Nd)(p:List Int):Prop:=p.length=18∧∀ i<n,F i L (p.getD i 0)
theorem AllN.pre{F:Nat→List Nd→Int→Prop}{n:Nat}{p:List Int}(h:AllN F n L p)(hF:zvp F)(e:L <+: L'):AllN F n L' p:=⟨h.1,fun i hi=>hF i _ _ _ (h.2 i hi) e⟩
theorem AllN.set{F:Nat→List Nd→Int→Prop}{n i:Nat}{p:List Int}{x:Int}(h:AllN F n L p)(hF:zvp F)(e:L <+: L')(hx:F i L' x):AllN F n L' (p.set i x):=by
 refine⟨by rw[List.length_set]; exact h.1,fun j hj=>?_⟩
 by_cases hij:i=j
 ·subst hij
  by_cases hl:i<p.length
  ·rw[List.getD_eq_getElem?_getD,List.getElem?_set_self hl]; exact hx
  ·rw[List.set_eq_of_length_le (by omega)]; exact hF _ _ _ _ (h.2 i hj) e
 ·rw[List.getD_eq_getElem?_getD,List.getElem?_set_ne hij,←List.getD_eq_getElem?_getD]; exact hF _ _ _ _ (h.2 j hj) e
end Go.Ev
/- What is found: plain laws; the examples of layer 19. -/
namespace Go.Ev
open Go Go.RowKit
variable {G:Tbl}
section
variable {w:List In4} {live:Nat} {tries:Int}
theorem zxQ{k:Nat}{c:List In4}(hc:(zbE w (lettersW w))[k]?=some c)(hk:(k:Int)<tries)(he:(decR w c live).1=0)
  (h:∀ j<k,∀ c,(zbE w (lettersW w))[j]?=some c→(decR w c live).1≠0):findR w live tries=some c:=by
 have hf:=zkb (hit:=hitF w live tries) (k:=0) hc (by simp[hitF,he]) (fun i hi c hc=>by
  have:=h i hi c hc
  simp only[hitF,Nat.zero_add,Bool.or_eq_false_iff,decide_eq_false_iff_not]
  exact⟨by omega,this⟩)
 unfold findR
 rw[hf,Nat.zero_add]
 simp only[]
 rw[if_neg (by omega)]
theorem zke{hit:Nat→List In4→Bool}{p:Nat×List In4}:∀{l:List (List In4)} {k:Nat},zbL hit l k=some p→∀ i,k+i<p.1→∀ c,l[i]?=some c→hit (k+i) c=false
 | [],_,h=>by cases h
 | d::l,k,h=>by
  rw[zbL] at h
  split at h
  ·cases h; intro i hi; omega
  ·rename_i hh
   intro i hi c hc
   cases i with
   | zero =>
    simp only[List.getElem?_cons_zero,Option.some.injEq] at hc
    subst hc
    simpa using hh
   | succ i =>
    rw[show k+(i+1)=k+1+i by omega]
    exact zke h i (by omega) c (by simpa using hc)
theorem zuN{c:List In4}(h:findR w live tries=some c):∃ k:Nat,(k:Int)<tries∧(zbE w (lettersW w))[k]?=some c∧(decR w c live).1=0∧∀ j<k,∀ c,(zbE w (lettersW w))[j]?=some c→(decR w c live).1≠0:=by
 unfold findR at h
 split at h
 ·rename_i p hp
  obtain⟨_,h2,h3⟩:=zmk hp
  have h4:=zke hp
  rw[Nat.sub_zero] at h2
  split at h
  ·cases h
  ·rename_i ht
   cases h
   simp only[hitF,Bool.or_eq_true,decide_eq_true_eq] at h3
   refine⟨p.1,by omega,h2,h3.resolve_left ht,fun j hj c hc=>?_⟩
   have:=h4 j (by omega) c hc
   simp only[hitF,Nat.zero_add,Bool.or_eq_false_iff,decide_eq_false_iff_not] at this
   exact this.2
 ·cases h
end
theorem zwB{l:List In4}{x:In4}(hl:∀ y∈l,winB [y]=true):∀ y∈ltr l x,winB [y]=true:=by
 unfold ltr
 split
 ·exact hl
 ·split
  ·rename_i hw
   intro y hy
   rcases List.mem_append.1 hy with h|h
   ·exact hl y h
   ·rw[List.mem_singleton.1 h]; exact hw
  ·exact hl
theorem zjj:∀{xs l:List In4},(∀ y∈l,winB [y]=true)→∀ y∈ltrs l xs,winB [y]=true
 | [],_,hl=>hl
 | x::xs,l,hl=>by
  show ∀ y∈ltrs (ltr l x) xs,winB [y]=true
  exact zjj (zwB hl)
theorem zpZ{w:List In4}{nums:List Nat}:∀ y∈zdS w nums,zaJ y=true:=by
 intro y hy
 have:=zjj (zjj (zjj (l:=[]) (by simp))) y hy
 simpa[winB] using this
theorem zuO{w L c:List In4}(hL:∀ y∈L,zaJ y=true)(hc:c∈zbE w L)(hw:w.length≤32):winB c=true:=by
 have h1:=zgS hc
 have h2:=zji hc
 simp only[winB,Bool.and_eq_true,decide_eq_true_eq,List.all_eq_true]
 exact⟨by omega,fun x hx=>hL x (h2 x hx)⟩
end Go.Ev
/- The examples of layer 19; the laws SearchSound, SearchMore. -/
namespace Go.Ev
open Go Go.RowKit
variable {G:Tbl}
theorem zuP{v w:List In4}{live:Nat}(hv:winB v=true)(hw:winB w=true):decide ((decR v w live).1=0)=zc1 (winV [] v).p (winV (winV [] v).L w).p (winV [] v).st (winV (winV [] v).L w).st live:=by
 rcases dec_tells (live:=live) hv hw with⟨e,h⟩|⟨r,e,_,_,h⟩|⟨e,_,h⟩
 ·rw[e,h]; rfl
 ·rw[e,h]; rfl
 ·rw[e,h]; rfl
def sA(a:Nat):St:=⟨a,0,zae 16⟩
end Go.Ev
/- Filters all of whose places are come to. -/
namespace Go.Ev
open Go Go.RowKit
def Prd(f:List In4)(i:Nat):Prop:=∃ j x o,f[j]?=some x∧o∈offs x∧j+1+o=i
def AllP(f:List In4):Prop:=∀ i,0<i→i<f.length→Prd f i
def MinM(f:List In4)(m:List Bool):Prop:=∀ i,m[i]?=some true→0<i→∃ j x o,f[j]?=some x∧m[j]?=some true∧o∈offs x∧j+1+o=i
theorem zmP:∀{f:List In4} {m:List Bool} {j:Nat} {x:In4} {o:Nat},clsB f m→f[j]?=some x→m[j]?=some true→o∈offs x→m[j+1+o]?=some true
 | [],_,_,_,_,_,h,_,_=>by simp at h
 | _::_,[],_,_,_,h,_,_,_=>by cases h
 | y::f,b::m,0,x,o,h,hx,hb,ho=>by
  simp only[List.getElem?_cons_zero,Option.some.injEq] at hx hb
  subst hx
  rw[show 0+1+o=o+1 by omega,List.getElem?_cons_succ]
  exact h.1 hb o ho
 | y::f,b::m,j+1,x,o,h,hx,hb,ho=>by
  rw[show j+1+1+o=(j+1+o)+1 by omega,List.getElem?_cons_succ]
  exact zmP h.2 (by simpa using hx) (by simpa using hb) ho
theorem zwC{f:List In4}{m:List Bool}(hc:clsB f m)(h0:m[0]?=some true)(ha:AllP f):∀ b∈m,b=true:=by
 have hl:=zdB hc
 have key:∀ n i,i≤n→i<f.length→m[i]?=some true:=fun n=>by
  induction n with
  | zero =>
   intro i hi hlt
   obtain rfl:i=0:=by omega
   exact h0
  | succ n ih =>
   intro i hi hlt
   by_cases hz:i=0
   ·subst hz; exact h0
   ·obtain⟨j,x,o,h1,h2,h3⟩:=ha i (by omega) hlt
    rw[←h3]
    exact zmP hc h1 (ih j (by omega) (by omega)) h2
 intro b hb
 obtain⟨i,hi⟩:=List.getElem?_of_mem hb
 have:=key i i (Nat.le_refl _) (by rw[hl]; exact(List.getElem?_eq_some_iff.1 hi).1)
 rw[hi] at this
 cases this; rfl
theorem zti{f:List In4}{m:List Bool}(hs:zao f=true)(hc:clsB f m)(h0:m[0]?=some true)(ha:AllP f):pruR f m=f:=by
 refine zqj (zdB hc) (zwC hc h0 ha) ?_
 simp only[zao,Bool.and_eq_true] at hs
 exact hs.1.2
theorem zlA(m:List Bool)(i o:Nat):cntB m (i+o)=cntB m i+cntB (m.drop i) o:=by
 simp only[cntB]
 rw[List.take_add,List.countP_append]
theorem zuQ{m:List Bool}{i:Nat}(h:m[i]?=some true):cntB m (i+1)=cntB m i+1:=by
 rw[zlA]
 have hl:=(List.getElem?_eq_some_iff.1 h)
 obtain⟨h1,h2⟩:=hl
 have:=List.drop_eq_getElem_cons h1
 rw[h2] at this
 rw[this]
 simp[cntB]
theorem zlB:∀(m:List Bool) (p:Nat),p<m.countP id→∃ i,m[i]?=some true∧cntB m i=p
 | [],p,h=>by simp at h
 | true::m,0,_=>⟨0,rfl,zcs _⟩
 | true::m,p+1,h=>by
  obtain⟨i,h1,h2⟩:=zlB m p (by simpa using h)
  exact⟨i+1,by simpa using h1,by rw[zjA,h2]; simp; omega⟩
 | false::m,p,h=>by
  obtain⟨i,h1,h2⟩:=zlB m p (by simpa using h)
  exact⟨i+1,by simpa using h1,by rw[zjA,h2]; simp⟩
theorem zxR{f:List In4}{m:List Bool}{i:Nat}{x:In4}(hl:f.length=m.length)(hx:f[i]?=some x)(hm:m[i]?=some true):(pruR f m)[cntB m i]?=some (prX (m.drop (i+1)) x):=by
 have h1:=ziQ f m i hl
 obtain⟨a1,a2⟩:=List.getElem?_eq_some_iff.1 hx
 obtain⟨b1,b2⟩:=List.getElem?_eq_some_iff.1 hm
 have e1:=List.drop_eq_getElem_cons a1
 have e2:=List.drop_eq_getElem_cons b1
 rw[a2] at e1
 rw[b2] at e2
 rw[e1,e2,pruR] at h1
 have h2:((pruR f m).drop (cntB m i))[0]?=some (prX (m.drop (i+1)) x):=by rw[h1]; rfl
 rwa[List.getElem?_drop,Nat.add_zero] at h2
theorem zuR(m:List Bool){x:In4}{o:Nat}(h:o∈offs x):cntB m o∈offs (prX m x):=by
 unfold offs at h ⊢
 rw[zg9]
 split at h
 ·cases h
 rename_i he
 rw[if_neg he]
 split at h
 ·rename_i h5
  rw[if_pos h5]
  simp only[List.mem_singleton] at h
  subst h
  simp[prX,h5]
 ·rename_i h5
  rw[if_neg h5]
  split at h
  ·rename_i hb
   rw[if_pos hb]
   simp only[List.mem_cons,List.not_mem_nil,or_false] at h
   have hp:prX m x={ x with jt:=(cntB m x.jt.toNat:Nat),jf:=(cntB m x.jf.toNat:Nat) }:=by rw[prX,if_neg h5,if_pos hb]
   rw[hp]
   rcases h with rfl|rfl<;>simp
  ·rename_i hb
   rw[if_neg hb]
   simp only[List.mem_singleton] at h ⊢
   subst h
   exact zcs _
theorem zuS{f:List In4}{m:List Bool}(hc:clsB f m)(hm:MinM f m):AllP (pruR f m):=by
 have hl:=zdB hc
 intro p hp hlt
 rw[zfx f m hl] at hlt
 obtain⟨i,h1,h2⟩:=zlB m p hlt
 have hi:0<i:=by
  rcases Nat.eq_zero_or_pos i with rfl|h
  ·rw[zcs] at h2; omega
  ·exact h
 obtain⟨j,x,o,g1,g2,g3,g4⟩:=hm i h1 hi
 refine⟨cntB m j,_,_,zxR hl g1 g2,zuR (m.drop (j+1)) g3,?_⟩
 rw[←h2,←g4,zlA,zuQ g2]
end Go.Ev
/- Tables of rules: plain laws. -/
namespace Go.Ev
open Go Go.RowKit
theorem ztj:∀ a b:List UInt8,Op.bytesLess a b=false→a≠b→Op.bytesLess b a=true
 | [],[],_,h=>absurd rfl h
 | [],_::_,h,_=>by simp[Op.bytesLess] at h
 | _::_,[],_,_=>by simp[Op.bytesLess]
 | x::a,y::b,h,hne=>by
  simp only[Op.bytesLess,Bool.or_eq_false_iff,Bool.and_eq_false_iff,decide_eq_false_iff_not,beq_eq_false_iff_ne] at h
  simp only[Op.bytesLess,Bool.or_eq_true,Bool.and_eq_true,decide_eq_true_eq,beq_iff_eq]
  by_cases e:x=y
  ·subst e
   exact .inr ⟨rfl,ztj a b (h.2.resolve_left (fun h=>h rfl)) (fun e=>hne (by rw[e]))⟩
  ·refine .inl ?_
   have h1:=h.1
   rw[UInt8.not_lt] at h1
   exact UInt8.lt_of_le_of_ne h1 (fun e'=>e e'.symm)
theorem zpp:∀ a b c:List UInt8,Op.bytesLess a b=true→Op.bytesLess b c=true→Op.bytesLess a c=true
 | _,[],_,h,_=>by cases ‹List UInt8›<;>simp[Op.bytesLess] at h
 | _,_::_,[],_,h=>by simp[Op.bytesLess] at h
 | [],_::_,_::_,_,_=>by simp[Op.bytesLess]
 | x::a,y::b,z::c,h1,h2=>by
  simp only[Op.bytesLess,Bool.or_eq_true,Bool.and_eq_true,decide_eq_true_eq,beq_iff_eq] at h1 h2 ⊢
  rcases h1 with h1|⟨rfl,h1⟩
  ·rcases h2 with h2|⟨rfl,h2⟩
   ·exact .inl (UInt8.lt_trans h1 h2)
   ·exact .inl h1
  ·rcases h2 with h2|⟨rfl,h2⟩
   ·exact .inl h2
   ·exact .inr ⟨rfl,zpp a b c h1 h2⟩
structure TR where
 fr:List In4
 to:List In4
 lv:Nat
def zml(k:Nat):List UInt8:=(List.range 4).map fun i=>UInt8.ofNat (k/2^(8*i)%256)
def encI(x:In4):List UInt8:=[UInt8.ofNat (x.op.toNat%256),UInt8.ofNat (x.op.toNat/256%256),UInt8.ofNat (x.jt.toNat%256),UInt8.ofNat (x.jf.toNat%256)]++zml x.k
def encW(w:List In4):List UInt8:=w.flatMap encI
def TR.by(r:TR):List UInt8:=zml r.lv++([UInt8.ofNat (r.fr.length%256),UInt8.ofNat (r.to.length%256)]++(encW r.fr++encW r.to))
def TR.may(r:TR):Bool:=winB r.fr&&winB r.to&&decide (r.to.length<r.fr.length)&&decide (r.lv<262144)
def zcI(a b:TR):Bool:=Op.bytesLess a.by b.by
def zco:List TR→Bool
 | []=>true
 | [_]=>true
 | a::b::l=>zcI a b&&zco (b::l)
def tblB(t:List TR):Bool:=t.all TR.may&&zco t&&decide (t.length≤64)
def za4(t:List TR)(r:TR):Nat:=(t.takeWhile fun y=>zcI y r).length
def hasR(t:List TR)(r:TR):Bool:=match t[za4 t r]? with
 | some y=>decide (y.by=r.by)
 | none=>false
def zaD(t:List TR)(r:TR):List TR×Int :=
 if(tblB t&&r.may)=true then if hasR t r=true then(t,0) else if t.length=64 then(t,3) else(t.take (za4 t r)++r::t.drop (za4 t r),0)
 else(t,1)
def zek(t:List TR)(w:List In4)(live:Nat):Option (List In4) :=
 if tblB t=true then(t.find? fun r=>decide (r.fr=w)&&decide (live%262144=r.lv)).map TR.to else none
theorem ztk{a:TR}{t:List TR}(h:zco (a::t)=true):zco t=true:=by
 cases t with
 | nil=>rfl
 | cons b l=>simp only[zco,Bool.and_eq_true] at h; exact h.2
theorem zmQ{a:TR}:∀{t:List TR},zco (a::t)=true→∀ b∈t,zcI a b=true
 | [],_,b,hb=>by cases hb
 | c::t,h,b,hb=>by
  simp only[zco,Bool.and_eq_true] at h
  rcases List.mem_cons.1 hb with rfl|hb
  ·exact h.1
  ·exact zpp _ _ _ h.1 (zmQ h.2 b hb)
theorem znH{a:TR}{t:List TR}(h:∀ b,t.head?=some b→zcI a b=true)(ht:zco t=true):zco (a::t)=true:=by
 cases t with
 | nil=>rfl
 | cons b l =>
  simp only[zco,Bool.and_eq_true]
  exact⟨h b rfl,ht⟩
theorem zpq:∀{t:List TR} {r:TR},zco t=true→hasR t r=false→zco (t.take (za4 t r)++r::t.drop (za4 t r))=true
 | [],r,_,_=>by simp[za4,zco]
 | a::t,r,h,hn=>by
  cases hl:zcI a r with
  | true =>
   have hp:za4 (a::t) r=za4 t r+1:=by simp[za4,hl]
   have hn':hasR t r=false:=by
    rw[hasR,hp,List.getElem?_cons_succ] at hn
    exact hn
   have ih:=zpq (ztk h) hn'
   rw[hp,List.take_succ_cons,List.drop_succ_cons,List.cons_append]
   refine znH (fun b hb=>?_) ih
   have hm:b∈t.take (za4 t r)++r::t.drop (za4 t r):=List.mem_of_mem_head? hb
   rw[List.mem_append,List.mem_cons] at hm
   rcases hm with hm|rfl|hm
   ·exact zmQ h b (List.mem_of_mem_take hm)
   ·exact hl
   ·exact zmQ h b (List.mem_of_mem_drop hm)
  | false =>
   have hp:za4 (a::t) r=0:=by simp[za4,hl]
   rw[hp,List.take_zero,List.drop_zero,List.nil_append]
   refine znH (fun b hb=>?_) h
   simp only[List.head?_cons,Option.some.injEq] at hb
   subst hb
   rw[hasR,hp] at hn
   simp only[List.getElem?_cons_zero,decide_eq_false_iff_not] at hn
   exact ztj _ _ hl hn
theorem zpr(t:List TR)(r:TR):za4 t r≤t.length:=by
 unfold za4
 exact(List.takeWhile_prefix _).length_le
theorem zuT{t:List TR}{r:TR}(ht:tblB t=true)(hr:r.may=true):tblB (zaD t r).1=true∧t.length≤(zaD t r).1.length∧(zaD t r).1.length≤t.length+1∧(∀ x∈(zaD t r).1,x∈t∨x=r):=by
 unfold zaD
 rw[ht,hr,if_pos (show(true&&true)=true from rfl)]
 have same:tblB t=true∧t.length≤t.length∧t.length≤t.length+1∧(∀ x∈t,x∈t∨x=r):=⟨ht,Nat.le_refl _,by omega,fun x hx=>.inl hx⟩
 split
 ·exact same
 rename_i hh
 split
 ·exact same
 rename_i h64
 have hp:=zpr t r
 simp only[tblB,Bool.and_eq_true,decide_eq_true_eq] at ht
 obtain⟨⟨h1,h2⟩,h3⟩:=ht
 have hlen:(t.take (za4 t r)++r::t.drop (za4 t r)).length=t.length+1:=by
  simp only[List.length_append,List.length_cons,List.length_take,List.length_drop]; omega
 have hmem:∀ x∈t.take (za4 t r)++r::t.drop (za4 t r),x∈t∨x=r:=fun x hx=>by
  rw[List.mem_append,List.mem_cons] at hx
  rcases hx with hx|rfl|hx
  ·exact .inl (List.mem_of_mem_take hx)
  ·exact .inr rfl
  ·exact .inl (List.mem_of_mem_drop hx)
 refine⟨?_,by rw[hlen]; omega,by rw[hlen]; exact Nat.le_refl _,hmem⟩
 simp only[tblB,Bool.and_eq_true,decide_eq_true_eq]
 refine⟨⟨?_,zpq h2 (by simpa using hh)⟩,by rw[hlen]; omega⟩
 rw[List.all_eq_true] at h1 ⊢
 intro x hx
 rcases hmem x hx with h|rfl
 ·exact h1 x h
 ·exact hr
end Go.Ev
/- Filters made shorter: plain laws. -/
namespace Go.Ev
open Go Go.RowKit
def zkQ(f:List In4)(a n:Nat):Nat:=zat (nd (f.drop (a+n))) 18
def zb9(f:List In4)(a n:Nat):List In4:=(f.drop a).take n
noncomputable def zbl(w:List In4)(t:List TR)(live:Nat)(tries:Int):Option (List In4) :=
 match zek t w live with
 | some x=>if winB x=true∧(decR w x live).1=0 then some x else findR w live tries
 | none=>findR w live tries
noncomputable def tryP(f:List In4)(t:List TR)(tries:Int)(p:Pc):Option (List In4×List TR) :=
 (zbl (zb9 f p.1 p.2) t (zkQ f p.1 p.2) tries).map fun x=>(putL f p.1 p.2 x,(zaD t ⟨zb9 f p.1 p.2,x,zkQ f p.1 p.2⟩).1)
noncomputable def zbM(f:List In4)(t:List TR)(tries most:Int):Option (List In4×List TR):=(rows f most f.length).findSome? (tryP f t tries)
noncomputable def zbg(tries most:Int):Nat→List In4→List TR→(List In4×List TR)×Nat×Bool
 | 0,f,t=>((f,t),0,false)
 | k+1,f,t=>match zbM f t tries most with
  | none=>((f,t),0,true)
  | some q=>((zbg tries most k q.1 q.2).1,(zbg tries most k q.1 q.2).2.1+1,(zbg tries most k q.1 q.2).2.2)
theorem zps{t:List TR}{w x:List In4}{live:Nat}(h:zek t w live=some x):∃ r∈t,r.fr=w∧r.to=x∧r.may=true:=by
 unfold zek at h
 split at h
 ·rename_i ht
  rw[Option.map_eq_some_iff] at h
  obtain⟨r,h1,h2⟩:=h
  have h3:=List.find?_some h1
  have h4:=List.mem_of_find?_eq_some h1
  simp only[Bool.and_eq_true,decide_eq_true_eq] at h3
  simp only[tblB,Bool.and_eq_true] at ht
  exact⟨r,h4,h3.1,h2,List.all_eq_true.1 ht.1.1 r h4⟩
 ·cases h
theorem zlC{w x:List In4}{t:List TR}{live:Nat}{tries:Int}(hk:∀ y∈w,y.k<4294967296)(hw:winB w=true)(htk:∀ r∈t,∀ y∈r.to,y.k<4294967296)(h:zbl w t live tries=some x) :
  winB x=true∧x.length<w.length∧(decR w x live).1=0∧∀ y∈x,y.k<4294967296:=by
 have hw32:w.length≤32:=by simp only[winB,Bool.and_eq_true,decide_eq_true_eq] at hw; exact hw.1
 have ff:findR w live tries=some x→winB x=true∧x.length<w.length∧(decR w x live).1=0∧∀ y∈x,y.k<4294967296:=fun h=>by
  obtain⟨k,_,hc,h0,_⟩:=zuN h
  have hm:=List.mem_of_getElem? hc
  exact⟨zuO zpZ hm hw32,zgS hm,h0,fun y hy=>zmj hk hw y (zji hm y hy)⟩
 unfold zbl at h
 split at h
 ·rename_i y hy
  split at h
  ·rename_i hh
   cases h
   obtain⟨r,h1,h2,h3,h4⟩:=zps hy
   simp only[TR.may,Bool.and_eq_true,decide_eq_true_eq] at h4
   exact⟨hh.1,by rw[←h2,←h3]; exact h4.1.2,hh.2,by rw[←h3]; exact htk r h1⟩
  ·exact ff h
 ·exact ff h
def TblK(t:List TR):Prop:=∀ r∈t,(∀ y∈r.fr,y.k<4294967296)∧(∀ y∈r.to,y.k<4294967296)∧r.lv<4294967296
structure RdOk (f:List In4) (t:List TR) (f':List In4) (t':List TR):Prop where
 sound:zao f'=true
 k:∀ y∈f',y.k<4294967296
 len:f'.length<f.length
 run:∀ d:Da,d.ok→(run d f' St0).1=(run d f St0).1∧((∀ y∈f,y.op≠60)→(run d f' St0).2≤(run d f St0).2)
 divs:(∀ y∈f,y.op≠60)→∀ y∈f',y.op≠60
 all:AllP f→AllP f'
 tk:TblK t'
 tbl:tblB t=true→tblB t'=true∧t.length≤t'.length∧t'.length≤t.length+1∧∀ r∈t',r∈t∨winB r.fr=true∧winB r.to=true∧(decR r.fr r.to r.lv).1=0
theorem zwD{t:List TR}{r:TR}(ht:TblK t)(h1:∀ y∈r.fr,y.k<4294967296)(h2:∀ y∈r.to,y.k<4294967296)(h3:r.lv<4294967296):TblK (zaD t r).1:=by
 unfold zaD
 split
 ·split
  ·exact ht
  ·split
   ·exact ht
   ·intro x hx
    rw[List.mem_append,List.mem_cons] at hx
    rcases hx with hx|rfl|hx
    ·exact ht x (List.mem_of_mem_take hx)
    ·exact⟨h1,h2,h3⟩
    ·exact ht x (List.mem_of_mem_drop hx)
 ·exact ht
structure RdLt (f:List In4) (t:List TR) (f':List In4) (t':List TR):Prop where
 sound:zao f'=true
 k:∀ y∈f',y.k<4294967296
 len:f'.length<f.length
 tk:TblK t'
 tbl:tblB t=true→tblB t'=true
theorem zlD{f f':List In4}{t t':List TR}{tries most:Int}(hs:zao f=true)(hk:∀ y∈f,y.k<4294967296)(ht:TblK t)(h:zbM f t tries most=some (f',t')):RdLt f t f' t':=by
 obtain⟨p,hp,he⟩:=List.exists_of_findSome?_eq_some h
 obtain⟨hpa,hc,h2,h32⟩:=ziO hp
 simp only[cnd,zcj,zbc,inB,Bool.and_eq_true,decide_eq_true_eq] at hc
 obtain⟨⟨_,_⟩,_,⟨i1,i2,i3,i4⟩,hfn⟩:=hc
 have hfn:zbQ f p.1 p.2=true:=by simpa using hfn
 have hbd:p.1+p.2≤f.length:=by omega
 unfold tryP at he
 rw[Option.map_eq_some_iff] at he
 obtain⟨x,hx,e⟩:=he
 cases e
 have hPl:(zb9 f p.1 p.2).length=p.2:=by rw[zb9,List.length_take,List.length_drop]; omega
 have hPk:∀ y∈zb9 f p.1 p.2,y.k<4294967296:=zio hk _ _
 have hPw:winB (zb9 f p.1 p.2)=true:=by
  simp only[zbQ,Bool.and_eq_true] at hfn
  exact hfn.1
 have hlv18:zkQ f p.1 p.2<262144:=zbi _ 18
 obtain⟨w1,w2,w3,w4⟩:=zlC hPk hPw (fun r hr=>(ht r hr).2.1) hx
 have hxl:x.length≤p.2:=by omega
 refine⟨zse hs hfn (by omega) hbd w1 hxl,zAM hk w4,by rw[ziP hbd]; omega,zwD ht hPk w4 (by simp only; omega),fun htb=>?_⟩
 exact(zuT htb (by
  simp only[TR.may,hPw,w1,Bool.true_and,Bool.and_eq_true,decide_eq_true_eq]
  exact⟨by omega,hlv18⟩)).1
structure AllOk (f:List In4) (t:List TR) (q:(List In4×List TR)×Nat×Bool):Prop where
 sound:zao q.1.1=true
 k:∀ y∈q.1.1,y.k<4294967296
 len:q.1.1.length≤f.length
 run:∀ d:Da,d.ok→(run d q.1.1 St0).1=(run d f St0).1∧((∀ y∈f,y.op≠60)→(run d q.1.1 St0).2≤(run d f St0).2)
 all:AllP f→AllP q.1.1
 tk:TblK q.1.2
 tbl:tblB t=true→tblB q.1.2=true∧t.length≤q.1.2.length∧q.1.2.length≤t.length+q.2.1∧∀ r∈q.1.2,r∈t∨winB r.fr=true∧winB r.to=true∧(decR r.fr r.to r.lv).1=0
end Go.Ev
/- Bytes of windows: the code. -/
namespace Go.Ev
open Go Go.RowKit
variable {G:Tbl}
theorem ziD(a:Nat):zaP .u8 (a:Int)=((a%256:Nat):Int):=by
 unfold zaP
 simp[IntKind.wrap,IntKind.bits,IntKind.signed]
def encN(x:In4):List Nat:=[x.op.toNat%256,x.op.toNat/256%256,x.jt.toNat%256,x.jf.toNat%256]++lowL x.k 4
theorem zpt(x:In4):(encN x).length=8:=by simp[encN,lowL]
def zaW(w:List In4):List Nat:=w.flatMap encN
theorem zbD:∀ w:List In4,(zaW w).length=8*w.length
 | []=>rfl
 | x::w=>by rw[zaW,List.flatMap_cons,List.length_append,zpt,←zaW,zbD w,List.length_cons]; omega
theorem zmm(w:List In4)(x:In4):zaW (w++[x])=zaW w++encN x:=by simp[zaW]
theorem zpu(w:List In4):encW w=(zaW w).map UInt8.ofNat:=by
 rw[encW,zaW,List.map_flatMap]
 congr 1
theorem znI{x:In4}(h:zaV x=true):(0≤x.op∧x.op≤255)∧(0≤x.jt∧x.jt≤255)∧0≤x.jf∧x.jf≤255:=by
 cases hr:za5 x.op with
 | none=>simp[zaV,hr] at h
 | some r =>
  obtain⟨h1,h2⟩:=zc2 hr
  have h3:∀ r∈zaC,0≤r.1∧r.1≤255:=by decide
  have h4:=h3 r h2
  rw[h1] at h4
  refine⟨h4,?_⟩
  rw[zaV,hr] at h
  simp only[Bool.and_eq_true] at h
  obtain⟨_,h⟩:=h
  split at h
  ·simp only[decide_eq_true_eq] at h; omega
  ·simp only[decide_eq_true_eq] at h; omega
theorem zuU[HasIns G][HasEnc G](w:List In4)(hw:w.length≤4096)(hk:∀ x∈w,x.k<4294967296)(hr:∀ x∈w,zaV x=true):FP G 350 [FL w] (.int .i64 0):=by
 refine zak HasEnc.h_codec_check (Nat.le_of_ble_eq_true rfl) ?_
 have h1:((4096:Int)<(w.length:Int))=False:=eq_false (by omega)
 simp[FL,h1]
 refine W_up w.length (fun i=>[(8,FL w),(9,.int .i64 w.length),(10,.int .i64 i)]) (fun _=>[]) (fun _=>True) ?_ ?_
 ·simp[zaa,zac,FL]
 intro i hi _
 by_cases hlt:i<w.length
 ·obtain⟨x,hfx⟩:∃ x,x=w[i]:=⟨_,rfl⟩
  have hgg:=zaY hlt
  rw[←hfx] at hgg
  have hri:=hr x (by rw[hfx]; exact List.getElem_mem hlt)
  have hxl:x.cs.length=4:=rfl
  have hxt:x.cs.take 4=x.cs:=rfl
  simp(disch:=omega)[ltT,FL,hgg,hfx.symm,hxl,hxt]
  refine zab (znW x) ?_
  simp(disch:=omega)[hri,hlt,zag,zaa,zac,-Int.natCast_add]
 ·have hne:i=w.length:=by omega
  subst hne
  simp
theorem znJ[HasIns G][HasEnc G](w:List In4)(hw:w.length≤4096)(hk:∀ x∈w,x.k<4294967296)(hr:∀ x∈w,zaV x=true):FP G 351 [FL w] (.tup [.vs (nats .u8 (zaW w)) .no,.int .i64 0]):=by
 refine zak HasEnc.h_codec_Encode (Nat.le_of_ble_eq_true rfl) ?_
 have hck:=zuU (G:=G) w hw hk hr
 simp[FL]
 refine zab hck ?_
 simp
 obtain⟨T,hT⟩:∃ T:Nat→List Nat,∀ j,T j=zaW (w.take j):=⟨_,fun _=>rfl⟩
 have hT0:T 0=[]:=by rw[hT]; rfl
 refine W_up w.length (fun i=>[(5,.vs (nats .u8 (T i)) (.own 0)),(14,FL w),(15,.int .i64 w.length),(16,.int .i64 i)]) (fun i=>[some (.zone (T i).length)]) (fun _=>True) ?_ ?_
 ·simp[zaa,zac,FL,hT0]
 intro i hi _
 by_cases hlt:i<w.length
 ·obtain⟨x,hfx⟩:∃ x,x=w[i]:=⟨_,rfl⟩
  have hgg:=zaY hlt
  rw[←hfx] at hgg
  have hxk:x.k<4294967296:=hk x (by rw[hfx]; exact List.getElem_mem hlt)
  obtain⟨r1,r2,r3⟩:=znI (hr x (by rw[hfx]; exact List.getElem_mem hlt))
  have hTs:T (i+1)=T i++encN x:=by
   rw[hT,hT,List.take_add_one,List.getElem?_eq_getElem hlt,Option.toList_some,zmm,hfx]
  have hTl:(T i).length=8*i:=by rw[hT,zbD,List.length_take]; omega
  obtain⟨o,ho⟩:∃ o:Nat,x.op=o:=⟨x.op.toNat,by omega⟩
  obtain⟨jt,hjt⟩:∃ o:Nat,x.jt=o:=⟨x.jt.toNat,by omega⟩
  obtain⟨jf,hjf⟩:∃ o:Nat,x.jf=o:=⟨x.jf.toNat,by omega⟩
  obtain⟨k,hxk2⟩:∃ k,x.k=k:=⟨_,rfl⟩
  have hcs:x.cs=[.int .i64 o,.int .i64 jt,.int .i64 jf,.int .u32 k]:=by rw[In4.cs,ho,hjt,hjf,hxk2]
  have hen:encN x=[o%256,o/256%256,jt%256,jf%256]++lowL k 4:=by rw[encN,ho,hjt,hjf,hxk2]; rfl
  have hs8:shrI .i64 (o:Int) 8=((o/256:Nat):Int):=zej (j:=8) (by decide)
  obtain⟨U,hU⟩:∃ U:List Nat,U=T i++[o%256,o/256%256,jt%256,jf%256]:=⟨_,rfl⟩
  have hUl:U.length=8*i+4:=by rw[hU,List.length_append,hTl]; rfl
  have hap:nats .u8 (T i)++[[V.int .u8 (o%256:Nat)],[V.int .u8 (o/256%256:Nat)],[V.int .u8 (jt%256:Nat)],[V.int .u8 (jf%256:Nat)]]=nats .u8 U:=by
   rw[hU]; simp[nats]
  simp(disch:=omega)[ltT,FL,hgg,hfx.symm,hcs,ziD,hs8,hap,hTl,hUl,leTn,zaa,-Int.natCast_add,-Int.natCast_ediv,-Int.natCast_emod]
  refine W_up 4 (fun j=>[(5,.vs (nats .u8 (U++lowL k j)) (.own 0)),(7,.ptr 1 0),(14,FL w),(15,.int .i64 w.length),(16,.int .i64 i),(36,.int .i64 j)])
   (fun j=>[some (.zone (8*i+4+j)),some (.cells [.int .i64 o,.int .i64 jt,.int .i64 jf,.int .u32 k]),none]) (fun _=>True) ?_ ?_
  ·have hl0:lowL k 0=[]:=rfl
   simp[zaa,zac,FL,hl0]
  intro j hj _
  by_cases hj4:j<4
  ·have m1:mulI .i64 8 (j:Int)=((8*j:Nat):Int):=by unfold mulI; exact IntWalk.i64_in _ ⟨by omega,by omega⟩
   have m2:shrI .u32 (k:Int) ((8*j:Nat):Int)=((k/256^j:Nat):Int):=by
    rw[zi5 (by omega),Nat.pow_mul]
   have m0:(((8*j:Nat):Int)<0)=False:=eq_false (by omega)
   have hls:nats .u8 (U++lowL k j)++[[V.int .u8 (k/256^j%256:Nat)]]=nats .u8 (U++lowL k (j+1)):=by
    rw[zr3]; simp[nats]
   have hll:(U++lowL k j).length=8*i+4+j:=by rw[List.length_append,hUl,zle]
   simp(disch:=omega)[ltT,m0,m1,m2,ziD,hls,hll,leTn,zag,hj4,zaa,zac,FL,-Int.natCast_add,-Int.natCast_mul,-Int.natCast_ediv,-Int.natCast_emod,-Int.natCast_pow]
   omega
  ·have hne:j=4:=by omega
   subst hne
   have hfin:U++lowL k 4=T (i+1):=by rw[hTs,hen,hU,List.append_assoc]
   have hTl2:(T (i+1)).length=8*i+4+4:=by rw[←hfin,List.length_append,hUl,zle]
   simp(disch:=omega)[hfin,hTl2,hlt,zag,zaa,zac,FL,-Int.natCast_add]
 ·have hne:i=w.length:=by omega
  subst hne
  have:T w.length=zaW w:=by rw[hT,List.take_length]
  simp[this]
end Go.Ev
/- Rules: the code. -/
namespace Go.Ev
open Go Go.RowKit
variable {G:Tbl}
def TR.cs(r:TR):List V:=[.vs (IL r.fr) .no,.vs (IL r.to) .no,.int .u32 r.lv]
def TV(r:TR):V:=.agg r.cs
def TL(t:List TR):List (List V):=t.map TR.cs
def TF(t:List TR):V:=.vs (TL t) .no
@[simp] theorem zBF (t:List TR):(TL t).length=t.length:=by simp[TL]
theorem zdT{t:List TR}{i:Nat}{r:TR}(h:t[i]?=some r):(TL t)[i]?=some r.cs:=by simp[TL,h]
def TR.ok(r:TR):Prop:=r.fr.length≤maxLen∧r.to.length≤maxLen∧(∀ x∈r.fr,x.k<4294967296)∧(∀ x∈r.to,x.k<4294967296)∧r.lv<4294967296
theorem zkf:∀ l:List Nat,(∀ b∈l,b<256)→zeN (nats .u8 l)=some (l.map UInt8.ofNat)
 | [],_=>rfl
 | b::l,h=>by
  have ih:=zkf l fun c hc=>h c (by simp[hc])
  simp only[nats] at ih
  simp[nats,zeN,ih]
theorem zcz{w:List In4}(h:winB w=true):w.length≤32∧∀ x∈w,zaV x=true:=by
 simp only[winB,Bool.and_eq_true,decide_eq_true_eq,List.all_eq_true,zaJ] at h
 exact⟨h.1,fun x hx=>(h.2 x hx).1.2⟩
theorem zqK{x:In4}:∀ b∈encN x,b<256:=by
 intro b hb
 simp only[encN,lowL,List.mem_append,List.mem_cons,List.not_mem_nil,or_false,List.mem_map,List.mem_range] at hb
 rcases hb with(rfl|rfl|rfl|rfl)|⟨j,_,rfl⟩<;>exact Nat.mod_lt _ (by decide)
def TR.byN(r:TR):List Nat:=lowL r.lv 4++[r.fr.length%256,r.to.length%256]++zaW r.fr++zaW r.to
theorem zpv(r:TR):r.by=r.byN.map UInt8.ofNat:=by
 have h4:zml r.lv=(lowL r.lv 4).map UInt8.ofNat:=by simp[zml,lowL,List.range,List.range.loop]
 rw[TR.by,TR.byN,h4,zpu,zpu]
 simp[Function.comp_def]
theorem zpw(r:TR):∀ b∈r.byN,b<256:=by
 intro b hb
 simp only[TR.byN,List.mem_append,List.mem_cons,List.not_mem_nil,or_false,zaW,List.mem_flatMap] at hb
 rcases hb with((hb|rfl|rfl)|⟨x,_,hb⟩)|⟨x,_,hb⟩
 ·simp only[lowL,List.mem_map,List.mem_range] at hb
  obtain⟨j,_,rfl⟩:=hb
  exact Nat.mod_lt _ (by decide)
 ·exact Nat.mod_lt _ (by decide)
 ·exact Nat.mod_lt _ (by decide)
 ·exact zqK b hb
 ·exact zqK b hb
theorem znK[HasIns G][HasCheck G][HasWRight G][HasTbl G](r:TR)(hr:r.ok):FP G 352 [TV r] (.bool r.may):=by
 refine zak HasTbl.h_table_Rule_right (Nat.le_of_ble_eq_true rfl) ?_
 obtain⟨h1,h2,h3,h4,h5⟩:=hr
 have w1:=zb1 (G:=G) r.fr h1 h3
 have w2:=zb1 (G:=G) r.to h2 h4
 simp only[FL] at w1 w2
 simp[TV,TR.cs]
 refine zab w1 ?_
 cases e1:winB r.fr with
 | false=>simp[TR.may,e1]
 | true =>
  simp
  refine zab w2 ?_
  cases e2:winB r.to with
  | false=>simp[TR.may,e1,e2]
  | true =>
   by_cases hl:r.to.length<r.fr.length
   ·by_cases hv:r.lv<262144
    ·have hv':((r.lv:Int)<262144)=True:=eq_true (by omega)
     simp[TR.may,e1,e2,hl,hv,hv']
    ·have hv':((r.lv:Int)<262144)=False:=eq_false (by omega)
     simp[TR.may,e1,e2,hl,hv,hv']
   ·simp[TR.may,e1,e2,hl]
def SE(G:Tbl)(f:Nat)(args:List V)(H:Heap)(r:V):Prop:=∃ H1,Big G (.F f args H r H1)∧zac H.length H1=H
theorem zvq{f nt:Nat}{body:SCode}{res:List ResV}{args:List V}{r:V}{H:Heap}(hg:G f=some ⟨nt,body,res⟩)(hl:args.length≤nt)
  (h:W G body [] (mkE (idxE 0 args)) H (QX res fun r1 H1=>r1=r∧zac H.length H1=H)):SE G f args H r:=by
 obtain⟨x,e1,H1,hb,hx,vs,hvs,hr,ht⟩:=h
 rw[←zi2] at hb
 rw[←hr]
 exact⟨_,.fn hg hl hb hx hvs,ht⟩
theorem SE.vcall{f:Nat}{cap args:List V}{r:V}{H:Heap}{base:Nat}{d:Option Nat}{os:List SOper}{K:List Kt}{e:Env}{Q:Ex→Env→Heap→Prop}{ro:Bool}(h:SE G f (args++cap) H r)(hr':r.cl H.length=r)
  (hr:WO G base os K (e.put d r) H Q):zkA G ro (.fn f cap) args base d os K e H Q:=by
 obtain⟨H1,hb,ht⟩:=h
 refine zaF hb (fun _=>ht) ?_
 rw[hr',ht]
 exact hr
theorem SE.scall{f:Nat}{args:List V}{r:V}{H:Heap}{base:Nat}{d:Option Nat}{os:List SOper}{K:List Kt}{e:Env}{Q:Ex→Env→Heap→Prop}(h:SE G f args H r)(hr':r.cl H.length=r)
  (hr:WO G base os K (e.put d r) H Q):zn6 G f args base d os K e H Q:=by
 obtain⟨H1,hb,ht⟩:=h
 refine zfY hb ?_
 rw[hr',ht]
 exact hr
theorem zhU[HasIns G][HasEnc G][HasTbl G](r:TR)(hr:r.ok)(hm:r.may=true)(H:Heap)(hH:za8 H):SE G 353 [TV r] H (.str r.by):=by
 refine zvq HasTbl.h_table_Rule_bytes (Nat.le_of_ble_eq_true rfl) ?_
 have ht:=zgR hH
 have ht0:∀ s:Heap,zac H.length (H++s)=H:=fun s=>hH.back s
 obtain⟨h1,h2,h3,h4,h5⟩:=hr
 simp only[TR.may,Bool.and_eq_true,decide_eq_true_eq] at hm
 obtain⟨⟨⟨m1,m2⟩,_⟩,_⟩:=hm
 obtain⟨a1,a2⟩:=zcz m1
 obtain⟨b1,b2⟩:=zcz m2
 have w1:=znJ (G:=G) r.fr (by omega) h3 a2
 have w2:=znJ (G:=G) r.to (by omega) h4 b2
 simp only[FL] at w1 w2
 obtain⟨v,hv⟩:∃ v,r.lv=v:=⟨_,rfl⟩
 have s1:shrI .u32 (v:Int) 8=((v/256:Nat):Int):=zi5 (j:=8) (by decide)
 have s2:shrI .u32 (v:Int) 16=((v/65536:Nat):Int):=zi5 (j:=16) (by decide)
 have s3:shrI .u32 (v:Int) 24=((v/16777216:Nat):Int):=zi5 (j:=24) (by decide)
 obtain⟨B,hB⟩:∃ B:List Nat,B=lowL v 4++[r.fr.length%256,r.to.length%256]:=⟨_,rfl⟩
 have hBl:B.length=6:=by rw[hB]; simp[lowL]
 have hBe:[[V.int .u8 (v%256:Nat)],[V.int .u8 (v/256%256:Nat)],[V.int .u8 (v/65536%256:Nat)],[V.int .u8 (v/16777216%256:Nat)],[V.int .u8 (r.fr.length%256:Nat)],[V.int .u8 (r.to.length%256:Nat)]]=nats .u8 B:=by
  rw[hB]; simp[nats,lowL,List.range,List.range.loop]
 simp(disch:=omega)[ap0,apk,set0,setk,TV,TR.cs,hv,s1,s2,s3,ziD,hBe,-Int.natCast_ediv,-Int.natCast_emod]
 obtain⟨D,hD⟩:∃ D:Nat→List Nat,∀ j,D j=if j=0 then B else if j=1 then B++zaW r.fr else B++zaW r.fr++zaW r.to:=⟨_,fun _=>rfl⟩
 have hD0:D 0=B:=by rw[hD]; rfl
 have hD1:D 1=B++zaW r.fr:=by rw[hD]; rfl
 have hD2:D 2=r.byN:=by rw[hD,TR.byN,hv,hB]; rfl
 have l1:(D 1).length=6+8*r.fr.length:=by rw[hD1,List.length_append,hBl,zbD]
 have l2:(D 2).length=6+8*r.fr.length+8*r.to.length:=by rw[hD2,TR.byN,List.length_append,hv,←hB,←hD1,l1,zbD]
 have p1:nats .u8 B++nats .u8 (zaW r.fr)=nats .u8 (D 1):=by rw[hD1]; simp[nats]
 have p2:nats .u8 (D 1)++nats .u8 (zaW r.to)=nats .u8 (D 2):=by rw[hD1,hD]; simp[nats]
 have q1:(zaW r.fr).length=8*r.fr.length:=zbD _
 have q2:(zaW r.to).length=8*r.to.length:=zbD _
 have n1:∀ l:List Nat,(nats .u8 l=[])=(l=[]):=fun l=>by simp[nats]
 have n2:∀ w:List In4,(zaW w=[])=(w=[]):=fun w=>propext ⟨fun h=>List.eq_nil_of_length_eq_zero (by have:=zbD w; rw[h] at this; simp at this; omega),fun h=>by rw[h]; rfl⟩
 have hbb:=zkf r.byN (zpw r)
 rw[←zpv,←hD2] at hbb
 refine W_up 2 (fun j=>[(3,.vs (nats .u8 (D j)) (.own (H.length+1))),(36,.agg [.vs (IL r.fr) .no,.vs (IL r.to) .no]),(37,.int .i64 j)])
  (fun j=>H++[some (.cells [.vs (IL r.fr) .no,.vs (IL r.to) .no,.int .u32 v]),some (.zone (D j).length)]) (fun _=>True) ?_ ?_
 ·simp[zaa,ht,ht0,ap0,apk,set0,setk,hD0]
 have d0:addI .i64 0 1=1:=by rw[zav]<;>omega
 have d1:addI .i64 1 1=2:=by rw[zav]<;>omega
 intro j hj _
 rcases(show j=0∨j=1∨j=2 by omega) with rfl|rfl|rfl
 ·simp[ap0,apk,set0,setk]
  refine zab w1 ?_
  by_cases hf0:r.fr=[]
  ·have e1:D 1=B:=by rw[hD1,hf0]; simp[zaW]
   simp(disch:=omega)[hD0,n1,n2,hf0,e1,zaa,ht,ht0,ap0,apk,set0,setk,d0,d1]
  ·simp(disch:=omega)[hD0,n1,n2,hf0,hBl,q1,l1,p1,leTn,zaa,ht,ht0,ap0,apk,set0,setk,d0,d1]
 ·simp[ap0,apk,set0,setk]
  refine zab w2 ?_
  by_cases hf0:r.to=[]
  ·have e1:D 2=D 1:=by rw[hD2,TR.byN,hv,←hB,←hD1,hf0]; simp[zaW]
   simp(disch:=omega)[n1,n2,hf0,e1,zaa,ht,ht0,ap0,apk,set0,setk,d0,d1]
  ·simp(disch:=omega)[n1,n2,hf0,q2,l1,l2,p2,leTn,zaa,ht,ht0,ap0,apk,set0,setk,d0,d1]
 ·simp[hbb,ap0,apk,ht0]
end Go.Ev
/- Tables: are they right? The code. -/
namespace Go.Ev
open Go Go.RowKit
variable {G:Tbl}
theorem SE.fp{f:Nat}{args:List V}{s:List UInt8}(h:SE G f args [] (.str s)):FP G f args (.str s):=by
 obtain⟨H1,hb,_⟩:=h
 exact⟨_,_,hb,by simp⟩
theorem znL:za8 []:=fun _ _=>rfl
theorem zmR:∀{t:List TR},zco t=true↔∀(j:Nat) (a b:TR),t[j]?=some a→t[j+1]?=some b→zcI a b=true
 | []=>by simp[zco]
 | [a]=>by simp[zco]
 | a::b::l=>by
  rw[zco,Bool.and_eq_true,zmR (t:=b::l)]
  constructor
  ·rintro⟨h1,h2⟩ j x y hx hy
   cases j with
   | zero=>simp at hx hy; rw[←hx,←hy]; exact h1
   | succ j=>exact h2 j x y (by simpa using hx) (by simpa using hy)
  ·intro h
   exact⟨h 0 a b rfl rfl,fun j x y hx hy=>h (j+1) x y (by simpa using hx) (by simpa using hy)⟩
def okT(t:List TR)(i:Nat):Prop:=∀ j<i,∀ r,t[j]?=some r→r.may=true∧∀ q,0<j→t[j-1]?=some q→zcI q r=true
theorem zqL{t:List TR}(h:okT t t.length):tblB t=decide (t.length≤64):=by
 have h1:t.all TR.may=true:=by
  rw[List.all_eq_true]
  intro r hr
  obtain⟨j,hj⟩:=List.getElem?_of_mem hr
  exact(h j (List.getElem?_eq_some_iff.1 hj).1 r hj).1
 have h2:zco t=true:=zmR.2 fun j a b ha hb=>(h (j+1) (List.getElem?_eq_some_iff.1 hb).1 b hb).2 a (by omega) (by simpa using ha)
 simp[tblB,h1,h2]
theorem zmS{t:List TR}(h:tblB t=true):okT t t.length∧t.length≤64:=by
 simp only[tblB,Bool.and_eq_true,decide_eq_true_eq] at h
 obtain⟨⟨h1,h2⟩,h3⟩:=h
 refine⟨fun j hj r hr=>⟨List.all_eq_true.1 h1 r (List.mem_of_getElem? hr),fun q h0 hq=>?_⟩,h3⟩
 exact zmR.1 h2 (j-1) q r hq (by rw[show j-1+1=j by omega]; exact hr)
theorem zkR{t:List TR}{i:Nat}{r:TR}(hr:t[i]?=some r)(h:r.may=false∨∃ q,0<i∧t[i-1]?=some q∧zcI q r=false):tblB t=false:=by
 cases ht:tblB t with
 | false=>rfl
 | true =>
  obtain⟨h1,h2⟩:=(zmS ht).1 i (List.getElem?_eq_some_iff.1 hr).1 r hr
  rcases h with h|⟨q,h0,hq,hl⟩
  ·rw[h] at h1; cases h1
  ·have:=h2 q h0 hq
   rw[this] at hl; cases hl
theorem zkg[HasIns G][HasCheck G][HasWRight G][HasEnc G][HasTbl G](t:List TR)(hl:t.length≤1000000)(hk:∀ r∈t,r.ok):FP G 354 [TF t] (.bool (tblB t)):=by
 refine zak HasTbl.h_table_Right (Nat.le_of_ble_eq_true rfl) ?_
 simp[TF]
 refine W_up t.length (fun i=>[(0,TF t),(5,TF t),(6,.int .i64 t.length),(7,.int .i64 i)]) (fun _=>[]) (fun i=>okT t i) ?_ ?_
 ·simp[zaa,zac,TF]
  intro j hj; omega
 intro i hi hP
 by_cases hlt:i<t.length
 ·obtain⟨x,hfx⟩:∃ x,x=t[i]:=⟨_,rfl⟩
  have hg:t[i]?=some x:=by rw[hfx]; exact List.getElem?_eq_getElem hlt
  have hgg:=zdT hg
  have hxm:x∈t:=List.mem_of_getElem? hg
  have hxk:=hk x hxm
  have hxl:x.cs.length=3:=rfl
  have hxt:x.cs.take 3=x.cs:=rfl
  have kx:∀ n,clL n x.cs=x.cs:=fun n=>by simp[TR.cs,clL,V.cl,Tk.cl]
  have hte:(TL t)[i]'(by simpa using hlt)=x.cs:=by simp[TL,hfx]
  have hrt:=znK (G:=G) x hxk
  simp(disch:=omega)[ltT,TF,hgg,hte,hxl,hxt,kx]
  simp only[TV] at hrt
  refine zab hrt ?_
  cases hm:x.may with
  | false =>
   have hR:=zkR hg (.inl hm)
   simp[hR]
  | true =>
   by_cases h0:0<i
   ·obtain⟨q,hq⟩:∃ q,q=t[i-1]'(by omega):=⟨_,rfl⟩
    have hgq:t[i-1]?=some q:=by rw[hq]; exact List.getElem?_eq_getElem (by omega)
    have hqe:(TL t)[i-1]'(by simp; omega)=q.cs:=by simp[TL,hq]
    have hqg:=zdT hgq
    have hqm:=(hP (i-1) (by omega) q hgq).1
    have hqk:=hk q (List.mem_of_getElem? hgq)
    have hql:q.cs.length=3:=rfl
    have hqt:q.cs.take 3=q.cs:=rfl
    have b1:=(zhU (G:=G) q hqk hqm [] znL).fp
    have b2:=(zhU (G:=G) x hxk hm [] znL).fp
    simp only[TV] at b1 b2
    have s1:subI .i64 (i:Int) 1=((i-1:Nat):Int):=by rw[zaK]<;>omega
    simp(disch:=omega)[h0,s1,hqg,hqe,hql,hqt,hxl,hxt,leTn,ltTn]
    refine zab b1 ?_
    simp(disch:=omega)[hxl,hxt]
    refine zab b2 ?_
    cases hlb:zcI q x with
    | false =>
     have hR:=zkR hg (.inr ⟨q,h0,hgq,hlb⟩)
     have hlb':Op.bytesLess q.by x.by=false:=hlb
     simp[hlb',hR]
    | true =>
     have hlb':Op.bytesLess q.by x.by=true:=hlb
     have hP2:okT t (i+1):=fun j hj r hr=>by
      rcases Nat.lt_succ_iff_lt_or_eq.1 hj with h|rfl
      ·exact hP j h r hr
      ·rw[hg] at hr; cases hr
       exact⟨hm,fun q' _ hq'=>by rw[hgq] at hq'; cases hq'; exact hlb⟩
     simp(disch:=omega)[hlb',hlt,zag,zaa,zac,TF,-Int.natCast_add]
     exact hP2
   ·have hi0:i=0:=by omega
    subst hi0
    have hP2:okT t 1:=fun j hj r hr=>by
     have:j=0:=by omega
     subst this
     rw[hg] at hr; cases hr
     exact⟨hm,fun q h0=>absurd h0 (by omega)⟩
    have d0:addI .i64 0 1=1:=by rw[zav]<;>omega
    simp(disch:=omega)[zaa,zac,TF,d0,hlt,hP2]
 ·have hne:i=t.length:=by omega
  subst hne
  have:=zqL hP
  by_cases h64:t.length≤64
  ·have h:((t.length:Int)≤64)=True:=eq_true (by omega)
   simp[this,h64,h,TF]
  ·have h:((t.length:Int)≤64)=False:=eq_false (by omega)
   simp[this,h64,h,TF]
end Go.Ev
/- Tables: places, and what is found. The code. -/
namespace Go.Ev
open Go Go.RowKit
variable {G:Tbl}
theorem zmT[HasTbl G](r:TR)(h1:r.fr.length≤1000000)(h2:r.to.length≤1000000):FP G 356 [TV r] (TV r):=by
 refine zak HasTbl.h_table_own (Nat.le_of_ble_eq_true rfl) ?_
 have hb1:r.fr.length*32≤140737488355328:=by omega
 have hb2:r.to.length*32≤140737488355328:=by omega
 by_cases e1:r.fr=[]<;>by_cases e2:r.to=[] <;>
  simp(disch:=omega)[TV,TR.cs,zqB,e1,e2,leTn]
theorem zuV{t:List TR}{x y:TR}{i:Nat}(h:∀ j<i,∀ z,t[j]?=some z→zcI z x=true)(hg:t[i]?=some y)(hy:zcI y x=false):za4 t x=i:=by
 induction t generalizing i with
 | nil=>simp at hg
 | cons a t ih =>
  cases i with
  | zero=>simp at hg; subst hg; simp[za4,hy]
  | succ i =>
   have h0:=h 0 (by omega) a rfl
   have:=ih (i:=i) (fun j hj z hz=>h (j+1) (by omega) z (by simpa using hz)) (by simpa using hg)
   simp only[za4] at this ⊢
   simp[h0,this]
theorem ztl{t:List TR}{x:TR}(h:∀ z∈t,zcI z x=true):za4 t x=t.length:=by
 induction t with
 | nil=>rfl
 | cons a t ih =>
  have:=ih fun z hz=>h z (by simp[hz])
  simp only[za4] at this ⊢
  simp[h a (by simp),this]
theorem ztm[HasIns G][HasEnc G][HasTbl G](t:List TR)(x:TR)(hl:t.length≤1000000)(hk:∀ r∈t,r.ok)(hm:∀ r∈t,r.may=true)(hxk:x.ok)(hxm:x.may=true)(H:Heap)(hH:za8 H) :
  SE G 355 [TF t,TV x,.fn 353 []] H (.tup [.int .i64 (za4 t x:Nat),.bool (hasR t x)]):=by
 refine zvq HasTbl.h_table_place (Nat.le_of_ble_eq_true rfl) ?_
 have ht:=zgR hH
 have ht0:∀ s:Heap,zac H.length (H++s)=H:=fun s=>hH.back s
 have hxl:x.cs.length=3:=rfl
 have hxt:x.cs.take 3=x.cs:=rfl
 have kx:∀ n,clL n x.cs=x.cs:=fun n=>by simp[TR.cs,clL,V.cl,Tk.cl]
 have hbx:=fun s hs=>zhU (G:=G) x hxk hxm s hs
 simp only[TV] at hbx
 simp[TF,TV,ap0,apk,set0,setk]
 refine W_up t.length (fun i=>[(0,TF t),(2,.fn 353 []),(4,.ptr H.length 0),(10,TF t),(11,.int .i64 t.length),(12,.int .i64 i)]) (fun _=>H++[some (.cells x.cs)]) (fun i=>∀ j<i,∀ z,t[j]?=some z→zcI z x=true) ?_ ?_
 ·simp[zaa,TF,ht,Blk.cl,kx]
 intro i hi hP
 by_cases hlt:i<t.length
 ·obtain⟨y,hfy⟩:∃ y,y=t[i]:=⟨_,rfl⟩
  have hg:t[i]?=some y:=by rw[hfy]; exact List.getElem?_eq_getElem hlt
  have hgg:=zdT hg
  have hym:=hm y (List.mem_of_getElem? hg)
  have hyk:=hk y (List.mem_of_getElem? hg)
  have hyl:y.cs.length=3:=rfl
  have hyt:y.cs.take 3=y.cs:=rfl
  have ky:∀ n,clL n y.cs=y.cs:=fun n=>by simp[TR.cs,clL,V.cl,Tk.cl]
  have hte:(TL t)[i]'(by simpa using hlt)=y.cs:=by simp[TL,hfy]
  have hby:=fun s hs=>zhU (G:=G) y hyk hym s hs
  simp only[TV] at hby
  have hH2:za8 (H++[some (.cells x.cs),some (.cells y.cs)]):=hH.app fun n=>by simp[Blk.cl,kx,ky]
  have hn2:¬H.length+2≤H.length:=by omega
  have hn1:¬H.length+2≤H.length+1:=by omega
  simp(disch:=omega)[ltT,TF,hgg,hte,hyl,hyt,hxl,hxt,ap0,apk,set0,setk]
  refine SE.vcall (args:=[.agg y.cs]) (cap:=[]) (hby _ hH2) rfl ?_
  simp(disch:=omega)[hn1,hn2,hyl,hyt,hxl,hxt,ap0,apk,set0,setk]
  refine SE.vcall (args:=[.agg x.cs]) (cap:=[]) (hbx _ hH2) rfl ?_
  cases hlb:zcI y x with
  | true =>
   have hlb':Op.bytesLess y.by x.by=true:=hlb
   have hP2:∀ j<i+1,∀ z,t[j]?=some z→zcI z x=true:=fun j hj z hz=>by
    rcases Nat.lt_succ_iff_lt_or_eq.1 hj with h|rfl
    ·exact hP j h z hz
    ·rw[hg] at hz; cases hz; exact hlb
   simp(disch:=omega)[hlb',hlt,zag,zaa,ht,Blk.cl,kx,TF,-Int.natCast_add]
   exact hP2
  | false =>
   have hlb':Op.bytesLess y.by x.by=false:=hlb
   have hpl:=zuV hP hg hlb
   have hha:hasR t x=decide (y.by=x.by):=by rw[hasR,hpl,hg]
   simp(disch:=omega)[hlb',hn1,hn2,hyl,hyt,hxl,hxt,ap0,apk,set0,setk]
   refine SE.vcall (args:=[.agg y.cs]) (cap:=[]) (hby _ hH2) rfl ?_
   simp(disch:=omega)[hn1,hn2,hyl,hyt,hxl,hxt,ap0,apk,set0,setk]
   refine SE.vcall (args:=[.agg x.cs]) (cap:=[]) (hbx _ hH2) rfl ?_
   simp[ht0,hpl,hha]
   exact Bool.eq_iff_iff.2 (by simp)
 ·have hne:i=t.length:=by omega
  subst hne
  have hpl:=ztl (t:=t) (x:=x) fun z hz=>by
   obtain⟨j,hj⟩:=List.getElem?_of_mem hz
   exact hP j (List.getElem?_eq_some_iff.1 hj).1 z hj
  have hha:hasR t x=false:=by rw[hasR,hpl,List.getElem?_eq_none (Nat.le_refl _)]
  simp[TF,ht0,hpl,hha]
theorem zuW[HasTbl G](f g:List In4)(hf:f.length≤1000000):FP G 358 [FL f,FL g] (.bool (decide (f=g))):=by
 refine zak HasTbl.h_table_same (Nat.le_of_ble_eq_true rfl) ?_
 by_cases hl:f.length=g.length
 ·have hz:((f.length:Int) !=(g.length:Int))=false:=by simp[hl]
  simp[FL,hz]
  refine W_up f.length (fun i=>[(0,FL f),(1,FL g),(12,.int .i64 f.length),(13,.int .i64 i)]) (fun _=>[]) (fun i=>f.take i=g.take i) ?_ ?_
  ·simp[zaa,zac,FL,hl]
  intro i hi hp
  by_cases hlt:i<f.length
  ·obtain⟨x,hfx⟩:∃ x,x=f[i]:=⟨_,rfl⟩
   have hlt2:i<g.length:=by omega
   obtain⟨y,hfy⟩:∃ y,y=g[i]:=⟨_,rfl⟩
   have hgg:=zaY hlt
   have hgg2:=zaY hlt2
   rw[←hfx] at hgg
   rw[←hfy] at hgg2
   have hfx:=hfx.symm
   have hfy:=hfy.symm
   have ha:=aeq4 x y
   by_cases hxy:x=y
   ·rw[decide_eq_true hxy] at ha
    have hp':f.take (i+1)=g.take (i+1):=by
     rw[List.take_add_one,List.take_add_one,hp,List.getElem?_eq_getElem hlt,List.getElem?_eq_getElem hlt2,hfx,hfy,hxy]
    simp(disch:=omega)[ltT,FL,hgg,hgg2,hfx,hfy,ha,hlt,zag,zaa,zac,hp',-Int.natCast_add]
   ·rw[decide_eq_false hxy] at ha
    have hne:¬f=g:=by
     rintro rfl
     exact hxy (hfx.symm.trans hfy)
    simp(disch:=omega)[ltT,FL,hgg,hgg2,hfx,hfy,ha,hne,-Int.natCast_add]
  ·have hne:i=f.length:=by omega
   subst hne
   rw[List.take_length,hl,List.take_length] at hp
   simp[FL,hp]
 ·have hz:((f.length:Int) !=(g.length:Int))=true:=by simp; omega
  have:¬f=g:=fun h=>hl (by rw[h])
  simp[FL,hz,this]
end Go.Ev
/- Tables: what is found, what is learnt. The code. -/
namespace Go.Ev
open Go Go.RowKit
variable {G:Tbl}
theorem zmn(t:List TR):(∀ f∈TL t,f.length=3)=True:=by
 simp only[eq_iff_iff,iff_true]
 intro f hf
 simp only[TL,List.mem_map] at hf
 obtain⟨x,_,rfl⟩:=hf
 rfl
theorem zkS(r:TR):r.cs.all V.pure=true:=by
 simp[TR.cs]
theorem zkT(t:List TR)(r:TR):TL t++[r.cs]=TL (t++[r]):=by simp[TL]
theorem zBk{a:Nat}(h:a<4294967296):andI .u32 (a:Int) 262143=((a%262144:Nat):Int):=by
 unfold andI
 rw[show(262143:Int)=((262143:Nat):Int) from rfl,za0,za0,BitVec.toNat_and,BitVec.toNat_ofNat,BitVec.toNat_ofNat]
 have h1:a%2^IntKind.u32.bits=a:=Nat.mod_eq_of_lt h
 have h2:262143%2^IntKind.u32.bits=2^18-1:=rfl
 rw[h1,h2,Nat.and_two_pow_sub_one_eq_mod]
 exact zaT (by have:=Nat.mod_lt a (show 0<2^18 by decide); omega)
def fndV:Option (List In4)→V
 | some x=>.tup [.vs (IL x) .no,.bool true]
 | none=>.tup [.vs [] .no,.bool false]
theorem zd3{r:TR}(h:r.may=true):r.fr.length≤32∧r.to.length≤32:=by
 simp only[TR.may,Bool.and_eq_true] at h
 exact⟨(zcz h.1.1.1).1,(zcz h.1.1.2).1⟩
theorem zpx[HasIns G][HasCheck G][HasWRight G][HasEnc G][HasTbl G](t:List TR)(w:List In4)(live:Nat)(hl:t.length≤1000000)(hk:∀ r∈t,r.ok)(hv:live<4294967296) :
  FP G 359 [TF t,FL w,.int .u32 live] (fndV (zek t w live)):=by
 refine zak HasTbl.h_table_Find (Nat.le_of_ble_eq_true rfl) ?_
 have hr:=zkg (G:=G) t hl hk
 simp only[TF] at hr
 simp[TF]
 refine zab hr ?_
 cases htb:tblB t with
 | false=>simp[zek,htb,fndV]
 | true =>
  have hmay:∀ r∈t,r.may=true:=fun r hr=>by
   simp only[tblB,Bool.and_eq_true] at htb
   exact List.all_eq_true.1 htb.1.1 r hr
  simp
  refine W_up t.length (fun i=>[(1,FL w),(2,.int .u32 live),(13,TF t),(14,.int .i64 t.length),(15,.int .i64 i)]) (fun _=>[]) (fun i=>∀ j<i,∀ r,t[j]?=some r→(decide (r.fr=w)&&decide (live%262144=r.lv))=false) ?_ ?_
  ·simp[zaa,zac,TF,FL]
  intro i hi hP
  by_cases hlt:i<t.length
  ·obtain⟨x,hfx⟩:∃ x,x=t[i]:=⟨_,rfl⟩
   have hg:t[i]?=some x:=by rw[hfx]; exact List.getElem?_eq_getElem hlt
   have hgg:=zdT hg
   have hxm:=hmay x (List.mem_of_getElem? hg)
   obtain⟨l1,l2⟩:=zd3 hxm
   have hte:(TL t)[i]'(by simpa using hlt)=x.cs:=by simp[TL,hfx]
   have hsm:=zuW (G:=G) x.fr w (by omega)
   simp only[FL] at hsm
   simp(disch:=omega)[ltT,TF,FL,hgg,hte,TR.cs]
   refine zab hsm ?_
   have ha:=zBk hv
   have next:(decide (x.fr=w)&&decide (live%262144=x.lv))=false→∀ j<i+1,∀ r,t[j]?=some r→(decide (r.fr=w)&&decide (live%262144=r.lv))=false:=fun hx j hj r hr=>by
    rcases Nat.lt_succ_iff_lt_or_eq.1 hj with h|rfl
    ·exact hP j h r hr
    ·rw[hg] at hr; cases hr; exact hx
   by_cases e1:x.fr=w
   ·by_cases e2:live%262144=x.lv
    ·have e2':(((live%262144:Nat):Int)==(x.lv:Int))=true:=by simp; omega
     have hfd:zek t w live=some x.to:=by
      rw[zek,htb,if_pos rfl]
      have:t.find? (fun r=>decide (r.fr=w)&&decide (live%262144=r.lv))=some x:=by
       rw[List.find?_eq_some_iff_getElem]
       refine⟨by simp[e1,e2],i,hlt,hfx.symm,fun j hj=>?_⟩
       rw[hP j hj _ (List.getElem?_eq_getElem (by omega))]; rfl
      rw[this]; rfl
     by_cases e3:x.to=[]
     ·simp(disch:=omega)[e1,ha,e2',e3,hfd,fndV,-Int.natCast_emod]
     ·simp(disch:=omega)[e1,ha,e2',e3,zqB,leTn,hfd,fndV,-Int.natCast_emod]
    ·have e2':(((live%262144:Nat):Int)==(x.lv:Int))=false:=beqF (by omega)
     have:=next (by simp[e2])
     simp(disch:=omega)[e1,ha,e2',hlt,zag,zaa,zac,TF,FL,-Int.natCast_add,-Int.natCast_emod]
     exact fun j hj r hr he=>by have:=this j hj r hr; simpa[he] using this
   ·have:=next (by simp[e1])
    simp(disch:=omega)[e1,hlt,zag,zaa,zac,TF,FL,-Int.natCast_add,-Int.natCast_emod]
    exact fun j hj r hr he=>by have:=this j hj r hr; simpa[he] using this
  ·have hne:i=t.length:=by omega
   subst hne
   have hfd:zek t w live=none:=by
    rw[zek,htb,if_pos rfl,Option.map_eq_none_iff,List.find?_eq_none]
    intro r hr
    obtain⟨j,hj⟩:=List.getElem?_of_mem hr
    rw[hP j (List.getElem?_eq_some_iff.1 hj).1 r hj]
    simp
   simp[hfd,fndV]
theorem zhV[HasIns G][HasCheck G][HasWRight G][HasEnc G][HasTbl G](t:List TR)(r:TR)(hl:t.length≤1000000)(hk:∀ r∈t,r.ok)(hrk:r.ok) :
  FP G 357 [TF t,TV r] (.tup [TF (zaD t r).1,.int .i64 (zaD t r).2]):=by
 refine zak HasTbl.h_table_Learn (Nat.le_of_ble_eq_true rfl) ?_
 have hr:=zkg (G:=G) t hl hk
 have hrr:=znK (G:=G) r hrk
 have hxl:r.cs.length=3:=rfl
 have hxt:r.cs.take 3=r.cs:=rfl
 have kx:∀ n,clL n r.cs=r.cs:=fun n=>by simp[TR.cs,clL,V.cl,Tk.cl]
 simp only[TF,TV] at hr hrr
 simp[TF,TV]
 refine zab hr ?_
 cases htb:tblB t with
 | false=>simp[zaD,htb]
 | true =>
  simp[hxl,hxt]
  refine zab hrr ?_
  cases hrm:r.may with
  | false=>simp[zaD,htb,hrm]
  | true =>
   have hmay:∀ r∈t,r.may=true:=fun r hr=>by
    simp only[tblB,Bool.and_eq_true] at htb
    exact List.all_eq_true.1 htb.1.1 r hr
   have h64:=(zmS htb).2
   have hpl:=ztm (G:=G) t r hl hk hmay hrk hrm [some (.cells r.cs)] (fun n _=>by simp[Blk.cl,kx])
   simp only[TF,TV] at hpl
   simp[hxl,hxt]
   refine SE.scall hpl rfl ?_
   cases hhr:hasR t r with
   | true=>simp[zaD,htb,hrm,hhr]
   | false =>
    by_cases h6:t.length=64
    ·have h6':((t.length:Int)==64)=true:=by simp[h6]
     simp[zaD,htb,hrm,hhr,h6,h6']
    ·have h6':((t.length:Int)==64)=false:=beqF (by omega)
     have hple:=zpr t r
     obtain⟨p,hp⟩:∃ p,p=za4 t r:=⟨_,rfl⟩
     have hR:zaD t r=(t.take p++r::t.drop p,0):=by simp[zaD,htb,hrm,hhr,h6,hp]
     rw[←hp] at hple
     rw[hR,←hp]
     have htk:(TL t).take p=TL (t.take p):=by simp[TL]
     have hdp:(TL t).drop p=TL (t.drop p):=by simp[TL]
     have hlt1:(t.take p).length=p:=by rw[List.length_take]; omega
     have hrl:=zd3 hrm
     have howr:=zmT (G:=G) r (by omega) (by omega)
     have hpure:=zkS r
     simp only[TV] at howr
     obtain⟨T,hT⟩:∃ T:Nat→List TR,∀ j,T j=t.take j:=⟨_,fun _=>rfl⟩
     have hT0:T 0=[]:=by rw[hT]; rfl
     have hTl:∀ j,j≤t.length→(T j).length=j:=fun j hj=>by rw[hT,List.length_take]; omega
     simp(disch:=omega)[h6',leTn,htk,hlt1,zmn]
     refine W_up p (fun i=>[(0,TF t),(3,.ptr 0 0),(6,.int .i64 p),(8,.vs (TL (T i)) (.own 1)),(38,.vs (TL (t.take p)) .no),(39,.int .i64 p),(40,.int .i64 i)])
      (fun i=>[some (.cells r.cs),some (.zone i)]) (fun _=>True) ?_ ?_
     ·simp[zaa,zac,TF,hT0,TL,Blk.cl,kx]
     intro i hi _
     by_cases hlt:i<p
     ·obtain⟨y,hfy⟩:∃ y,y=t[i]'(by omega):=⟨_,rfl⟩
      have hg:t[i]?=some y:=by rw[hfy]; exact List.getElem?_eq_getElem _
      have hgt:(t.take p)[i]?=some y:=by rw[List.getElem?_take,if_pos hlt,hg]
      have hgg:=zdT hgt
      have hte:(TL (t.take p))[i]'(by simp; omega)=y.cs:=by
       have:=List.getElem?_eq_some_iff.1 hgg
       exact this.2
      have hym:=zd3 (hmay y (List.mem_of_getElem? hg))
      have hoy:=zmT (G:=G) y (by omega) (by omega)
      simp only[TV] at hoy
      have hyl:y.cs.length=3:=rfl
      have hyt:y.cs.take 3=y.cs:=rfl
      have hyp:=zkS y
      have hTs:TL (T i)++[y.cs]=TL (T (i+1)):=by rw[hT,hT,zkT,List.take_add_one,hg]; rfl
      have hl1:=hTl i (by omega)
      simp(disch:=omega)[ltT,hgg,hte,hyl,hyt]
      refine zab hoy ?_
      simp(disch:=omega)[hyl,hyt,hyp,hTs,hl1,zmn,leTn,hlt,zag,zaa,zac,TF,Blk.cl,kx,-Int.natCast_add]
     ·have hne:i=p:=by omega
      subst hne
      obtain⟨D,hD⟩:∃ D,D=t.drop i:=⟨_,rfl⟩
      have hDl:D.length=t.length-i:=by rw[hD,List.length_drop]
      have hTs:TL (T i)++[r.cs]=TL (T i++[r]):=zkT _ _
      have hl1:=hTl i (by omega)
      obtain⟨U,hU⟩:∃ U:Nat→List TR,∀ j,U j=T i++[r]++D.take j:=⟨_,fun _=>rfl⟩
      have hU0:T i++[r]=U 0:=by rw[hU,List.take_zero,List.append_nil]
      have hUl:∀ j,j≤D.length→(U j).length=i+1+j:=fun j hj=>by rw[hU,List.length_append,List.length_append,hl1,List.length_take]; simp; omega
      rw[hU0] at hTs
      simp[ltT,hxl,hxt]
      refine zab howr ?_
      rw[←hD] at hdp ⊢
      have htk2:(TL D).take (t.length-i)=TL D:=by rw[List.take_of_length_le]; simp; omega
      simp(disch:=omega)[TF,htk2,hxl,hxt,hpure,hTs,hl1,zmn,leTn,hdp,hDl]
      refine W_up D.length (fun j=>[(8,.vs (TL (U j)) (.own 1)),(57,.vs (TL D) .no),(58,.int .i64 D.length),(59,.int .i64 j)])
       (fun j=>[some (.cells r.cs),some (.zone (i+1+j)),none]) (fun _=>True) ?_ ?_
      ·simp[zaa,zac,hU0,Blk.cl,kx,hDl]
      intro j hj _
      by_cases hlt:j<D.length
      ·obtain⟨y,hfy⟩:∃ y,y=D[j]'(by omega):=⟨_,rfl⟩
       have hg:D[j]?=some y:=by rw[hfy]; exact List.getElem?_eq_getElem _
       have hgg:=zdT hg
       have hte:(TL D)[j]'(by simp; omega)=y.cs:=(List.getElem?_eq_some_iff.1 hgg).2
       have hymem:y∈t:=by
        have:=List.mem_of_getElem? hg
        rw[hD] at this
        exact List.mem_of_mem_drop this
       have hym:=zd3 (hmay y hymem)
       have hoy:=zmT (G:=G) y (by omega) (by omega)
       simp only[TV] at hoy
       have hyl:y.cs.length=3:=rfl
       have hyt:y.cs.take 3=y.cs:=rfl
       have hyp:=zkS y
       have hTs:TL (U j)++[y.cs]=TL (U (j+1)):=by rw[hU,hU,zkT,List.take_add_one,hg]; simp
       have hl2:=hUl j (by omega)
       simp(disch:=omega)[ltT,hgg,hte,hyl,hyt]
       refine zab hoy ?_
       simp(disch:=omega)[hyl,hyt,hyp,hTs,hl2,zmn,leTn,hlt,zag,zaa,zac,Blk.cl,kx,-Int.natCast_add]
       omega
      ·have hne:j=D.length:=by omega
       subst hne
       have hfin:U D.length=t.take i++r::D:=by rw[hU,List.take_length,hT]; simp
       simp[hfin]
end Go.Ev
/- Filters made shorter: the smaller functions. -/
namespace Go.Ev
open Go Go.RowKit
variable {G:Tbl}
def zaX(b lo hi:Int):Int:=max lo (min b hi)
theorem zmU[HasOpt G](b lo hi:Int):FP G 360 [.int .i64 b,.int .i64 lo,.int .i64 hi] (.int .i64 (zaX b lo hi)):=by
 refine zak HasOpt.h_opt_clip_int (Nat.le_of_ble_eq_true rfl) ?_
 simp[zaX]
 omega
theorem zuX[HasOpt G](a b c:Int):FP G 361 [.agg [.int .i64 a,.int .i64 b,.int .i64 c]] (.agg [.int .i64 (zaX a 0 1000),.int .i64 (zaX b 0 1000),.int .i64 (zaX c 0 32)]):=by
 refine zak HasOpt.h_opt_fair (Nat.le_of_ble_eq_true rfl) ?_
 simp
 refine zab (zmU _ _ _) ?_
 simp
 refine zab (zmU _ _ _) ?_
 simp
 refine zab (zmU _ _ _) ?_
 simp
def goodT(t:List TR):List TR:=if tblB t=true then t else []
theorem zwE[HasIns G][HasCheck G][HasWRight G][HasEnc G][HasTbl G][HasOpt G](t:List TR)(hl:t.length≤1000000)(hk:∀ r∈t,r.ok):FP G 362 [TF t] (TF (goodT t)):=by
 refine zak HasOpt.h_opt_good (Nat.le_of_ble_eq_true rfl) ?_
 have hr:=zkg (G:=G) t hl hk
 simp only[TF] at hr
 simp[TF]
 refine zab hr ?_
 cases htb:tblB t with
 | false=>simp[goodT,htb,TL]
 | true=>simp[goodT,htb]
theorem zrF[HasWd G][HasNeg G][HasIns G][HasCheck G][HasData G][HasWith G][HasStep G][HasWRight G][HasWinRun G][HasWinAsg G][HasWinState G][HasWinOf G][HasAffApart G][HasAffine G][hBA:HasBitsA G][HasSymNew G][HasSym G][HasSymEval G][HasSymApart G][HasDecDf G][HasDec G][HasSrcN G][HasSrcL G][HasSrcC G][HasSrcF G][HasEnc G][HasTbl G][HasOpt G]
  (w:List In4) (t:List TR) (live:Nat) (tries:Int) (hw:winB w=true) (hk:∀ x∈w,x.k<4294967296) (hl:t.length≤1000000) (htk:∀ r∈t,r.ok) (hlv:live<4294967296) :
  FP G 363 [FL w,TF t,.int .u32 live,.int .i64 tries] (fndV (zbl w t live tries)):=by
 refine zak HasOpt.h_opt_shorter (Nat.le_of_ble_eq_true rfl) ?_
 have hf:=zpx (G:=G) t w live hl htk hlv
 have hw32:=(zcz hw).1
 have hwm:w.length≤maxLen:=Nat.le_trans hw32 (by decide)
 have hs:=zqJ (G:=G) w live tries hwm hk hw hlv
 simp only[FL,TF] at hf hs
 simp[FL,TF]
 refine zab hf ?_
 cases hfd:zek t w live with
 | none =>
  have hR:zbl w t live tries=findR w live tries:=by rw[zbl,hfd]
  rw[hR]
  simp[fndV]
  refine zab hs ?_
  cases findR w live tries<;>simp[fndV]
 | some x =>
  obtain⟨r,hr,h1,h2,h3⟩:=zps hfd
  have hxk:=(htk r hr).2.2.2.1
  have hx32:=(zd3 h3).2
  rw[h2] at hxk hx32
  have hdc:=zjz (G:=G) w x live hwm (Nat.le_trans hx32 (by decide)) hk hxk hlv
  have hxw:winB x=true:=by
   simp only[TR.may,Bool.and_eq_true] at h3
   rw[←h2]; exact h3.1.1.2
  simp only[FL,hw,hxw,Bool.and_self,if_true] at hdc
  simp[fndV]
  refine zab hdc ?_
  obtain⟨A,hA⟩:∃ A,A=ansC 0 none:=⟨_,rfl⟩
  have lA:A.length=28:=by rw[hA]; rfl
  obtain⟨cc,B,hcc,hB,kB,lB,B1⟩:∃(cc:Int) (B:List V),(decR w x live).1=cc∧B=ansC (decR w x live).1 (decR w x live).2∧(∀ n,clL n B=B)∧B.length=28∧B.take 1=[.int .i64 (decR w x live).1] :=
   ⟨_,_,rfl,rfl,fun n=>zin _ _ n,zlg w x live,zmt _ _⟩
  have hAz:V.int .i64 0::(zad .u32 (zae 20)++zad .u64 (zae 7))=A:=by rw[hA]; rfl
  have hBt:B.take 28=B:=List.take_of_length_le (by omega)
  have hBd:B.drop 28=[]:=List.drop_eq_nil_of_le (by omega)
  have hAd:A.drop 28=[]:=List.drop_eq_nil_of_le (by omega)
  rw[←hB]
  rw[hcc] at B1
  simp[hAz,hAd,hBt,hBd,lA,lB,B1,kB]
  by_cases h0:cc=0
  ·have hR:zbl w t live tries=some x:=by rw[zbl,hfd]; simp only[]; rw[if_pos ⟨hxw,by rw[hcc,h0]⟩]
   simp[h0,hR,fndV]
  ·have hR:zbl w t live tries=findR w live tries:=by rw[zbl,hfd]; simp only[]; rw[if_neg (by rintro⟨_,h⟩; rw[hcc] at h; exact h0 h)]
   have h0':(cc==0)=false:=beqF h0
   rw[hR]
   simp[h0']
   refine zab hs ?_
   cases findR w live tries<;>simp[fndV]
end Go.Ev
