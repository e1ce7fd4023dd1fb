/- Rules: the code. -/
import Derived.Test.YtogjnjnabikdpaaGreatDoorPruMW
import Derived.Test.YtogjnjnabikdpaaGreatDoorCheckBW
import Derived.Test.YtogjnjnabikdpaaGreatDoorLiveCW
import Derived.Test.YtogjnjnabikdpaaGreatDoorDecCW
import Derived.Test.YtogjnjnabikdpaaGreatDoorEvInsCW
import Derived.Test.YtogjnjnabikdpaaGreatDoorEvWinCW
set_option linter.unusedSimpArgs false
set_option linter.unusedVariables false
set_option maxHeartbeats 8000000
set_option maxRecDepth 10000
namespace Go.Ev
open Go Go.RowKit
variable {G:Tbl}
def TR.cs(r:TR):List V:=[.vs (IL r.fr) .no,.vs (IL r.to) .no,.int .u32 r.lv]
def TV(r:TR):V:=.agg r.cs
def TL(t:List TR):List (List V):=t.map TR.cs
def TF(t:List TR):V:=.vs (TL t) .no
@[simp] theorem zBe (t:List TR):(TL t).length=t.length:=by simp[TL]
theorem zcZ{t:List TR}{i:Nat}{r:TR}(h:t[i]?=some r):(TL t)[i]?=some r.cs:=by simp[TL,h]
def TR.ok(r:TR):Prop:=r.fr.length≤maxLen∧r.to.length≤maxLen∧(∀ x∈r.fr,x.k<4294967296)∧(∀ x∈r.to,x.k<4294967296)∧r.lv<4294967296
theorem zj0:∀ l:List Nat,(∀ b∈l,b<256)→zeq (nats .u8 l)=some (l.map UInt8.ofNat)
 | [],_=>rfl
 | b::l,h=>by
  have ih:=zj0 l fun c hc=>h c (by simp[hc])
  simp only[nats] at ih
  simp[nats,zeq,ih]
theorem zcN{w:List In4}(h:winB w=true):w.length≤32∧∀ x∈w,zaV x=true:=by
 simp only[winB,Bool.and_eq_true,decide_eq_true_eq,List.all_eq_true,zaC] at h
 exact⟨h.1,fun x hx=>(h.2 x hx).1.2⟩
theorem zqS{x:In4}:∀ b∈encN x,b<256:=by
 intro b hb
 simp only[encN,lowL,List.mem_append,List.mem_cons,List.not_mem_nil,or_false,List.mem_map,List.mem_range] at hb
 rcases hb with(rfl|rfl|rfl|rfl)|⟨j,_,rfl⟩<;>exact Nat.mod_lt _ (by decide)
def TR.byN(r:TR):List Nat:=lowL r.lv 4++[r.fr.length%256,r.to.length%256]++zaW r.fr++zaW r.to
theorem zpq(r:TR):r.by=r.byN.map UInt8.ofNat:=by
 have h4:zl2 r.lv=(lowL r.lv 4).map UInt8.ofNat:=by simp[zl2,lowL,List.range,List.range.loop]
 rw[TR.by,TR.byN,h4,zph,zph]
 simp[Function.comp_def]
theorem zpr(r:TR):∀ b∈r.byN,b<256:=by
 intro b hb
 simp only[TR.byN,List.mem_append,List.mem_cons,List.not_mem_nil,or_false,zaW,List.mem_flatMap] at hb
 rcases hb with((hb|rfl|rfl)|⟨x,_,hb⟩)|⟨x,_,hb⟩
 ·simp only[lowL,List.mem_map,List.mem_range] at hb
  obtain⟨j,_,rfl⟩:=hb
  exact Nat.mod_lt _ (by decide)
 ·exact Nat.mod_lt _ (by decide)
 ·exact Nat.mod_lt _ (by decide)
 ·exact zqS b hb
 ·exact zqS b hb
theorem znF[HasIns G][HasCheck G][HasWRight G][HasTbl G](r:TR)(hr:r.ok):FP G 352 [TV r] (.bool r.may):=by
 refine zak HasTbl.h_table_Rule_right (Nat.le_of_ble_eq_true rfl) ?_
 obtain⟨h1,h2,h3,h4,h5⟩:=hr
 have w1:=zbW (G:=G) r.fr h1 h3
 have w2:=zbW (G:=G) r.to h2 h4
 simp only[FL] at w1 w2
 simp[TV,TR.cs]
 refine zab w1 ?_
 cases e1:winB r.fr with
 | false=>simp[TR.may,e1]
 | true =>
  simp
  refine zab w2 ?_
  cases e2:winB r.to with
  | false=>simp[TR.may,e1,e2]
  | true =>
   by_cases hl:r.to.length<r.fr.length
   ·by_cases hv:r.lv<262144
    ·have hv':((r.lv:Int)<262144)=True:=eq_true (by omega)
     simp[TR.may,e1,e2,hl,hv,hv']
    ·have hv':((r.lv:Int)<262144)=False:=eq_false (by omega)
     simp[TR.may,e1,e2,hl,hv,hv']
   ·simp[TR.may,e1,e2,hl]
def SE(G:Tbl)(f:Nat)(args:List V)(H:Heap)(r:V):Prop:=∃ H1,Big G (.F f args H r H1)∧zad H.length H1=H
theorem zvm{f nt:Nat}{body:SCode}{res:List ResV}{args:List V}{r:V}{H:Heap}(hg:G f=some ⟨nt,body,res⟩)(hl:args.length≤nt)
  (h:W G body [] (mkE (idxE 0 args)) H (QX res fun r1 H1=>r1=r∧zad H.length H1=H)):SE G f args H r:=by
 obtain⟨x,e1,H1,hb,hx,vs,hvs,hr,ht⟩:=h
 rw[←ziy] at hb
 rw[←hr]
 exact⟨_,.fn hg hl hb hx hvs,ht⟩
theorem SE.vcall{f:Nat}{cap args:List V}{r:V}{H:Heap}{base:Nat}{d:Option Nat}{os:List SOper}{K:List Kt}{e:Env}{Q:Ex→Env→Heap→Prop}{ro:Bool}(h:SE G f (args++cap) H r)(hr':r.cl H.length=r)
  (hr:WO G base os K (e.put d r) H Q):zkc G ro (.fn f cap) args base d os K e H Q:=by
 obtain⟨H1,hb,ht⟩:=h
 refine zaG hb (fun _=>ht) ?_
 rw[hr',ht]
 exact hr
theorem SE.scall{f:Nat}{args:List V}{r:V}{H:Heap}{base:Nat}{d:Option Nat}{os:List SOper}{K:List Kt}{e:Env}{Q:Ex→Env→Heap→Prop}(h:SE G f args H r)(hr':r.cl H.length=r)
  (hr:WO G base os K (e.put d r) H Q):znT G f args base d os K e H Q:=by
 obtain⟨H1,hb,ht⟩:=h
 refine zfA hb ?_
 rw[hr',ht]
 exact hr
theorem zhy[HasIns G][HasEnc G][HasTbl G](r:TR)(hr:r.ok)(hm:r.may=true)(H:Heap)(hH:zba H):SE G 353 [TV r] H (.str r.by):=by
 refine zvm HasTbl.h_table_Rule_bytes (Nat.le_of_ble_eq_true rfl) ?_
 have ht:=zgy hH
 have ht0:∀ s:Heap,zad H.length (H++s)=H:=fun s=>hH.back s
 obtain⟨h1,h2,h3,h4,h5⟩:=hr
 simp only[TR.may,Bool.and_eq_true,decide_eq_true_eq] at hm
 obtain⟨⟨⟨m1,m2⟩,_⟩,_⟩:=hm
 obtain⟨a1,a2⟩:=zcN m1
 obtain⟨b1,b2⟩:=zcN m2
 have w1:=znu (G:=G) r.fr (by omega) h3 a2
 have w2:=znu (G:=G) r.to (by omega) h4 b2
 simp only[FL] at w1 w2
 obtain⟨v,hv⟩:∃ v,r.lv=v:=⟨_,rfl⟩
 have s1:shrI .u32 (v:Int) 8=((v/256:Nat):Int):=ziB (j:=8) (by decide)
 have s2:shrI .u32 (v:Int) 16=((v/65536:Nat):Int):=ziB (j:=16) (by decide)
 have s3:shrI .u32 (v:Int) 24=((v/16777216:Nat):Int):=ziB (j:=24) (by decide)
 obtain⟨B,hB⟩:∃ B:List Nat,B=lowL v 4++[r.fr.length%256,r.to.length%256]:=⟨_,rfl⟩
 have hBl:B.length=6:=by rw[hB]; simp[lowL]
 have hBe:[[V.int .u8 (v%256:Nat)],[V.int .u8 (v/256%256:Nat)],[V.int .u8 (v/65536%256:Nat)],[V.int .u8 (v/16777216%256:Nat)],[V.int .u8 (r.fr.length%256:Nat)],[V.int .u8 (r.to.length%256:Nat)]]=nats .u8 B:=by
  rw[hB]; simp[nats,lowL,List.range,List.range.loop]
 simp(disch:=omega)[ap0,apk,set0,setk,TV,TR.cs,hv,s1,s2,s3,zia,hBe,-Int.natCast_ediv,-Int.natCast_emod]
 obtain⟨D,hD⟩:∃ D:Nat→List Nat,∀ j,D j=if j=0 then B else if j=1 then B++zaW r.fr else B++zaW r.fr++zaW r.to:=⟨_,fun _=>rfl⟩
 have hD0:D 0=B:=by rw[hD]; rfl
 have hD1:D 1=B++zaW r.fr:=by rw[hD]; rfl
 have hD2:D 2=r.byN:=by rw[hD,TR.byN,hv,hB]; rfl
 have l1:(D 1).length=6+8*r.fr.length:=by rw[hD1,List.length_append,hBl,zbC]
 have l2:(D 2).length=6+8*r.fr.length+8*r.to.length:=by rw[hD2,TR.byN,List.length_append,hv,←hB,←hD1,l1,zbC]
 have p1:nats .u8 B++nats .u8 (zaW r.fr)=nats .u8 (D 1):=by rw[hD1]; simp[nats]
 have p2:nats .u8 (D 1)++nats .u8 (zaW r.to)=nats .u8 (D 2):=by rw[hD1,hD]; simp[nats]
 have q1:(zaW r.fr).length=8*r.fr.length:=zbC _
 have q2:(zaW r.to).length=8*r.to.length:=zbC _
 have n1:∀ l:List Nat,(nats .u8 l=[])=(l=[]):=fun l=>by simp[nats]
 have n2:∀ w:List In4,(zaW w=[])=(w=[]):=fun w=>propext ⟨fun h=>List.eq_nil_of_length_eq_zero (by have:=zbC w; rw[h] at this; simp at this; omega),fun h=>by rw[h]; rfl⟩
 have hbb:=zj0 r.byN (zpr r)
 rw[←zpq,←hD2] at hbb
 refine W_up 2 (fun j=>[(3,.vs (nats .u8 (D j)) (.own (H.length+1))),(36,.agg [.vs (IL r.fr) .no,.vs (IL r.to) .no]),(37,.int .i64 j)])
  (fun j=>H++[some (.cells [.vs (IL r.fr) .no,.vs (IL r.to) .no,.int .u32 v]),some (.zone (D j).length)]) (fun _=>True) ?_ ?_
 ·simp[zaa,ht,ht0,ap0,apk,set0,setk,hD0]
 have d0:addI .i64 0 1=1:=by rw[zaE]<;>omega
 have d1:addI .i64 1 1=2:=by rw[zaE]<;>omega
 intro j hj _
 rcases(show j=0∨j=1∨j=2 by omega) with rfl|rfl|rfl
 ·simp[ap0,apk,set0,setk]
  refine zab w1 ?_
  by_cases hf0:r.fr=[]
  ·have e1:D 1=B:=by rw[hD1,hf0]; simp[zaW]
   simp(disch:=omega)[hD0,n1,n2,hf0,e1,zaa,ht,ht0,ap0,apk,set0,setk,d0,d1]
  ·simp(disch:=omega)[hD0,n1,n2,hf0,hBl,q1,l1,p1,leTn,zaa,ht,ht0,ap0,apk,set0,setk,d0,d1]
 ·simp[ap0,apk,set0,setk]
  refine zab w2 ?_
  by_cases hf0:r.to=[]
  ·have e1:D 2=D 1:=by rw[hD2,TR.byN,hv,←hB,←hD1,hf0]; simp[zaW]
   simp(disch:=omega)[n1,n2,hf0,e1,zaa,ht,ht0,ap0,apk,set0,setk,d0,d1]
  ·simp(disch:=omega)[n1,n2,hf0,q2,l1,l2,p2,leTn,zaa,ht,ht0,ap0,apk,set0,setk,d0,d1]
 ·simp[hbb,ap0,apk,ht0]
end Go.Ev
/- Tables: are they right? The code. -/
namespace Go.Ev
open Go Go.RowKit
variable {G:Tbl}
theorem SE.fp{f:Nat}{args:List V}{s:List UInt8}(h:SE G f args [] (.str s)):FP G f args (.str s):=by
 obtain⟨H1,hb,_⟩:=h
 exact⟨_,_,hb,by simp⟩
theorem znG:zba []:=fun _ _=>rfl
theorem zmM:∀{t:List TR},zb8 t=true↔∀(j:Nat) (a b:TR),t[j]?=some a→t[j+1]?=some b→zcy a b=true
 | []=>by simp[zb8]
 | [a]=>by simp[zb8]
 | a::b::l=>by
  rw[zb8,Bool.and_eq_true,zmM (t:=b::l)]
  constructor
  ·rintro⟨h1,h2⟩ j x y hx hy
   cases j with
   | zero=>simp at hx hy; rw[←hx,←hy]; exact h1
   | succ j=>exact h2 j x y (by simpa using hx) (by simpa using hy)
  ·intro h
   exact⟨h 0 a b rfl rfl,fun j x y hx hy=>h (j+1) x y (by simpa using hx) (by simpa using hy)⟩
def okT(t:List TR)(i:Nat):Prop:=∀ j<i,∀ r,t[j]?=some r→r.may=true∧∀ q,0<j→t[j-1]?=some q→zcy q r=true
theorem zqT{t:List TR}(h:okT t t.length):tblB t=decide (t.length≤64):=by
 have h1:t.all TR.may=true:=by
  rw[List.all_eq_true]
  intro r hr
  obtain⟨j,hj⟩:=List.getElem?_of_mem hr
  exact(h j (List.getElem?_eq_some_iff.1 hj).1 r hj).1
 have h2:zb8 t=true:=zmM.2 fun j a b ha hb=>(h (j+1) (List.getElem?_eq_some_iff.1 hb).1 b hb).2 a (by omega) (by simpa using ha)
 simp[tblB,h1,h2]
theorem zgM{t:List TR}(h:tblB t=true):okT t t.length∧t.length≤64:=by
 simp only[tblB,Bool.and_eq_true,decide_eq_true_eq] at h
 obtain⟨⟨h1,h2⟩,h3⟩:=h
 refine⟨fun j hj r hr=>⟨List.all_eq_true.1 h1 r (List.mem_of_getElem? hr),fun q h0 hq=>?_⟩,h3⟩
 exact zmM.1 h2 (j-1) q r hq (by rw[show j-1+1=j by omega]; exact hr)
theorem zky{t:List TR}{i:Nat}{r:TR}(hr:t[i]?=some r)(h:r.may=false∨∃ q,0<i∧t[i-1]?=some q∧zcy q r=false):tblB t=false:=by
 cases ht:tblB t with
 | false=>rfl
 | true =>
  obtain⟨h1,h2⟩:=(zgM ht).1 i (List.getElem?_eq_some_iff.1 hr).1 r hr
  rcases h with h|⟨q,h0,hq,hl⟩
  ·rw[h] at h1; cases h1
  ·have:=h2 q h0 hq
   rw[this] at hl; cases hl
theorem zhz[HasIns G][HasCheck G][HasWRight G][HasEnc G][HasTbl G](t:List TR)(hl:t.length≤1000000)(hk:∀ r∈t,r.ok):FP G 354 [TF t] (.bool (tblB t)):=by
 refine zak HasTbl.h_table_Right (Nat.le_of_ble_eq_true rfl) ?_
 simp[TF]
 refine W_up t.length (fun i=>[(0,TF t),(5,TF t),(6,.int .i64 t.length),(7,.int .i64 i)]) (fun _=>[]) (fun i=>okT t i) ?_ ?_
 ·simp[zaa,zad,TF]
  intro j hj; omega
 intro i hi hP
 by_cases hlt:i<t.length
 ·obtain⟨x,hfx⟩:∃ x,x=t[i]:=⟨_,rfl⟩
  have hg:t[i]?=some x:=by rw[hfx]; exact List.getElem?_eq_getElem hlt
  have hgg:=zcZ hg
  have hxm:x∈t:=List.mem_of_getElem? hg
  have hxk:=hk x hxm
  have hxl:x.cs.length=3:=rfl
  have hxt:x.cs.take 3=x.cs:=rfl
  have kx:∀ n,clL n x.cs=x.cs:=fun n=>by simp[TR.cs,clL,V.cl,Tk.cl]
  have hte:(TL t)[i]'(by simpa using hlt)=x.cs:=by simp[TL,hfx]
  have hrt:=znF (G:=G) x hxk
  simp(disch:=omega)[ltT,TF,hgg,hte,hxl,hxt,kx]
  simp only[TV] at hrt
  refine zab hrt ?_
  cases hm:x.may with
  | false =>
   have hR:=zky hg (.inl hm)
   simp[hR]
  | true =>
   by_cases h0:0<i
   ·obtain⟨q,hq⟩:∃ q,q=t[i-1]'(by omega):=⟨_,rfl⟩
    have hgq:t[i-1]?=some q:=by rw[hq]; exact List.getElem?_eq_getElem (by omega)
    have hqe:(TL t)[i-1]'(by simp; omega)=q.cs:=by simp[TL,hq]
    have hqg:=zcZ hgq
    have hqm:=(hP (i-1) (by omega) q hgq).1
    have hqk:=hk q (List.mem_of_getElem? hgq)
    have hql:q.cs.length=3:=rfl
    have hqt:q.cs.take 3=q.cs:=rfl
    have b1:=(zhy (G:=G) q hqk hqm [] znG).fp
    have b2:=(zhy (G:=G) x hxk hm [] znG).fp
    simp only[TV] at b1 b2
    have s1:subI .i64 (i:Int) 1=((i-1:Nat):Int):=by rw[zct]<;>omega
    simp(disch:=omega)[h0,s1,hqg,hqe,hql,hqt,hxl,hxt,leTn,ltTn]
    refine zab b1 ?_
    simp(disch:=omega)[hxl,hxt]
    refine zab b2 ?_
    cases hlb:zcy q x with
    | false =>
     have hR:=zky hg (.inr ⟨q,h0,hgq,hlb⟩)
     have hlb':Op.bytesLess q.by x.by=false:=hlb
     simp[hlb',hR]
    | true =>
     have hlb':Op.bytesLess q.by x.by=true:=hlb
     have hP2:okT t (i+1):=fun j hj r hr=>by
      rcases Nat.lt_succ_iff_lt_or_eq.1 hj with h|rfl
      ·exact hP j h r hr
      ·rw[hg] at hr; cases hr
       exact⟨hm,fun q' _ hq'=>by rw[hgq] at hq'; cases hq'; exact hlb⟩
     simp(disch:=omega)[hlb',hlt,zag,zaa,zad,TF,-Int.natCast_add]
     exact hP2
   ·have hi0:i=0:=by omega
    subst hi0
    have hP2:okT t 1:=fun j hj r hr=>by
     have:j=0:=by omega
     subst this
     rw[hg] at hr; cases hr
     exact⟨hm,fun q h0=>absurd h0 (by omega)⟩
    have d0:addI .i64 0 1=1:=by rw[zaE]<;>omega
    simp(disch:=omega)[zaa,zad,TF,d0,hlt,hP2]
 ·have hne:i=t.length:=by omega
  subst hne
  have:=zqT hP
  by_cases h64:t.length≤64
  ·have h:((t.length:Int)≤64)=True:=eq_true (by omega)
   simp[this,h64,h,TF]
  ·have h:((t.length:Int)≤64)=False:=eq_false (by omega)
   simp[this,h64,h,TF]
end Go.Ev
/- Tables: places, and what is found. The code. -/
namespace Go.Ev
open Go Go.RowKit
variable {G:Tbl}
theorem zmN[HasTbl G](r:TR)(h1:r.fr.length≤1000000)(h2:r.to.length≤1000000):FP G 356 [TV r] (TV r):=by
 refine zak HasTbl.h_table_own (Nat.le_of_ble_eq_true rfl) ?_
 have hb1:r.fr.length*32≤140737488355328:=by omega
 have hb2:r.to.length*32≤140737488355328:=by omega
 by_cases e1:r.fr=[]<;>by_cases e2:r.to=[] <;>
  simp(disch:=omega)[TV,TR.cs,zqv,e1,e2,leTn]
theorem zuR{t:List TR}{x y:TR}{i:Nat}(h:∀ j<i,∀ z,t[j]?=some z→zcy z x=true)(hg:t[i]?=some y)(hy:zcy y x=false):zaP t x=i:=by
 induction t generalizing i with
 | nil=>simp at hg
 | cons a t ih =>
  cases i with
  | zero=>simp at hg; subst hg; simp[zaP,hy]
  | succ i =>
   have h0:=h 0 (by omega) a rfl
   have:=ih (i:=i) (fun j hj z hz=>h (j+1) (by omega) z (by simpa using hz)) (by simpa using hg)
   simp only[zaP] at this ⊢
   simp[h0,this]
theorem ztn{t:List TR}{x:TR}(h:∀ z∈t,zcy z x=true):zaP t x=t.length:=by
 induction t with
 | nil=>rfl
 | cons a t ih =>
  have:=ih fun z hz=>h z (by simp[hz])
  simp only[zaP] at this ⊢
  simp[h a (by simp),this]
theorem zto[HasIns G][HasEnc G][HasTbl G](t:List TR)(x:TR)(hl:t.length≤1000000)(hk:∀ r∈t,r.ok)(hm:∀ r∈t,r.may=true)(hxk:x.ok)(hxm:x.may=true)(H:Heap)(hH:zba H) :
  SE G 355 [TF t,TV x,.fn 353 []] H (.tup [.int .i64 (zaP t x:Nat),.bool (hasR t x)]):=by
 refine zvm HasTbl.h_table_place (Nat.le_of_ble_eq_true rfl) ?_
 have ht:=zgy hH
 have ht0:∀ s:Heap,zad H.length (H++s)=H:=fun s=>hH.back s
 have hxl:x.cs.length=3:=rfl
 have hxt:x.cs.take 3=x.cs:=rfl
 have kx:∀ n,clL n x.cs=x.cs:=fun n=>by simp[TR.cs,clL,V.cl,Tk.cl]
 have hbx:=fun s hs=>zhy (G:=G) x hxk hxm s hs
 simp only[TV] at hbx
 simp[TF,TV,ap0,apk,set0,setk]
 refine W_up t.length (fun i=>[(0,TF t),(2,.fn 353 []),(4,.ptr H.length 0),(10,TF t),(11,.int .i64 t.length),(12,.int .i64 i)]) (fun _=>H++[some (.cells x.cs)]) (fun i=>∀ j<i,∀ z,t[j]?=some z→zcy z x=true) ?_ ?_
 ·simp[zaa,TF,ht,Blk.cl,kx]
 intro i hi hP
 by_cases hlt:i<t.length
 ·obtain⟨y,hfy⟩:∃ y,y=t[i]:=⟨_,rfl⟩
  have hg:t[i]?=some y:=by rw[hfy]; exact List.getElem?_eq_getElem hlt
  have hgg:=zcZ hg
  have hym:=hm y (List.mem_of_getElem? hg)
  have hyk:=hk y (List.mem_of_getElem? hg)
  have hyl:y.cs.length=3:=rfl
  have hyt:y.cs.take 3=y.cs:=rfl
  have ky:∀ n,clL n y.cs=y.cs:=fun n=>by simp[TR.cs,clL,V.cl,Tk.cl]
  have hte:(TL t)[i]'(by simpa using hlt)=y.cs:=by simp[TL,hfy]
  have hby:=fun s hs=>zhy (G:=G) y hyk hym s hs
  simp only[TV] at hby
  have hH2:zba (H++[some (.cells x.cs),some (.cells y.cs)]):=hH.app fun n=>by simp[Blk.cl,kx,ky]
  have hn2:¬H.length+2≤H.length:=by omega
  have hn1:¬H.length+2≤H.length+1:=by omega
  simp(disch:=omega)[ltT,TF,hgg,hte,hyl,hyt,hxl,hxt,ap0,apk,set0,setk]
  refine SE.vcall (args:=[.agg y.cs]) (cap:=[]) (hby _ hH2) rfl ?_
  simp(disch:=omega)[hn1,hn2,hyl,hyt,hxl,hxt,ap0,apk,set0,setk]
  refine SE.vcall (args:=[.agg x.cs]) (cap:=[]) (hbx _ hH2) rfl ?_
  cases hlb:zcy y x with
  | true =>
   have hlb':Op.bytesLess y.by x.by=true:=hlb
   have hP2:∀ j<i+1,∀ z,t[j]?=some z→zcy z x=true:=fun j hj z hz=>by
    rcases Nat.lt_succ_iff_lt_or_eq.1 hj with h|rfl
    ·exact hP j h z hz
    ·rw[hg] at hz; cases hz; exact hlb
   simp(disch:=omega)[hlb',hlt,zag,zaa,ht,Blk.cl,kx,TF,-Int.natCast_add]
   exact hP2
  | false =>
   have hlb':Op.bytesLess y.by x.by=false:=hlb
   have hpl:=zuR hP hg hlb
   have hha:hasR t x=decide (y.by=x.by):=by rw[hasR,hpl,hg]
   simp(disch:=omega)[hlb',hn1,hn2,hyl,hyt,hxl,hxt,ap0,apk,set0,setk]
   refine SE.vcall (args:=[.agg y.cs]) (cap:=[]) (hby _ hH2) rfl ?_
   simp(disch:=omega)[hn1,hn2,hyl,hyt,hxl,hxt,ap0,apk,set0,setk]
   refine SE.vcall (args:=[.agg x.cs]) (cap:=[]) (hbx _ hH2) rfl ?_
   simp[ht0,hpl,hha]
   exact Bool.eq_iff_iff.2 (by simp)
 ·have hne:i=t.length:=by omega
  subst hne
  have hpl:=ztn (t:=t) (x:=x) fun z hz=>by
   obtain⟨j,hj⟩:=List.getElem?_of_mem hz
   exact hP j (List.getElem?_eq_some_iff.1 hj).1 z hj
  have hha:hasR t x=false:=by rw[hasR,hpl,List.getElem?_eq_none (Nat.le_refl _)]
  simp[TF,ht0,hpl,hha]
theorem zuS[HasTbl G](f g:List In4)(hf:f.length≤1000000):FP G 358 [FL f,FL g] (.bool (decide (f=g))):=by
 refine zak HasTbl.h_table_same (Nat.le_of_ble_eq_true rfl) ?_
 by_cases hl:f.length=g.length
 ·have hz:((f.length:Int) !=(g.length:Int))=false:=by simp[hl]
  simp[FL,hz]
  refine W_up f.length (fun i=>[(0,FL f),(1,FL g),(12,.int .i64 f.length),(13,.int .i64 i)]) (fun _=>[]) (fun i=>f.take i=g.take i) ?_ ?_
  ·simp[zaa,zad,FL,hl]
  intro i hi hp
  by_cases hlt:i<f.length
  ·obtain⟨x,hfx⟩:∃ x,x=f[i]:=⟨_,rfl⟩
   have hlt2:i<g.length:=by omega
   obtain⟨y,hfy⟩:∃ y,y=g[i]:=⟨_,rfl⟩
   have hgg:=zbg hlt
   have hgg2:=zbg hlt2
   rw[←hfx] at hgg
   rw[←hfy] at hgg2
   have hfx:=hfx.symm
   have hfy:=hfy.symm
   have ha:=aeq4 x y
   by_cases hxy:x=y
   ·rw[decide_eq_true hxy] at ha
    have hp':f.take (i+1)=g.take (i+1):=by
     rw[List.take_add_one,List.take_add_one,hp,List.getElem?_eq_getElem hlt,List.getElem?_eq_getElem hlt2,hfx,hfy,hxy]
    simp(disch:=omega)[ltT,FL,hgg,hgg2,hfx,hfy,ha,hlt,zag,zaa,zad,hp',-Int.natCast_add]
   ·rw[decide_eq_false hxy] at ha
    have hne:¬f=g:=by
     rintro rfl
     exact hxy (hfx.symm.trans hfy)
    simp(disch:=omega)[ltT,FL,hgg,hgg2,hfx,hfy,ha,hne,-Int.natCast_add]
  ·have hne:i=f.length:=by omega
   subst hne
   rw[List.take_length,hl,List.take_length] at hp
   simp[FL,hp]
 ·have hz:((f.length:Int) !=(g.length:Int))=true:=by simp; omega
  have:¬f=g:=fun h=>hl (by rw[h])
  simp[FL,hz,this]
end Go.Ev
/- Tables: what is found, what is learnt. The code. -/
namespace Go.Ev
open Go Go.RowKit
variable {G:Tbl}
theorem zl5(t:List TR):(∀ f∈TL t,f.length=3)=True:=by
 simp only[eq_iff_iff,iff_true]
 intro f hf
 simp only[TL,List.mem_map] at hf
 obtain⟨x,_,rfl⟩:=hf
 rfl
theorem zkz(r:TR):r.cs.all V.pure=true:=by
 simp[TR.cs]
theorem zkA(t:List TR)(r:TR):TL t++[r.cs]=TL (t++[r]):=by simp[TL]
theorem zAS{a:Nat}(h:a<4294967296):andI .u32 (a:Int) 262143=((a%262144:Nat):Int):=by
 unfold andI
 rw[show(262143:Int)=((262143:Nat):Int) from rfl,za0,za0,BitVec.toNat_and,BitVec.toNat_ofNat,BitVec.toNat_ofNat]
 have h1:a%2^IntKind.u32.bits=a:=Nat.mod_eq_of_lt h
 have h2:262143%2^IntKind.u32.bits=2^18-1:=rfl
 rw[h1,h2,Nat.and_two_pow_sub_one_eq_mod]
 exact za9 (by have:=Nat.mod_lt a (show 0<2^18 by decide); omega)
def fndV:Option (List In4)→V
 | some x=>.tup [.vs (IL x) .no,.bool true]
 | none=>.tup [.vs [] .no,.bool false]
theorem zeE{r:TR}(h:r.may=true):r.fr.length≤32∧r.to.length≤32:=by
 simp only[TR.may,Bool.and_eq_true] at h
 exact⟨(zcN h.1.1.1).1,(zcN h.1.1.2).1⟩
theorem zuT[HasIns G][HasCheck G][HasWRight G][HasEnc G][HasTbl G](t:List TR)(w:List In4)(live:Nat)(hl:t.length≤1000000)(hk:∀ r∈t,r.ok)(hv:live<4294967296) :
  FP G 359 [TF t,FL w,.int .u32 live] (fndV (ze4 t w live)):=by
 refine zak HasTbl.h_table_Find (Nat.le_of_ble_eq_true rfl) ?_
 have hr:=zhz (G:=G) t hl hk
 simp only[TF] at hr
 simp[TF]
 refine zab hr ?_
 cases htb:tblB t with
 | false=>simp[ze4,htb,fndV]
 | true =>
  have hmay:∀ r∈t,r.may=true:=fun r hr=>by
   simp only[tblB,Bool.and_eq_true] at htb
   exact List.all_eq_true.1 htb.1.1 r hr
  simp
  refine W_up t.length (fun i=>[(1,FL w),(2,.int .u32 live),(13,TF t),(14,.int .i64 t.length),(15,.int .i64 i)]) (fun _=>[]) (fun i=>∀ j<i,∀ r,t[j]?=some r→(decide (r.fr=w)&&decide (live%262144=r.lv))=false) ?_ ?_
  ·simp[zaa,zad,TF,FL]
  intro i hi hP
  by_cases hlt:i<t.length
  ·obtain⟨x,hfx⟩:∃ x,x=t[i]:=⟨_,rfl⟩
   have hg:t[i]?=some x:=by rw[hfx]; exact List.getElem?_eq_getElem hlt
   have hgg:=zcZ hg
   have hxm:=hmay x (List.mem_of_getElem? hg)
   obtain⟨l1,l2⟩:=zeE hxm
   have hte:(TL t)[i]'(by simpa using hlt)=x.cs:=by simp[TL,hfx]
   have hsm:=zuS (G:=G) x.fr w (by omega)
   simp only[FL] at hsm
   simp(disch:=omega)[ltT,TF,FL,hgg,hte,TR.cs]
   refine zab hsm ?_
   have ha:=zAS hv
   have next:(decide (x.fr=w)&&decide (live%262144=x.lv))=false→∀ j<i+1,∀ r,t[j]?=some r→(decide (r.fr=w)&&decide (live%262144=r.lv))=false:=fun hx j hj r hr=>by
    rcases Nat.lt_succ_iff_lt_or_eq.1 hj with h|rfl
    ·exact hP j h r hr
    ·rw[hg] at hr; cases hr; exact hx
   by_cases e1:x.fr=w
   ·by_cases e2:live%262144=x.lv
    ·have e2':(((live%262144:Nat):Int)==(x.lv:Int))=true:=by simp; omega
     have hfd:ze4 t w live=some x.to:=by
      rw[ze4,htb,if_pos rfl]
      have:t.find? (fun r=>decide (r.fr=w)&&decide (live%262144=r.lv))=some x:=by
       rw[List.find?_eq_some_iff_getElem]
       refine⟨by simp[e1,e2],i,hlt,hfx.symm,fun j hj=>?_⟩
       rw[hP j hj _ (List.getElem?_eq_getElem (by omega))]; rfl
      rw[this]; rfl
     by_cases e3:x.to=[]
     ·simp(disch:=omega)[e1,ha,e2',e3,hfd,fndV,-Int.natCast_emod]
     ·simp(disch:=omega)[e1,ha,e2',e3,zqv,leTn,hfd,fndV,-Int.natCast_emod]
    ·have e2':(((live%262144:Nat):Int)==(x.lv:Int))=false:=beqF (by omega)
     have:=next (by simp[e2])
     simp(disch:=omega)[e1,ha,e2',hlt,zag,zaa,zad,TF,FL,-Int.natCast_add,-Int.natCast_emod]
     exact fun j hj r hr he=>by have:=this j hj r hr; simpa[he] using this
   ·have:=next (by simp[e1])
    simp(disch:=omega)[e1,hlt,zag,zaa,zad,TF,FL,-Int.natCast_add,-Int.natCast_emod]
    exact fun j hj r hr he=>by have:=this j hj r hr; simpa[he] using this
  ·have hne:i=t.length:=by omega
   subst hne
   have hfd:ze4 t w live=none:=by
    rw[ze4,htb,if_pos rfl,Option.map_eq_none_iff,List.find?_eq_none]
    intro r hr
    obtain⟨j,hj⟩:=List.getElem?_of_mem hr
    rw[hP j (List.getElem?_eq_some_iff.1 hj).1 r hj]
    simp
   simp[hfd,fndV]
theorem znH[HasIns G][HasCheck G][HasWRight G][HasEnc G][HasTbl G](t:List TR)(r:TR)(hl:t.length≤1000000)(hk:∀ r∈t,r.ok)(hrk:r.ok) :
  FP G 357 [TF t,TV r] (.tup [TF (zaQ t r).1,.int .i64 (zaQ t r).2]):=by
 refine zak HasTbl.h_table_Learn (Nat.le_of_ble_eq_true rfl) ?_
 have hr:=zhz (G:=G) t hl hk
 have hrr:=znF (G:=G) r hrk
 have hxl:r.cs.length=3:=rfl
 have hxt:r.cs.take 3=r.cs:=rfl
 have kx:∀ n,clL n r.cs=r.cs:=fun n=>by simp[TR.cs,clL,V.cl,Tk.cl]
 simp only[TF,TV] at hr hrr
 simp[TF,TV]
 refine zab hr ?_
 cases htb:tblB t with
 | false=>simp[zaQ,htb]
 | true =>
  simp[hxl,hxt]
  refine zab hrr ?_
  cases hrm:r.may with
  | false=>simp[zaQ,htb,hrm]
  | true =>
   have hmay:∀ r∈t,r.may=true:=fun r hr=>by
    simp only[tblB,Bool.and_eq_true] at htb
    exact List.all_eq_true.1 htb.1.1 r hr
   have h64:=(zgM htb).2
   have hpl:=zto (G:=G) t r hl hk hmay hrk hrm [some (.cells r.cs)] (fun n _=>by simp[Blk.cl,kx])
   simp only[TF,TV] at hpl
   simp[hxl,hxt]
   refine SE.scall hpl rfl ?_
   cases hhr:hasR t r with
   | true=>simp[zaQ,htb,hrm,hhr]
   | false =>
    by_cases h6:t.length=64
    ·have h6':((t.length:Int)==64)=true:=by simp[h6]
     simp[zaQ,htb,hrm,hhr,h6,h6']
    ·have h6':((t.length:Int)==64)=false:=beqF (by omega)
     have hple:=zpd t r
     obtain⟨p,hp⟩:∃ p,p=zaP t r:=⟨_,rfl⟩
     have hR:zaQ t r=(t.take p++r::t.drop p,0):=by simp[zaQ,htb,hrm,hhr,h6,hp]
     rw[←hp] at hple
     rw[hR,←hp]
     have htk:(TL t).take p=TL (t.take p):=by simp[TL]
     have hdp:(TL t).drop p=TL (t.drop p):=by simp[TL]
     have hlt1:(t.take p).length=p:=by rw[List.length_take]; omega
     have hrl:=zeE hrm
     have howr:=zmN (G:=G) r (by omega) (by omega)
     have hpure:=zkz r
     simp only[TV] at howr
     obtain⟨T,hT⟩:∃ T:Nat→List TR,∀ j,T j=t.take j:=⟨_,fun _=>rfl⟩
     have hT0:T 0=[]:=by rw[hT]; rfl
     have hTl:∀ j,j≤t.length→(T j).length=j:=fun j hj=>by rw[hT,List.length_take]; omega
     simp(disch:=omega)[h6',leTn,htk,hlt1,zl5]
     refine W_up p (fun i=>[(0,TF t),(3,.ptr 0 0),(6,.int .i64 p),(8,.vs (TL (T i)) (.own 1)),(38,.vs (TL (t.take p)) .no),(39,.int .i64 p),(40,.int .i64 i)])
      (fun i=>[some (.cells r.cs),some (.zone i)]) (fun _=>True) ?_ ?_
     ·simp[zaa,zad,TF,hT0,TL,Blk.cl,kx]
     intro i hi _
     by_cases hlt:i<p
     ·obtain⟨y,hfy⟩:∃ y,y=t[i]'(by omega):=⟨_,rfl⟩
      have hg:t[i]?=some y:=by rw[hfy]; exact List.getElem?_eq_getElem _
      have hgt:(t.take p)[i]?=some y:=by rw[List.getElem?_take,if_pos hlt,hg]
      have hgg:=zcZ hgt
      have hte:(TL (t.take p))[i]'(by simp; omega)=y.cs:=by
       have:=List.getElem?_eq_some_iff.1 hgg
       exact this.2
      have hym:=zeE (hmay y (List.mem_of_getElem? hg))
      have hoy:=zmN (G:=G) y (by omega) (by omega)
      simp only[TV] at hoy
      have hyl:y.cs.length=3:=rfl
      have hyt:y.cs.take 3=y.cs:=rfl
      have hyp:=zkz y
      have hTs:TL (T i)++[y.cs]=TL (T (i+1)):=by rw[hT,hT,zkA,List.take_add_one,hg]; rfl
      have hl1:=hTl i (by omega)
      simp(disch:=omega)[ltT,hgg,hte,hyl,hyt]
      refine zab hoy ?_
      simp(disch:=omega)[hyl,hyt,hyp,hTs,hl1,zl5,leTn,hlt,zag,zaa,zad,TF,Blk.cl,kx,-Int.natCast_add]
     ·have hne:i=p:=by omega
      subst hne
      obtain⟨D,hD⟩:∃ D,D=t.drop i:=⟨_,rfl⟩
      have hDl:D.length=t.length-i:=by rw[hD,List.length_drop]
      have hTs:TL (T i)++[r.cs]=TL (T i++[r]):=zkA _ _
      have hl1:=hTl i (by omega)
      obtain⟨U,hU⟩:∃ U:Nat→List TR,∀ j,U j=T i++[r]++D.take j:=⟨_,fun _=>rfl⟩
      have hU0:T i++[r]=U 0:=by rw[hU,List.take_zero,List.append_nil]
      have hUl:∀ j,j≤D.length→(U j).length=i+1+j:=fun j hj=>by rw[hU,List.length_append,List.length_append,hl1,List.length_take]; simp; omega
      rw[hU0] at hTs
      simp[ltT,hxl,hxt]
      refine zab howr ?_
      rw[←hD] at hdp ⊢
      have htk2:(TL D).take (t.length-i)=TL D:=by rw[List.take_of_length_le]; simp; omega
      simp(disch:=omega)[TF,htk2,hxl,hxt,hpure,hTs,hl1,zl5,leTn,hdp,hDl]
      refine W_up D.length (fun j=>[(8,.vs (TL (U j)) (.own 1)),(57,.vs (TL D) .no),(58,.int .i64 D.length),(59,.int .i64 j)])
       (fun j=>[some (.cells r.cs),some (.zone (i+1+j)),none]) (fun _=>True) ?_ ?_
      ·simp[zaa,zad,hU0,Blk.cl,kx,hDl]
      intro j hj _
      by_cases hlt:j<D.length
      ·obtain⟨y,hfy⟩:∃ y,y=D[j]'(by omega):=⟨_,rfl⟩
       have hg:D[j]?=some y:=by rw[hfy]; exact List.getElem?_eq_getElem _
       have hgg:=zcZ hg
       have hte:(TL D)[j]'(by simp; omega)=y.cs:=(List.getElem?_eq_some_iff.1 hgg).2
       have hymem:y∈t:=by
        have:=List.mem_of_getElem? hg
        rw[hD] at this
        exact List.mem_of_mem_drop this
       have hym:=zeE (hmay y hymem)
       have hoy:=zmN (G:=G) y (by omega) (by omega)
       simp only[TV] at hoy
       have hyl:y.cs.length=3:=rfl
       have hyt:y.cs.take 3=y.cs:=rfl
       have hyp:=zkz y
       have hTs:TL (U j)++[y.cs]=TL (U (j+1)):=by rw[hU,hU,zkA,List.take_add_one,hg]; simp
       have hl2:=hUl j (by omega)
       simp(disch:=omega)[ltT,hgg,hte,hyl,hyt]
       refine zab hoy ?_
       simp(disch:=omega)[hyl,hyt,hyp,hTs,hl2,zl5,leTn,hlt,zag,zaa,zad,Blk.cl,kx,-Int.natCast_add]
       omega
      ·have hne:j=D.length:=by omega
       subst hne
       have hfin:U D.length=t.take i++r::D:=by rw[hU,List.take_length,hT]; simp
       simp[hfin]
end Go.Ev
/- Filters made shorter: the smaller functions. -/
namespace Go.Ev
open Go Go.RowKit
variable {G:Tbl}
def zaS(b lo hi:Int):Int:=max lo (min b hi)
theorem zmO[HasOpt G](b lo hi:Int):FP G 360 [.int .i64 b,.int .i64 lo,.int .i64 hi] (.int .i64 (zaS b lo hi)):=by
 refine zak HasOpt.h_opt_clip_int (Nat.le_of_ble_eq_true rfl) ?_
 simp[zaS]
 omega
theorem zuU[HasOpt G](a b c:Int):FP G 361 [.agg [.int .i64 a,.int .i64 b,.int .i64 c]] (.agg [.int .i64 (zaS a 0 1000),.int .i64 (zaS b 0 1000),.int .i64 (zaS c 0 32)]):=by
 refine zak HasOpt.h_opt_fair (Nat.le_of_ble_eq_true rfl) ?_
 simp
 refine zab (zmO _ _ _) ?_
 simp
 refine zab (zmO _ _ _) ?_
 simp
 refine zab (zmO _ _ _) ?_
 simp
def goodT(t:List TR):List TR:=if tblB t=true then t else []
theorem zwr[HasIns G][HasCheck G][HasWRight G][HasEnc G][HasTbl G][HasOpt G](t:List TR)(hl:t.length≤1000000)(hk:∀ r∈t,r.ok):FP G 362 [TF t] (TF (goodT t)):=by
 refine zak HasOpt.h_opt_good (Nat.le_of_ble_eq_true rfl) ?_
 have hr:=zhz (G:=G) t hl hk
 simp only[TF] at hr
 simp[TF]
 refine zab hr ?_
 cases htb:tblB t with
 | false=>simp[goodT,htb,TL]
 | true=>simp[goodT,htb]
theorem zrB[HasWd G][HasNeg G][HasIns G][HasCheck G][HasData G][HasWith G][HasStep G][HasWRight G][HasWinRun G][HasWinAsg G][HasWinState G][HasWinOf G][HasAffApart G][HasAffine G][hBA:HasBitsA G][HasSymNew G][HasSym G][HasSymEval G][HasSymApart G][HasDecDf G][HasDec G][HasSrcN G][HasSrcL G][HasSrcC G][HasSrcF G][HasEnc G][HasTbl G][HasOpt G]
  (w:List In4) (t:List TR) (live:Nat) (tries:Int) (hw:winB w=true) (hk:∀ x∈w,x.k<4294967296) (hl:t.length≤1000000) (htk:∀ r∈t,r.ok) (hlv:live<4294967296) :
  FP G 363 [FL w,TF t,.int .u32 live,.int .i64 tries] (fndV (zcz w t live tries)):=by
 refine zak HasOpt.h_opt_shorter (Nat.le_of_ble_eq_true rfl) ?_
 have hf:=zuT (G:=G) t w live hl htk hlv
 have hw32:=(zcN hw).1
 have hwm:w.length≤maxLen:=Nat.le_trans hw32 (by decide)
 have hs:=zwf (G:=G) w live tries hwm hk hw hlv
 simp only[FL,TF] at hf hs
 simp[FL,TF]
 refine zab hf ?_
 cases hfd:ze4 t w live with
 | none =>
  have hR:zcz w t live tries=findR w live tries:=by rw[zcz,hfd]
  rw[hR]
  simp[fndV]
  refine zab hs ?_
  cases findR w live tries<;>simp[fndV]
 | some x =>
  obtain⟨r,hr,h1,h2,h3⟩:=zte hfd
  have hxk:=(htk r hr).2.2.2.1
  have hx32:=(zeE h3).2
  rw[h2] at hxk hx32
  have hdc:=zjc (G:=G) w x live hwm (Nat.le_trans hx32 (by decide)) hk hxk hlv
  have hxw:winB x=true:=by
   simp only[TR.may,Bool.and_eq_true] at h3
   rw[←h2]; exact h3.1.1.2
  simp only[FL,hw,hxw,Bool.and_self,if_true] at hdc
  simp[fndV]
  refine zab hdc ?_
  obtain⟨A,hA⟩:∃ A,A=ansC 0 none:=⟨_,rfl⟩
  have lA:A.length=28:=by rw[hA]; rfl
  obtain⟨cc,B,hcc,hB,kB,lB,B1⟩:∃(cc:Int) (B:List V),(decR w x live).1=cc∧B=ansC (decR w x live).1 (decR w x live).2∧(∀ n,clL n B=B)∧B.length=28∧B.take 1=[.int .i64 (decR w x live).1] :=
   ⟨_,_,rfl,rfl,fun n=>zhZ _ _ n,zkV w x live,zmf _ _⟩
  have hAz:V.int .i64 0::(zac .u32 (zae 20)++zac .u64 (zae 7))=A:=by rw[hA]; rfl
  have hBt:B.take 28=B:=List.take_of_length_le (by omega)
  have hBd:B.drop 28=[]:=List.drop_eq_nil_of_le (by omega)
  have hAd:A.drop 28=[]:=List.drop_eq_nil_of_le (by omega)
  rw[←hB]
  rw[hcc] at B1
  simp[hAz,hAd,hBt,hBd,lA,lB,B1,kB]
  by_cases h0:cc=0
  ·have hR:zcz w t live tries=some x:=by rw[zcz,hfd]; simp only[]; rw[if_pos ⟨hxw,by rw[hcc,h0]⟩]
   simp[h0,hR,fndV]
  ·have hR:zcz w t live tries=findR w live tries:=by rw[zcz,hfd]; simp only[]; rw[if_neg (by rintro⟨_,h⟩; rw[hcc] at h; exact h0 h)]
   have h0':(cc==0)=false:=beqF h0
   rw[hR]
   simp[h0']
   refine zab hs ?_
   cases findR w live tries<;>simp[fndV]
end Go.Ev
/- Filters made shorter: a round. -/
namespace Go.Ev
open Go Go.RowKit
variable {G:Tbl}
def ResC(f:List In4)(t:List TR)(n:Nat)(d:Bool):List V:=[FL f,TF t,.int .i64 n,.bool d]
def rndV(f:List In4)(t:List TR):Option (List In4×List TR)→V
 | some q=>.tup [.agg (ResC q.1 q.2 1 false),.bool true]
 | none=>.tup [.agg (ResC f t 0 true),.bool false]
def zrC(t:List TR):Prop:=t.length≤1000000∧∀ r∈t,r.ok
theorem zrD[HasWd G][HasNeg G][HasIns G][HasCheck G][HasData G][HasWith G][HasStep G][HasWRight G][HasWinRun G][HasWinAsg G][HasWinState G][HasWinOf G][HasAffApart G][HasAffine G][hBA:HasBitsA G][HasSymNew G][HasSym G][HasSymEval G][HasSymApart G][HasDecDf G][HasDec G][HasSrcN G][HasSrcL G][HasSrcC G][HasSrcF G][HasTells G][HasLive G][HasSpl G][HasEnc G][HasTbl G][HasOpt G]
  (f:List In4) (t:List TR) (rnds tries most:Int) (hs:zap f=true) (hk:∀ x∈f,x.k<4294967296) (ht:zrC t) (hm:0≤most∧most≤32) :
  FP G 364 [FL f,TF t,.agg [.int .i64 rnds,.int .i64 tries,.int .i64 most]] (rndV f t (roundR f t tries most)):=by
 refine zak HasOpt.h_opt_round (Nat.le_of_ble_eq_true rfl) ?_
 have hL4:=ze9 hs
 have hfm:f.length≤maxLen:=Nat.le_trans hL4 (by decide)
 have hpc:=zr9 (G:=G) f most hfm hk (by omega)
 obtain⟨L,hL⟩:∃ L,L=rows f most f.length:=⟨_,rfl⟩
 have hLl:L.length≤200000:=by
  have:=zkW f most f.length
  rw[hL]; omega
 rw[←hL] at hpc
 have hR:roundR f t tries most=L.findSome? (tryP f t tries):=by rw[roundR,hL]
 simp only[FL] at hpc
 simp[FL,TF]
 refine zab hpc ?_
 simp
 refine W_up L.length (fun i=>[(0,FL f),(1,TF t),(5,.ptr 0 0),(6,.ptr 1 0),(24,.vs (zcF L) .no),(25,.int .i64 L.length),(26,.int .i64 i)])
  (fun _=>[some (.cells [.int .i64 rnds,.int .i64 tries,.int .i64 most]),some (.cells [.vs [] .full,.vs [] .full,.int .i64 0,.bool false])]) (fun i=>∀ j<i,∀ p,L[j]?=some p→tryP f t tries p=none) ?_ ?_
 ·simp[zaa,zad,FL,TF]
 intro i hi hP
 by_cases hlt:i<L.length
 ·obtain⟨p,hfp⟩:∃ p,p=L[i]:=⟨_,rfl⟩
  have hg:L[i]?=some p:=by rw[hfp]; exact List.getElem?_eq_getElem hlt
  have hpm:p∈rows f most f.length:=by rw[←hL]; exact List.mem_of_getElem? hg
  obtain⟨hpa,hc,h2,h32⟩:=zkX hpm
  have hc':=hc
  simp only[cnd,Bool.and_eq_true] at hc'
  have hfz:=hc'.2
  simp only[cnd,zfN,zcq,inB,Bool.and_eq_true,decide_eq_true_eq] at hc
  obtain⟨⟨_,_⟩,_,⟨i1,i2,i3,i4⟩,hfn⟩:=hc
  have hfn:zb5 f p.1 p.2=true:=by simpa using hfn
  obtain⟨a,n⟩:=p
  simp only at hpa h2 h32 hfn i1 i2 i3 i4 hfz
  have hbd:a+n≤f.length:=by omega
  obtain⟨x,hx⟩:∃ x,f[a+n-1]?=some x:=⟨_,List.getElem?_eq_getElem (by omega)⟩
  have hbh:=zsS (G:=G) f (a+n-1) x hx hk hs
  have hpl:∀ x∈(f.drop a).take n,zaC x=true:=by
   simp only[zb5,Bool.and_eq_true] at hfn
   exact zfa hfn.1
  have hpx:zaC x=true:=hpl x (by
   refine List.mem_of_getElem? (i:=n-1) ?_
   rw[List.getElem?_take,if_pos (by omega),List.getElem?_drop,show a+(n-1)=a+n-1 by omega]
   exact hx)
  have hox:offs x=[0]:=by
   obtain⟨h5,hbr,h6,h22⟩:=zfY hpx
   simp[offs,zay,h5,hbr,h6,h22]
  rw[hox,zwM,show a+n-1+1=a+n by omega] at hbh
  obtain⟨live,hlv⟩:∃ live,live=zkr f a n:=⟨_,rfl⟩
  have hlv32:live<4294967296:=by rw[hlv]; exact Nat.lt_of_lt_of_le (zbk _ 18) (by decide)
  rw[show zas (nd (f.drop (a+n))) 18=live from hlv.symm] at hbh
  obtain⟨P,hPe⟩:∃ P,P=zcY f a n:=⟨_,rfl⟩
  have hPl:P.length=n:=by rw[hPe,zcY,List.length_take,List.length_drop]; omega
  have hPk:∀ y∈P,y.k<4294967296:=by rw[hPe]; exact zj4 hk a n
  have hPw:winB P=true:=by
   rw[hPe,zcY]
   simp only[zb5,Bool.and_eq_true] at hfn
   exact hfn.1
  have hsh:=zrB (G:=G) P t live tries hPw hPk ht.1 ht.2 hlv32
  have e1:addI .i64 (a:Int) (n:Int)=((a+n:Nat):Int):=addN (by omega)
  have e2:subI .i64 ((a+n:Nat):Int) 1=((a+n-1:Nat):Int):=by rw[zct]<;>omega
  have hslice:((IL f).drop a).take n=IL P:=by rw[zmc,zmd,hPe,zcY]
  have hslice2:((IL f).take (a+n)).drop a=IL P:=by rw[zmd,zmc,hPe,zcY,List.drop_take]; congr 2; omega
  have hslice3:((IL f).drop a).take (a+n-a)=IL P:=by rw[show a+n-a=n by omega]; exact hslice
  have hre:L[i]=(a,n):=hfp.symm
  have c1:((a:Int)≤((a+n:Nat):Int))=True:=eq_true (by omega)
  have c2:(((a+n:Nat):Int)≤(f.length:Int))=True:=eq_true (by omega)
  have htp:tryP f t tries (a,n)=(zcz P t live tries).map fun x=>(putL f a n x,(zaQ t ⟨P,x,live⟩).1):=by
   rw[tryP,←hPe,←hlv]
  simp only[FL,TF] at hbh hsh
  simp(disch:=omega)[ltT,leTn,hre,FL,TF,e1,e2,c1,c2,hslice3,-Int.natCast_add]
  refine zab hbh ?_
  simp(disch:=omega)[hslice]
  refine zab hsh ?_
  cases hsr:zcz P t live tries with
  | none =>
   have hP2:∀ j<i+1,∀ p,L[j]?=some p→tryP f t tries p=none:=fun j hj p hp=>by
    rcases Nat.lt_succ_iff_lt_or_eq.1 hj with h|rfl
    ·exact hP j h p hp
    ·rw[hg] at hp; cases hp
     rw[htp,hsr]; rfl
   simp(disch:=omega)[fndV,hlt,zag,zaa,zad,FL,TF,-Int.natCast_add]
   exact fun j hj p q hp=>hP2 j hj (p,q) hp
  | some y =>
   obtain⟨w1,w2,w3,w4⟩:=zpe hPk hPw (fun r hr=>(ht.2 r hr).2.2.2.1) hsr
   have hy32:=(zcN w1).1
   have hokp:znO f a n y=true:=by simp only[znO,hfz,w1,Bool.true_and,decide_eq_true_eq]; omega
   have hput:=zwI (G:=G) f y a n hfm (Nat.le_trans hy32 (by decide)) hk w4 hokp
   obtain⟨r,hr⟩:∃ r:TR,r=⟨P,y,live⟩:=⟨_,rfl⟩
   have hrk:r.ok:=by
    rw[hr]
    exact⟨Nat.le_trans (show P.length≤32 by omega) (by decide),Nat.le_trans hy32 (by decide),hPk,w4,hlv32⟩
   have hln:=znH (G:=G) t r ht.1 ht.2 hrk
   have hrv:TV r=.agg [.vs (IL P) .no,.vs (IL y) .no,.int .u32 live]:=by rw[hr]; rfl
   rw[hrv] at hln
   have hRq:roundR f t tries most=some (putL f a n y,(zaQ t r).1):=by
    rw[hR]
    have hsplit:L=L.take i++(a,n)::L.drop (i+1):=by
     have:=List.drop_eq_getElem_cons hlt
     rw[hre] at this
     rw[←this,List.take_append_drop]
    exact List.findSome?_eq_some_iff.2 ⟨L.take i,(a,n),L.drop (i+1),hsplit,by rw[htp,hsr,hr]; rfl,fun p hp=>by
     obtain⟨j,hj⟩:=List.getElem?_of_mem hp
     rw[List.getElem?_take] at hj
     split at hj
     ·rename_i hji; exact hP j hji p hj
     ·cases hj⟩
   rw[hRq]
   simp only[FL,TF] at hput hln
   simp[fndV]
   refine zab hput ?_
   simp
   refine zab hln ?_
   by_cases he:(zaQ t r).2=0
   ·have he':((zaQ t r).2==0)=true:=by simp[he]
    simp[he',rndV,ResC,FL,TF]
   ·have he':((zaQ t r).2==0)=false:=beqF he
    have hsame:(zaQ t r).1=t:=by
     unfold zaQ at he ⊢
     split
     ·split
      ·rfl
      ·split
       ·rfl
       ·rename_i g1 g2 g3
        rw[if_pos g1,if_neg g2,if_neg g3] at he
        exact absurd rfl he
     ·rfl
    simp[he',hsame,rndV,ResC,FL,TF]
 ·have hne:i=L.length:=by omega
  subst hne
  have hnone:roundR f t tries most=none:=by
   rw[hR,List.findSome?_eq_none_iff]
   intro p hp
   obtain⟨j,hj⟩:=List.getElem?_of_mem hp
   exact hP j (List.getElem?_eq_some_iff.1 hj).1 p hj
  rw[hnone]
  simp[rndV,ResC,FL,TF]
end Go.Ev
/- Which places are come to: a walk, plain. -/
namespace Go.Ev
open Go Go.RowKit
def zb9(f:List In4)(a:Nat)(m:List Bool):List Bool :=
 if h:a<f.length then
  if m.getD a false=true then m
  else if zay (f[a]'h).op=true then m.set a true
  else if(f[a]'h).op=5 then zb9 f (a+1+(f[a]'h).k) (m.set a true)
  else if isBr (f[a]'h).op=true then zb9 f (a+1+(f[a]'h).jf.toNat) (zb9 f (a+1+(f[a]'h).jt.toNat) (m.set a true))
  else zb9 f (a+1) (m.set a true)
 else m
termination_by f.length-a
def isT(m:List Bool)(i:Nat):Prop:=m[i]?=some true
structure Mt (f:List In4) (a:Nat) (m m':List Bool):Prop where
 len:m'.length=m.length
 mono:∀ i,isT m i→isT m' i
 at':isT m' a
 cls:∀ i x,isT m' i→¬isT m i→f[i]?=some x→∀ o∈offs x,isT m' (i+1+o)
 min:∀ i,isT m' i→¬isT m i→i=a∨∃ j x o,f[j]?=some x∧isT m' j∧o∈offs x∧j+1+o=i
theorem zgN{m:List Bool}{a i:Nat}(ha:a<m.length):isT (m.set a true) i↔i=a∨isT m i:=by
 unfold isT
 by_cases e:a=i
 ·subst e; rw[List.getElem?_set_self ha]; simp
 ·rw[List.getElem?_set_ne e]
  constructor
  ·exact .inr
  ·rintro(h|h)
   ·exact absurd h.symm e
   ·exact h
theorem Mt.refl{f:List In4}{a:Nat}{m:List Bool}(h:isT m a):Mt f a m m:=⟨rfl,fun _ h=>h,h,fun i x h1 h2=>absurd h1 h2,fun i h1 h2=>absurd h1 h2⟩
theorem Mt.one{f:List In4}{a:Nat}{m m':List Bool}{x:In4}(ha:a<m.length)(hx:f[a]?=some x)(hl:m'.length=m.length)(mono:∀ i,isT (m.set a true) i→isT m' i)
  (nx:∀ o∈offs x,isT m' (a+1+o)) (cls:∀ i y,isT m' i→¬isT (m.set a true) i→f[i]?=some y→∀ o∈offs y,isT m' (i+1+o))
  (min:∀ i,isT m' i→¬isT (m.set a true) i→∃ j y o,f[j]?=some y∧isT m' j∧o∈offs y∧j+1+o=i):Mt f a m m':=by
 have h1:isT m' a:=mono a ((zgN ha).2 (.inl rfl))
 refine⟨hl,fun i hi=>mono i ((zgN ha).2 (.inr hi)),h1,fun i y hi hn hy=>?_,fun i hi hn=>?_⟩
 ·by_cases e:i=a
  ·subst e
   rw[hx] at hy; cases hy
   exact nx
  ·exact cls i y hi (fun h=>((zgN ha).1 h).elim e hn) hy
 ·by_cases e:i=a
  ·exact .inl e
  ·exact .inr (min i hi fun h=>((zgN ha).1 h).elim e hn)
theorem zie{f:List In4}(hs:zap f=true):∀(n a:Nat) (m:List Bool),f.length-a≤n→a<f.length→m.length=f.length→Mt f a m (zb9 f a m)
 | 0,a,m,h1,h2,_=>by omega
 | n+1,a,m,h1,h2,h3=>by
  have hx:f[a]?=some f[a]:=List.getElem?_eq_getElem h2
  have ho:=fun o h=>zcW (o:=o) hs hx h
  obtain⟨x,hxe⟩:∃ x,x=f[a]:=⟨_,rfl⟩
  rw[←hxe] at hx ho
  rw[zb9,dif_pos h2,←hxe]
  by_cases hm:m.getD a false=true
  ·rw[if_pos hm]
   refine .refl ?_
   rw[List.getD_eq_getElem?_getD] at hm
   unfold isT
   cases hg:m[a]? with
   | none=>rw[hg] at hm; cases hm
   | some b=>rw[hg] at hm; simp at hm; rw[hm]
  rw[if_neg hm]
  have hal:a<m.length:=by omega
  have hl:(m.set a true).length=f.length:=by rw[List.length_set,h3]
  by_cases he:zay x.op=true
  ·rw[if_pos he]
   refine Mt.one hal hx (by simp) (fun _ h=>h) (fun o h=>?_) (fun i y h1 h2=>absurd h1 h2) (fun i h1 h2=>absurd h1 h2)
   simp[offs,he] at h
  rw[if_neg he]
  have he':zay x.op=false:=by simpa using he
  -- one walk on
  have one:∀ o,offs x=[o]→Mt f a m (zb9 f (a+1+o) (m.set a true)):=fun o e=>by
   have hlt:=ho o (by rw[e]; simp)
   have k:=zie hs n (a+1+o) (m.set a true) (by omega) hlt hl
   refine Mt.one hal hx (by rw[k.len]; simp) k.mono (fun q h=>?_) k.cls (fun i h1 h2=>?_)
   ·rw[e,List.mem_singleton] at h
    subst h; exact k.at'
   ·rcases k.min i h1 h2 with rfl|h
    ·exact⟨a,x,o,hx,k.mono a ((zgN hal).2 (.inl rfl)),by rw[e]; simp,rfl⟩
    ·exact h
  by_cases h5:x.op=5
  ·rw[if_pos h5]
   have h5e:zay (5:Int)=false:=by decide
   exact one x.k (by simp[offs,h5,h5e])
  rw[if_neg h5]
  by_cases hb:isBr x.op=true
  ·rw[if_pos hb]
   have hof:offs x=[x.jt.toNat,x.jf.toNat]:=by simp[offs,he',h5,hb]
   have k1:=zie hs n (a+1+x.jt.toNat) (m.set a true) (by omega) (ho _ (by rw[hof]; simp)) hl
   have k2:=zie hs n (a+1+x.jf.toNat) (zb9 f (a+1+x.jt.toNat) (m.set a true)) (by omega) (ho _ (by rw[hof]; simp)) (by rw[k1.len,hl])
   refine Mt.one hal hx (by rw[k2.len,k1.len]; simp) (fun i h=>k2.mono i (k1.mono i h)) (fun q h=>?_) (fun i y h1 h2 hy o ho=>?_) (fun i h1 h2=>?_)
   ·rw[hof] at h
    simp only[List.mem_cons,List.not_mem_nil,or_false] at h
    rcases h with rfl|rfl
    ·exact k2.mono _ k1.at'
    ·exact k2.at'
   ·by_cases hi:isT (zb9 f (a+1+x.jt.toNat) (m.set a true)) i
    ·exact k2.mono _ (k1.cls i y hi h2 hy o ho)
    ·exact k2.cls i y h1 hi hy o ho
   ·have ha':isT (zb9 f (a+1+x.jf.toNat) (zb9 f (a+1+x.jt.toNat) (m.set a true))) a:=k2.mono _ (k1.mono a ((zgN hal).2 (.inl rfl)))
    by_cases hi:isT (zb9 f (a+1+x.jt.toNat) (m.set a true)) i
    ·rcases k1.min i hi h2 with rfl|⟨j,y,o,g1,g2,g3,g4⟩
     ·exact⟨a,x,_,hx,ha',by rw[hof]; simp,rfl⟩
     ·exact⟨j,y,o,g1,k2.mono _ g2,g3,g4⟩
    ·rcases k2.min i h1 hi with rfl|h
     ·exact⟨a,x,_,hx,ha',by rw[hof]; simp,rfl⟩
     ·exact h
  ·rw[if_neg hb]
   have:=one 0 (by simp[offs,he',h5,hb])
   simpa using this
def metR(f:List In4):List Bool:=zb9 f 0 (List.replicate f.length false)
theorem zqU:∀{f:List In4} {m:List Bool},f.length=m.length→(∀ i x,isT m i→f[i]?=some x→∀ o∈offs x,isT m (i+1+o))→clsB f m
 | [],[],_,_=>trivial
 | [],_::_,h,_=>by simp at h
 | _::_,[],h,_=>by simp at h
 | x::f,b::m,h,hc=>by
  refine⟨fun hb o ho=>?_,zqU (by simpa using h) fun i y hi hy o ho=>?_⟩
  ·have:=hc 0 x (by rw[hb]; rfl) rfl o ho
   rw[show 0+1+o=o+1 by omega] at this
   exact this
  ·have:=hc (i+1) y hi (by simpa using hy) o ho
   rw[show i+1+1+o=(i+1+o)+1 by omega] at this
   exact this
theorem zl6{f:List In4}(hs:zap f=true):(metR f).length=f.length∧clsB f (metR f)∧(metR f)[0]?=some true∧MinM f (metR f):=by
 have h0:0<f.length:=by
  have:=zo0 hs
  cases f with
  | nil=>exact absurd rfl this
  | cons x f=>simp
 have k:=zie hs f.length 0 (List.replicate f.length false) (by omega) h0 (by simp)
 have no:∀ i,¬isT (List.replicate f.length false) i:=fun i h=>by
  have:=List.mem_of_getElem? h
  rw[List.mem_replicate] at this
  cases this.2
 have hl:(metR f).length=f.length:=by rw[metR,k.len]; simp
 refine⟨hl,zqU hl.symm fun i x hi hx=>k.cls i x hi (no i) hx,k.at',fun i hi hp=>?_⟩
 rcases k.min i hi (no i) with rfl|⟨j,x,o,h1,h2,h3,h4⟩
 ·omega
 ·exact⟨j,x,o,h1,h2,h3,h4⟩
def prune(f:List In4):List In4:=pruR f (metR f)
theorem zln{f:List In4}(hs:zap f=true):zap (prune f)=true∧(prune f).length≤f.length∧AllP (prune f)∧∀ d s,run d (prune f) s=run d f s:=by
 obtain⟨h1,h2,h3,h4⟩:=zl6 hs
 refine⟨zs2 hs h2 h3,?_,zuD h2 h4,fun d s=>zqz d _ f _ s (Nat.le_refl _) h2 h3⟩
 have:=List.countP_le_length (p:=id) (l:=metR f)
 rw[prune,zfI f _ h1.symm]; omega
theorem zl7{f:List In4}(hs:zap f=true)(ha:AllP f):prune f=f:=by
 obtain⟨h1,h2,h3,h4⟩:=zl6 hs
 exact zs9 hs h2 h3 ha
theorem zmP:∀{f:List In4} {m:List Bool} {y:In4},y∈pruR f m→∃ x∈f,y.op=x.op∧(y.k=x.k∨y.k≤x.k)
 | x::f,true::m,y,h=>by
  rw[pruR,List.mem_cons] at h
  rcases h with rfl|h
  ·refine⟨x,by simp,zhe m x,?_⟩
   unfold prX
   split
   ·exact .inr (zgL _ _)
   ·split<;>exact .inl rfl
  ·obtain⟨z,h1,h2⟩:=zmP h
   exact⟨z,by simp[h1],h2⟩
 | x::f,false::m,y,h=>by
  rw[pruR] at h
  obtain⟨z,h1,h2⟩:=zmP h
  exact⟨z,by simp[h1],h2⟩
 | [],_,_,h=>by simp[pruR] at h
 | _::_,[],_,h=>by simp[pruR] at h
end Go.Ev
/- What is come to: the walk, by a closure that calls itself. -/
namespace Go.Ev
open Go Go.RowKit
variable {G:Tbl}
def HM(f:List In4)(m:List Bool):Heap:=[some (.cells [FL f]),some (.cells (cb m)),some (.cells [.rs 1 0 f.length 1]),some (.cells [.fn 346 [.ptr 2 0,.ptr 0 0,.ptr 3 0]])]
theorem zws(f:List In4)(m:List Bool):zba (HM f m):=by
 intro n hn
 simp only[HM,List.length_cons,List.length_nil] at hn
 simp[HM,FL,Blk.cl,clL,V.cl,Tk.cl,show 0<n by omega,show 1<n by omega,show 2<n by omega,show 3<n by omega]
theorem zqV[HasIns G][HasPru G]{f:List In4}(hs:zap f=true)(hk:∀ x∈f,x.k<4294967296)(hf:f.length≤maxLen):∀(n a:Nat) (m:List Bool) (r:Heap),(∀ n,r.map (Option.map (Blk.cl n))=r)→f.length-a≤n→a<f.length→m.length=f.length →
  SF G 346 [.int .i64 a,.ptr 2 0,.ptr 0 0,.ptr 3 0] (HM f m++r) (.tup []) (HM f (zb9 f a m)++r)
 | 0,a,m,r,_,h1,h2,_=>by omega
 | n+1,a,m,r,hr,h1,h2,h3=>by
  refine zbx HasPru.h_prune_Met_1 (Nat.le_of_ble_eq_true rfl) ?_
  have nB:∀ m,(HM f m).length=4:=fun m=>rfl
  have g0:∀ m (s:Heap),(HM f m++s)[0]?=some (some (.cells [FL f])):=fun m s=>rfl
  have g1:∀ m (s:Heap),(HM f m++s)[1]?=some (some (.cells (cb m))):=fun m s=>rfl
  have g2:∀ m (s:Heap),(HM f m++s)[2]?=some (some (.cells [.rs 1 0 f.length 1])):=fun m s=>rfl
  have g3:∀ m (s:Heap),(HM f m++s)[3]?=some (some (.cells [.fn 346 [.ptr 2 0,.ptr 0 0,.ptr 3 0]])):=fun m s=>rfl
  have s1:∀ m m' (s:Heap),(HM f m++s).set 1 (some (.cells (cb m')))=HM f m'++s:=fun m m' s=>rfl
  have kk:∀ m (s:Heap),(HM f m++(r++s))[4+r.length]?=s[0]?:=fun m s=>by
   rw[←List.append_assoc]; exact apn0 (by simp[nB])
  have k0:∀ m (s:Heap) y,(HM f m++(r++s)).set (4+r.length) y=HM f m++(r++s.set 0 y):=fun m s y=>by
   rw[←List.append_assoc,zbT (by simp[nB]),List.append_assoc]
  have bk:∀ m (s:Heap),zad (4+r.length) (HM f m++(r++s))=HM f m++r:=fun m s=>by
   have:=((zws f m).app hr).back s
   rw[List.append_assoc,List.length_append,nB] at this
   exact this
  have l0:0<4+r.length:=by omega
  have l2:2<4+r.length:=by omega
  have l3:3<4+r.length:=by omega
  obtain⟨R,hR⟩:∃ R,R=zb9 f a m:=⟨_,rfl⟩
  rw[←hR]
  simp[nB]
  refine zgJ (S:=Nat×List Bool) (fun s=>f.length-s.1) (fun s=>[(0,.int .i64 s.1),(1,.ptr 2 0),(2,.ptr 0 0),(3,.ptr 3 0)]) (fun s=>HM f s.2++r) (fun s=>zb9 f s.1 s.2=R∧s.1<f.length∧s.2.length=f.length∧a≤s.1) (a,m) ?_ ?_
  ·have:=bk m []
   simp at this
   simp[zaa,nB,this,hR,h2,h3,l0,l2,l3]
  rintro⟨b,u⟩ ⟨hm,hb,hu,hab⟩
  simp only at hm hb hu hab ⊢
  have hx:f[b]?=some f[b]:=List.getElem?_eq_getElem hb
  have ho:=fun o h=>zcW (o:=o) hs hx h
  have hbo:=ziM hs hx
  obtain⟨x,hxe⟩:∃ x,x=f[b]:=⟨_,rfl⟩
  rw[←hxe] at hx ho hbo
  have hxl:x.cs.length=4:=rfl
  have hxt:x.cs.take 4=x.cs:=rfl
  have hgg:=zbg hb
  rw[←hxe] at hgg
  have hub:u[b]?=some u[b]:=List.getElem?_eq_getElem (by omega)
  obtain⟨t,ht⟩:∃ t,t=u[b]'(by omega):=⟨_,rfl⟩
  rw[←ht] at hub
  have hbu:=zxi u b t hub
  have hset:=zlR u b true (by omega)
  rw[zb9,dif_pos hb,←hxe] at hm
  have hgd:u.getD b false=t:=by rw[List.getD_eq_getElem?_getD,hub]; rfl
  rw[hgd] at hm
  have bu:=bk u []
  simp at bu
  have l5:=hf
  simp only[maxLen] at l5
  cases t with
  | true =>
   rw[if_pos rfl] at hm
   subst hm
   simp(disch:=omega)[nB,g0,g1,g2,g3,hbu,leTn,ltTn,bu]
  | false =>
   rw[if_neg (by simp)] at hm
   simp(disch:=omega)[nB,g0,g1,g2,g3,hbu,leTn,ltTn,hset,s1,FL,hgg,hxl,hxt,kk,k0]
   refine zab (zic x) ?_
   have x0:(x.cs.drop 0).take 1=[.int .i64 x.op]:=rfl
   have x1:x.cs.tail.take 1=[.int .i64 x.jt]:=rfl
   have x2:(x.cs.drop 2).take 1=[.int .i64 x.jf]:=rfl
   have x3:(x.cs.drop 3).take 1=[.int .u32 (x.k:Int)]:=rfl
   have x0':x.cs.take 1=[.int .i64 x.op]:=rfl
   have kx:∀ n,clL n x.cs=x.cs:=fun n=>by simp[In4.cs,clL,V.cl]
   have hxk:x.k<4294967296:=hk x (by rw[hxe]; exact List.getElem_mem hb)
   have hul:(u.set b true).length=f.length:=by simp[hu]
   obtain⟨U,hU⟩:∃ U,U=u.set b true:=⟨_,rfl⟩
   rw[←hU] at hm hul ⊢
   by_cases he:zay x.op=true
   ·rw[if_pos he] at hm
    subst hm
    simp[he,bk]
   rw[if_neg he] at hm
   have he':zay x.op=false:=by simpa using he
   have nx1:∀{c:Nat},b<c→c<f.length→f.length-c<f.length-b:=fun h1 h2=>by omega
   by_cases h5:x.op=5
   ·rw[if_pos h5] at hm
    have h5e:zay (5:Int)=false:=by decide
    have hlt:=ho x.k (by simp[offs,h5,h5e])
    have c1:za4 .i64 (x.k:Int)=(x.k:Int):=by rw[zfL]<;>omega
    have a1:addI .i64 (b:Int) (x.k:Int)=((b+x.k:Nat):Int):=by rw[zaE]<;>omega
    have a2:addI .i64 ((b+x.k:Nat):Int) 1=((b+1+x.k:Nat):Int):=by rw[zaE]<;>omega
    simp(disch:=omega)[he',h5,h5e,kk,x0,x0',x3,hxl,c1,a1,a2,zaa,nB,bk,hm,hlt,hul,l0,l2,l3,-Int.natCast_add]
    exact⟨(b+1+x.k,U),nx1 (by omega) hlt,⟨hm,hlt,hul,by simp only; omega⟩,by simp[zaa,nB,l0,l2,l3,-Int.natCast_add],bk U _⟩
   rw[if_neg h5] at hm
   by_cases hbr:isBr x.op=true
   ·rw[if_pos hbr] at hm
    obtain⟨b1,b2,b3,b4⟩:=hbo hbr
    have hof:offs x=[x.jt.toNat,x.jf.toNat]:=by simp[offs,he',h5,hbr]
    have hlt1:=ho x.jt.toNat (by rw[hof]; simp)
    have hlt2:=ho x.jf.toNat (by rw[hof]; simp)
    have a0:addI .i64 (b:Int) 1=((b+1:Nat):Int):=by rw[zaE]<;>omega
    have a1:addI .i64 ((b+1:Nat):Int) x.jt=((b+1+x.jt.toNat:Nat):Int):=by rw[zaE]<;>omega
    have a2:addI .i64 (b:Int) x.jf=((b+x.jf.toNat:Nat):Int):=by rw[zaE]<;>omega
    have a3:addI .i64 ((b+x.jf.toNat:Nat):Int) 1=((b+1+x.jf.toNat:Nat):Int):=by rw[zaE]<;>omega
    have h5b:=beqF h5
    have ih:=zqV hs hk hf n (b+1+x.jt.toNat) U (r++[some (.cells x.cs)]) (fun n=>by simp[hr,Blk.cl,kx]) (by omega) hlt1 hul
    have k:=zie hs n (b+1+x.jt.toNat) U (by omega) hlt1 hul
    simp(disch:=omega)[he',h5b,kk,x0,x0',hxl,hxt,zaa,nB,l0,l2,l3,-Int.natCast_add]
    refine zab (zcc x) ?_
    simp(disch:=omega)[hbr,kk,x1,g3,a0,a1,hxl,nB,zaa,l0,l2,l3,-Int.natCast_add]
    refine zeB (args:=[.int .i64 ((b+1+x.jt.toNat:Nat):Int)]) (cap:=[.ptr 2 0,.ptr 0 0,.ptr 3 0]) ih ?_
    simp(disch:=omega)[kk,x2,a2,a3,hxl,nB,zaa,l0,l2,l3,-Int.natCast_add]
    exact⟨(b+1+x.jf.toNat,zb9 f (b+1+x.jt.toNat) U),nx1 (by omega) hlt2,⟨hm,hlt2,by simp only[k.len,hul],by simp only; omega⟩,by simp[zaa,nB,l0,l2,l3,-Int.natCast_add],bk _ _⟩
   ·rw[if_neg hbr] at hm
    have hbr':isBr x.op=false:=by simpa using hbr
    have hlt:=ho 0 (by simp[offs,he',h5,hbr'])
    have h5b:=beqF h5
    have a0:addI .i64 (b:Int) 1=((b+1:Nat):Int):=by rw[zaE]<;>omega
    simp(disch:=omega)[he',h5b,kk,x0,x0',hxl,hxt,zaa,nB,l0,l2,l3,-Int.natCast_add]
    refine zab (zcc x) ?_
    simp(disch:=omega)[hbr',kk,a0,hxl,nB,zaa,l0,l2,l3,-Int.natCast_add]
    exact⟨(b+1,U),nx1 (by omega) hlt,⟨hm,hlt,hul,by simp only; omega⟩,by simp[zaa,nB,l0,l2,l3,-Int.natCast_add],bk U _⟩
end Go.Ev
/- What is come to: the whole. -/
namespace Go.Ev
open Go Go.RowKit
variable {G:Tbl}
theorem zxx[HasIns G][HasCheck G][HasPru G]{f:List In4}(hs:zap f=true)(hk:∀ x∈f,x.k<4294967296)(hf:f.length≤4096) :
  FP G 347 [FL f] (.tup [.vs (zbi (metR f)) .no,.int .i64 0]):=by
 refine zak HasPru.h_prune_Met (Nat.le_of_ble_eq_true rfl) ?_
 have hm:f.length≤maxLen:=Nat.le_trans hf (by decide)
 have hso:=zgO (G:=G) f hm hk
 rw[hs] at hso
 simp[FL]
 refine zab hso ?_
 have h0:0<f.length:=by
  have:=zo0 hs
  cases f with
  | nil=>exact absurd rfl this
  | cons x f=>simp
 have k:=zqV (G:=G) hs hk hm f.length 0 (List.replicate f.length false) [] (fun n=>rfl) (by omega) h0 (by simp)
 simp(disch:=omega)[FL,zaa,leTn]
 refine zeB (args:=[.int .i64 ((0:Nat):Int)]) (cap:=[.ptr 2 0,.ptr 0 0,.ptr 3 0]) k ?_
 have hl:(metR f).length=f.length:=(zl6 hs).1
 have hc:=zjM (metR f)
 rw[hl] at hc
 rw[show zb9 f 0 (List.replicate f.length false)=metR f from rfl]
 simp[HM,hl,hc]
end Go.Ev
/- A filter without what is never come to: the code. -/
namespace Go.Ev
open Go Go.RowKit
variable {G:Tbl}
theorem zkB{m:List Bool}{i:Nat}{t:Bool}(h:m[i]?=some t):cntB m (i+1)=cntB m i+(if t=true then 1 else 0):=by
 rw[cntB,cntB,List.take_add_one,h,Option.toList_some,List.countP_append]
 cases t<;>simp
theorem zwt{m:List Bool}{i:Nat}(h:m[i]?=some true)(o:Nat):cntB m (i+1+o)=cntB m i+1+cntB (m.drop (i+1)) o:=by
 rw[zli,zkB h]; simp
def outP(f:List In4)(m:List Bool)(i:Nat):List In4:=(pruR f m).take (cntB m i)
theorem zwu{f:List In4}{m:List Bool}{i:Nat}(h:m[i]?=some false):outP f m (i+1)=outP f m i:=by
 rw[outP,outP,zkB h]; rfl
theorem zuV{f:List In4}{m:List Bool}{i:Nat}{x:In4}(hl:f.length=m.length)(hx:f[i]?=some x)(h:m[i]?=some true):outP f m (i+1)=outP f m i++[prX (m.drop (i+1)) x]:=by
 have h1:=ziQ f m i hl
 obtain⟨hf,rfl⟩:=List.getElem?_eq_some_iff.1 hx
 obtain⟨hm,e⟩:=List.getElem?_eq_some_iff.1 h
 rw[List.drop_eq_getElem_cons hf,List.drop_eq_getElem_cons hm,e,pruR] at h1
 have h2:(pruR f m)[cntB m i]?=some (prX (m.drop (i+1)) f[i]):=by
  rw[←List.head?_drop,h1]; rfl
 rw[outP,outP,zkB h,if_pos rfl,List.take_add_one,h2]; rfl
theorem zuW{f:List In4}{m:List Bool}(hl:f.length=m.length):outP f m f.length=pruR f m:=by
 rw[outP,List.take_of_length_le]
 rw[zfI f m hl,hl,cntB,List.take_length]; exact Nat.le_refl _
theorem zuX(f:List In4)(m:List Bool)(i:Nat):(outP f m i).length≤i:=by
 rw[outP,List.length_take]
 have:=zgL m i
 omega
def nowP(m:List Bool)(i:Nat):List Nat:=(List.range m.length).map fun j=>if j<i then cntB m j else 0
theorem zps(m:List Bool)(i:Nat):(nowP m i).length=m.length:=by simp[nowP]
theorem zuY{m:List Bool}{i:Nat}(h:i<m.length):(nowP m i).set i (cntB m i)=nowP m (i+1):=by
 apply List.ext_getElem
 ·simp[nowP]
 intro j h1 h2
 simp only[nowP,List.length_set,List.length_map,List.length_range] at h1 h2
 rw[List.getElem_set]
 simp only[nowP,List.getElem_map,List.getElem_range]
 by_cases e:i=j
 ·subst e; simp
 ·rw[if_neg e]
  by_cases h3:j<i
  ·rw[if_pos h3,if_pos (by omega)]
  ·rw[if_neg h3,if_neg (by omega)]
theorem zpt{m:List Bool}{j:Nat}(h:j<m.length):(nowP m m.length)[j]?=some (cntB m j):=by
 rw[nowP,List.getElem?_map,List.getElem?_range h]
 simp[h]
theorem zxy[HasPru G]{m:List Bool}{i o:Nat}(hm:m.length≤4096)(hi:m[i]?=some true)(ho:i+1+o<m.length)(z:Blk)(y:List V) :
  Big G (.F 348 [.int .i64 i,.int .i64 o,.ptr 1 0] [some (.cells (zac .i64 (nowP m m.length))),some (.cells [.rs 0 0 m.length 1]),some z,some (.cells y)] (.int .i64 (cntB (m.drop (i+1)) o:Nat))
   [some (.cells (zac .i64 (nowP m m.length))),some (.cells [.rs 0 0 m.length 1]),some z,some (.cells y)]):=by
 refine F_of HasPru.h_prune_Prune_1 (Nat.le_of_ble_eq_true rfl) ?_
 have a1:addI .i64 (i:Int) 1=((i+1:Nat):Int):=zag (by omega)
 have a2:addI .i64 ((i+1:Nat):Int) (o:Int)=((i+1+o:Nat):Int):=addN (by omega)
 have l1:=zgL m (i+1+o)
 have e1:=zwt hi o
 have r1:=zdF .i64 (zpt (m:=m) (j:=i+1+o) ho)
 have r2:=zdF .i64 (zpt (m:=m) (j:=i) (by omega))
 have s1:subI .i64 (cntB m (i+1+o):Int) (cntB m i:Int)=((cntB m (i+1+o)-cntB m i:Nat):Int):=by rw[zct]<;>omega
 have s2:subI .i64 ((cntB m (i+1+o)-cntB m i:Nat):Int) 1=((cntB (m.drop (i+1)) o:Nat):Int):=by rw[zct]<;>omega
 obtain⟨N,hN⟩:∃ N,N=nowP m m.length:=⟨_,rfl⟩
 have hNl:N.length=m.length:=by rw[hN,zps]
 rw[←hN] at r1 r2 ⊢
 simp(disch:=omega)[a1,a2,r1,r2,s1,s2,ltTn,leTn,hNl,-Int.natCast_add]
end Go.Ev
/- A filter without what is never come to: the whole. -/
namespace Go.Ev
open Go Go.RowKit
variable {G:Tbl}
theorem zxz{o:Int}(h:isBr o=true):zay o=false:=by
 cases e:zay o with
 | false=>rfl
 | true =>
  simp only[zay,Bool.or_eq_true,beq_iff_eq,decide_eq_true_eq] at e
  rcases e with e|e<;>(rw[e] at h; revert h; decide)
theorem zuZ[HasIns G][HasCheck G][HasPru G]{f:List In4}(hs:zap f=true)(hk:∀ x∈f,x.k<4294967296)(hf:f.length≤4096) :
  FP G 349 [FL f] (.tup [.vs (IL (prune f)) .no,.int .i64 0]):=by
 refine zak HasPru.h_prune_Prune (Nat.le_of_ble_eq_true rfl) ?_
 obtain⟨hml,hcl,h00,_⟩:=zl6 hs
 simp[FL]
 refine zab (zxx hs hk hf) ?_
 obtain⟨m,hm⟩:∃ m,m=metR f:=⟨_,rfl⟩
 have hpr:prune f=pruR f m:=by rw[prune,hm]
 rw[←hm] at hml hcl h00 ⊢
 have hl:f.length=m.length:=hml.symm
 have hm4:m.length≤4096:=by omega
 have hbl:(zbi m).length=m.length:=by simp[zbi]
 simp(disch:=omega)[FL,leTn,hbl]
 obtain⟨N,hN⟩:∃ N:Nat→List Nat,∀ j,N j=nowP m j:=⟨_,fun _=>rfl⟩
 have hNl:∀ j,(N j).length=m.length:=fun j=>by rw[hN,zps]
 have hN0:zae m.length=N 0:=by
  rw[hN,nowP,zae]
  apply List.ext_getElem<;>simp
 refine W_up m.length (fun i=>[(0,FL f),(4,.vs (zbi m) .no),(6,.ptr 1 0),(7,.int .i64 (cntB m i:Nat)),(25,.vs (zbi m) .no),(26,.int .i64 m.length),(27,.int .i64 i)])
  (fun i=>[some (.cells (zac .i64 (N i))),some (.cells [.rs 0 0 m.length 1])]) (fun _=>True) ?_ ?_
 ·simp[zaa,zad,FL,hN0,hl,zdA]
 intro i hi _
 by_cases hlt:i<m.length
 ·obtain⟨t,ht⟩:∃ t,t=m[i]:=⟨_,rfl⟩
  have hg:m[i]?=some t:=by rw[List.getElem?_eq_getElem hlt,ht]
  have hbg:(zbi m)[i]?=some [.bool t]:=by simp[hg]
  have hbe:(zbi m)[i]'(by omega)=[.bool t]:=by simp[zbi,ht]
  have hst:=zbq .i64 (N i) i (cntB m i) (by rw[hNl]; exact hlt)
  rw[hN i,zuY hlt,←hN (i+1),←hN i] at hst
  have hc:=zkB hg
  have hle:=zgL m i
  have a1:addI .i64 (cntB m i:Int) 1=((cntB m i+1:Nat):Int):=zag (by omega)
  cases t with
  | true =>
   simp(disch:=omega)[ltT,leTn,ltTn,hbg,hbe,hst,hNl,hlt,zag,a1,hc,zaa,zad,FL,-Int.natCast_add]
  | false =>
   simp(disch:=omega)[ltT,leTn,ltTn,hbg,hbe,hst,hNl,hlt,zag,hc,zaa,zad,FL,-Int.natCast_add]
 have hne:i=m.length:=by omega
 subst hne
 obtain⟨T,hT⟩:∃ T:Nat→List In4,∀ j,T j=outP f m j:=⟨_,fun _=>rfl⟩
 have hT0:T 0=[]:=by rw[hT,outP,zdA,List.take_zero]
 have hTL:∀ j,(T j).length≤j:=fun j=>by rw[hT]; exact zuX f m j
 simp(disch:=omega)[zaa,zad,FL,-Int.natCast_add]
 refine W_up m.length (fun i=>[(4,.vs (zbi m) .no),(10,.fn 348 [.ptr 1 0]),(11,.vs (IL (T i)) (.own 2)),(41,FL f),(42,.int .i64 m.length),(43,.int .i64 i)])
  (fun i=>[some (.cells (zac .i64 (N m.length))),some (.cells [.rs 0 0 m.length 1]),some (.zone (T i).length)]) (fun _=>True) ?_ ?_
 ·simp[zaa,zad,FL,hT0,hl]
 intro i hi _
 by_cases hlt:i<m.length
 ·obtain⟨t,ht⟩:∃ t,t=m[i]:=⟨_,rfl⟩
  have hg:m[i]?=some t:=by rw[List.getElem?_eq_getElem hlt,ht]
  have hbe:(zbi m)[i]'(by omega)=[.bool t]:=by simp[zbi,ht]
  obtain⟨x,hfx⟩:∃ x,x=f[i]'(by omega):=⟨_,rfl⟩
  have hgg:=zbg (f:=f) (i:=i) (by omega)
  rw[←hfx] at hgg
  have hfx:=hfx.symm
  have hgx:f[i]?=some x:=by rw[List.getElem?_eq_getElem (by omega),hfx]
  have hxm:x∈f:=hfx▸List.getElem_mem _
  have hkk:=hk x hxm
  have hbo:=ziM hs hgx
  have ho:=fun o h=>zcW (o:=o) hs hgx h
  have hcs:x.cs=[.int .i64 x.op,.int .i64 x.jt,.int .i64 x.jf,.int .u32 (x.k:Int)]:=rfl
  have hbr:=zcc (G:=G) x
  simp[IV,hcs] at hbr
  have hTl:=hTL i
  cases t with
  | false =>
   have hTe:T (i+1)=T i:=by rw[hT,hT]; exact zwu hg
   simp(disch:=omega)[ltT,leTn,ltTn,hbe,hgg,hfx,hcs,hTe,hlt,zag,zaa,zad,FL,-Int.natCast_add]
  | true =>
   have hTs:T (i+1)=T i++[prX (m.drop (i+1)) x]:=by rw[hT,hT]; exact zuV hl hgx hg
   have hTl2:(T (i+1)).length=(T i).length+1:=by rw[hTs]; simp
   have hsn:∀ y:In4,y=prX (m.drop (i+1)) x→IL (T i)++[y.cs]=IL (T (i+1)):=fun y hy=>by rw[hTs,hy]; exact zmK _ _
   have hov:∀ o:Nat,i+1+o<m.length→_:=fun o h=>zxy (G:=G) hm4 hg h (.zone (T i).length) x.cs
   rw[←hN] at hov
   by_cases h5:x.op=5
   ·have b5:(x.op==5)=true:=by simp[h5]
    have h5e:zay (5:Int)=false:=by decide
    have hc:=zfL x.k hkk
    have hlk:i+1+x.k<m.length:=by
     have:=ho x.k (by simp[offs,h5,h5e])
     omega
    have hv:=hov x.k hlk
    have hle:=zgL (m.drop (i+1)) x.k
    have hc2:za4 .u32 ((cntB (m.drop (i+1)) x.k:Nat):Int)=((cntB (m.drop (i+1)) x.k:Nat):Int):=by unfold za4; exact za9 (by omega)
    have hap:=hsn ⟨x.op,x.jt,x.jf,cntB (m.drop (i+1)) x.k⟩ (by simp[prX,h5])
    simp only[In4.cs] at hv hap
    obtain⟨q,hq⟩:∃ q,q=cntB (m.drop (i+1)) x.k:=⟨_,rfl⟩
    rw[←hq] at hv hap hc2 hle
    simp(disch:=omega)[ltT,leTn,ltTn,hbe,hgg,hfx,hcs,b5,hc,FL,-Int.natCast_add]
    refine zaG hv (by simp) ?_
    simp(disch:=omega)[zad,hc2,leTn,hap,hTl2,hlt,zag,zaa,-Int.natCast_add]
   have b5:(x.op==5)=false:=beqF h5
   simp(disch:=omega)[ltT,leTn,ltTn,hbe,hgg,hfx,hcs,b5,FL,-Int.natCast_add]
   refine zab hbr ?_
   cases hbx:isBr x.op
   ·have hap:=hsn x (by simp[prX,h5,hbx])
    simp only[In4.cs] at hap
    simp(disch:=omega)[leTn,hap,hTl2,hlt,zag,zaa,zad,-Int.natCast_add]
   ·obtain⟨b1,b2,b3,b4⟩:=hbo hbx
    have he':zay x.op=false:=zxz hbx
    have hof:offs x=[x.jt.toNat,x.jf.toNat]:=by simp[offs,he',h5,hbx]
    have hl1:=ho x.jt.toNat (by rw[hof]; simp)
    have hl2:=ho x.jf.toNat (by rw[hof]; simp)
    have hv:=hov x.jt.toNat (by omega)
    have hv2:=hov x.jf.toNat (by omega)
    have hap:=hsn ⟨x.op,(cntB (m.drop (i+1)) x.jt.toNat:Nat),(cntB (m.drop (i+1)) x.jf.toNat:Nat),x.k⟩ (by simp[prX,h5,hbx])
    have j1:((x.jt.toNat:Nat):Int)=x.jt:=by omega
    have j2:((x.jf.toNat:Nat):Int)=x.jf:=by omega
    simp only[In4.cs,j1,j2] at hv hv2 hap
    obtain⟨q,hq⟩:∃ q,q=cntB (m.drop (i+1)) x.jt.toNat:=⟨_,rfl⟩
    obtain⟨q2,hq2⟩:∃ q,q=cntB (m.drop (i+1)) x.jf.toNat:=⟨_,rfl⟩
    rw[←hq] at hv hap
    rw[←hq2] at hv2 hap
    simp
    refine zaG hv (by simp[zad]) ?_
    simp[zad]
    refine zaG hv2 (by simp[zad]) ?_
    simp(disch:=omega)[zad,leTn,hap,hTl2,hlt,zag,zaa,-Int.natCast_add]
 ·have hne:i=m.length:=by omega
  subst hne
  have hTe:T m.length=prune f:=by rw[hT,←hl,zuW hl,hpr]
  simp[hTe]
end Go.Ev
/- Filters made shorter: all rounds. -/
namespace Go.Ev
open Go Go.RowKit
variable {G:Tbl}
noncomputable def optR(f:List In4)(t:List TR)(rnds tries most:Int):(List In4×List TR)×Nat×Bool :=
 zaU (zaS tries 0 1000) (zaS most 0 32) (zaS rnds 0 1000).toNat (prune f) (goodT t)
theorem zj1(t:List TR):tblB (goodT t)=true:=by
 unfold goodT
 split
 ·assumption
 ·rfl
theorem ziY{t:List TR}(h:tblB t=true)(hk:TblK t):zrC t:=by
 refine⟨by have:=(zgM h).2; omega,fun r hr=>?_⟩
 have hm:r.may=true:=by
  simp only[tblB,Bool.and_eq_true] at h
  exact List.all_eq_true.1 h.1.1 r hr
 obtain⟨h1,h2⟩:=zeE hm
 obtain⟨k1,k2,k3⟩:=hk r hr
 exact⟨Nat.le_trans h1 (by decide),Nat.le_trans h2 (by decide),k1,k2,k3⟩
theorem zqW{f:List In4}(hk:∀ x∈f,x.k<4294967296):∀ x∈prune f,x.k<4294967296:=by
 intro x hx
 obtain⟨y,h1,_,h2⟩:=zmP hx
 have:=hk y h1
 omega
theorem zfU[HasWd G][HasNeg G][HasIns G][HasCheck G][HasData G][HasWith G][HasStep G][HasWRight G][HasWinRun G][HasWinAsg G][HasWinState G][HasWinOf G][HasAffApart G][HasAffine G][hBA:HasBitsA G][HasSymNew G][HasSym G][HasSymEval G][HasSymApart G][HasDecDf G][HasDec G][HasSrcN G][HasSrcL G][HasSrcC G][HasSrcF G][HasTells G][HasLive G][HasSpl G][HasEnc G][HasTbl G][HasPru G][HasOpt G]
  (f:List In4) (t:List TR) (rnds tries most:Int) (hs:zap f=true) (hk:∀ x∈f,x.k<4294967296) (ht:zrC t) (htk:TblK (goodT t)) :
  FP G 365 [FL f,TF t,.agg [.int .i64 rnds,.int .i64 tries,.int .i64 most]] (.tup [.agg (ResC (optR f t rnds tries most).1.1 (optR f t rnds tries most).1.2 (optR f t rnds tries most).2.1 (optR f t rnds tries most).2.2),.int .i64 0]):=by
 refine zak HasOpt.h_opt_Optimize (Nat.le_of_ble_eq_true rfl) ?_
 have hL4:=ze9 hs
 have hpr:=zuZ (G:=G) hs hk hL4
 obtain⟨p1,p2,_,_⟩:=zln hs
 have p3:=zqW hk
 have hfa:=zuU (G:=G) rnds tries most
 have hgd:=zwr (G:=G) t ht.1 ht.2
 have g1:=zj1 t
 obtain⟨tr,htr⟩:∃ tr,tr=zaS tries 0 1000:=⟨_,rfl⟩
 obtain⟨mo,hmo⟩:∃ mo,mo=zaS most 0 32:=⟨_,rfl⟩
 have hmo':0≤mo∧mo≤32:=by rw[hmo]; unfold zaS; omega
 obtain⟨R,hR⟩:∃ R:Nat,zaS rnds 0 1000=R:=⟨(zaS rnds 0 1000).toNat,by unfold zaS; omega⟩
 have hR1:R≤1000:=by
  have:zaS rnds 0 1000≤1000:=by unfold zaS; omega
  omega
 rw[optR,←htr,←hmo,hR,Int.toNat_natCast]
 rw[←htr,←hmo,hR] at hfa
 generalize prune f=F at *
 generalize goodT t=T at *
 obtain⟨Q,hQ⟩:∃ Q,Q=zaU tr mo R F T:=⟨_,rfl⟩
 rw[←hQ]
 simp only[FL,TF] at hpr hgd
 simp[FL,TF]
 refine zab hpr ?_
 simp
 refine zab hfa ?_
 simp
 refine zab hgd ?_
 simp[zaa]
 refine zgJ (S:=Nat×List In4×List TR) (fun s=>R-s.1) (fun s=>[(5,.ptr 0 0),(6,.ptr 1 0),(9,.ptr 2 0),(27,.int .i64 R),(28,.int .i64 s.1)])
  (fun s=>[some (.cells [.int .i64 R,.int .i64 tr,.int .i64 mo]),some (.cells [.vs [] .full,.vs [] .full,.int .i64 0,.bool false]),some (.cells (ResC s.2.1 s.2.2 s.1 false))])
  (fun s=>s.1≤R∧(zaU tr mo (R-s.1) s.2.1 s.2.2).1=Q.1∧s.1+(zaU tr mo (R-s.1) s.2.1 s.2.2).2.1=Q.2.1∧(zaU tr mo (R-s.1) s.2.1 s.2.2).2.2=Q.2.2∧zap s.2.1=true∧(∀ x∈s.2.1,x.k<4294967296)∧TblK s.2.2∧tblB s.2.2=true) (0,F,T) ?_ ?_
 ·simp[zaa,zad,ResC,FL,TF,hQ,p1,htk,g1]
  exact p3
 rintro⟨i,f',t'⟩ ⟨hi,q1,q2,q3,s1,s2,s3,s4⟩
 simp only at hi q1 q2 q3 s1 s2 s3 s4 ⊢
 have hrd:=zrD (G:=G) f' t' R tr mo s1 s2 (ziY s4 s3) hmo'
 simp only[FL,TF] at hrd
 by_cases hlt:i<R
 ·obtain⟨k,hk'⟩:∃ k,R-i=k+1:=⟨R-i-1,by omega⟩
  rw[hk',zaU] at q1 q2 q3
  have hlt':((i:Int)<(R:Int))=True:=eq_true (by omega)
  simp[hlt',ResC,FL,TF]
  refine zab hrd ?_
  cases hro:roundR f' t' tr mo with
  | none =>
   rw[hro] at q1 q2 q3
   simp only at q1 q2 q3
   simp[rndV,ResC,FL,TF,←q1,←q2,←q3]
  | some q =>
   rw[hro] at q1 q2 q3
   simp only at q1 q2 q3
   have kk:=zpf s1 s2 s3 hro
   simp[rndV,ResC,FL,TF]
   have a1:addI .i64 (i:Int) 1=((i+1:Nat):Int):=zag (by omega)
   have hRk:R-(i+1)=k:=by omega
   refine⟨(i+1,q.1,q.2),by simp only; omega,⟨by simp only; omega,by simp only[hRk]; exact q1,by simp only[hRk]; omega,by simp only[hRk]; exact q3,kk.sound,kk.k,kk.tk,(kk.tbl s4).1⟩,?_,?_⟩
   ·rw[a1]; simp[zaa,-Int.natCast_add]
   ·rw[a1]; simp[zad,-Int.natCast_add]
 ·have hne:i=R:=by omega
  subst hne
  rw[Nat.sub_self,zaU] at q1 q2 q3
  simp only at q1 q2 q3
  simp[ResC,FL,TF,←q1,←q2,←q3]
end Go.Ev
/- Layer 24: the smaller functions of its statements. -/
namespace Go.Ev
open Go Go.RowKit
variable {G:Tbl}
def zeF(t:List TR):Bool:=t.any (fun r=>decide (100<r.fr.length)||decide (100<r.to.length))||decide (100<t.length)
theorem zrE[HasL21 G](t:List TR)(hl:t.length≤maxLen)(hk:∀ r∈t,r.fr.length≤maxLen∧r.to.length≤maxLen):FP G 375 [TF t] (.bool (zeF t)):=by
 refine zak HasL21.h_hurdlelaw21_Great (Nat.le_of_ble_eq_true rfl) ?_
 have hm:=hl
 simp only[maxLen] at hm
 simp[TF]
 refine W_up t.length (fun i=>[(0,TF t),(3,.int .i64 i)]) (fun _=>[]) (fun i=>∀ j<i,∀ r,t[j]?=some r→(decide (100<r.fr.length)||decide (100<r.to.length))=false) ?_ ?_
 ·simp[zaa,zad,TF]
 intro i hi hP
 by_cases hlt:i<t.length
 ·obtain⟨x,hfx⟩:∃ x,x=t[i]:=⟨_,rfl⟩
  have hg:t[i]?=some x:=by rw[hfx]; exact List.getElem?_eq_getElem hlt
  have hgg:=zcZ hg
  have hte:(TL t)[i]'(by simpa using hlt)=x.cs:=by simp[TL,hfx]
  have hlt':((i:Int)<(t.length:Int))=True:=eq_true (by omega)
  have yes:(decide (100<x.fr.length)||decide (100<x.to.length))=true→zeF t=true:=fun h=>by
   rw[zeF,List.any_eq_true.2 ⟨x,List.mem_of_getElem? hg,h⟩]; rfl
  have next:(decide (100<x.fr.length)||decide (100<x.to.length))=false→∀ j<i+1,∀ r,t[j]?=some r→(decide (100<r.fr.length)||decide (100<r.to.length))=false:=fun hx j hj r hr=>by
   rcases Nat.lt_succ_iff_lt_or_eq.1 hj with h|rfl
   ·exact hP j h r hr
   ·rw[hg] at hr; cases hr; exact hx
  by_cases c1:100<x.fr.length
  ·have c1':((100:Int)<(x.fr.length:Int))=True:=eq_true (by omega)
   have hy:=yes (by simp[c1])
   simp(disch:=omega)[TF,hlt',hgg,hte,TR.cs,c1',hy]
  ·have c1':((100:Int)<(x.fr.length:Int))=False:=eq_false (by omega)
   by_cases c2:100<x.to.length
   ·have c2':((100:Int)<(x.to.length:Int))=True:=eq_true (by omega)
    have hy:=yes (by simp[c2])
    simp(disch:=omega)[TF,hlt',hgg,hte,TR.cs,c1',c2',hy]
   ·have c2':((100:Int)<(x.to.length:Int))=False:=eq_false (by omega)
    have hn:=next (by simp[c1,c2])
    simp(disch:=omega)[TF,hlt',hgg,hte,TR.cs,c1',c2',hlt,zag,zaa,zad,-Int.natCast_add]
    intro j hj r hr
    have:=hn j hj r hr
    simp only[Bool.or_eq_false_iff,decide_eq_false_iff_not] at this
    omega
 ·have hne:i=t.length:=by omega
  subst hne
  have hany:t.any (fun r=>decide (100<r.fr.length)||decide (100<r.to.length))=false:=by
   rw[List.any_eq_false]
   intro r hr
   obtain⟨j,hj⟩:=List.getElem?_of_mem hr
   rw[hP j (List.getElem?_eq_some_iff.1 hj).1 r hj]
   simp
  by_cases c:100<t.length
  ·have c':((100:Int)<(t.length:Int))=True:=eq_true (by omega)
   simp[TF,zeF,hany,c,c']
  ·have c':((100:Int)<(t.length:Int))=False:=eq_false (by omega)
   simp[TF,zeF,hany,c,c']
def zc3(f:List In4)(t:List TR)(a b c:Int):Bool:=decide (60<f.length)||zeF t||decide (8<a)||decide (40<b)||decide (5<c)
theorem zl8[HasL21 G][HasL24k G](f:List In4)(t:List TR)(a b c:Int)(hl:t.length≤maxLen)(hk:∀ r∈t,r.fr.length≤maxLen∧r.to.length≤maxLen) :
  FP G 378 [FL f,TF t,.agg [.int .i64 a,.int .i64 b,.int .i64 c]] (.bool (zc3 f t a b c)):=by
 refine zak HasL24k.h_hurdlelaw24_Great (Nat.le_of_ble_eq_true rfl) ?_
 have hg:=zrE (G:=G) t hl hk
 simp only[TF] at hg
 by_cases c1:60<f.length
 ·have c1':((60:Int)<(f.length:Int))=True:=eq_true (by omega)
  simp[FL,TF,c1,c1',zc3]
 ·have c1':((60:Int)<(f.length:Int))=False:=eq_false (by omega)
  simp[FL,TF,c1']
  refine zab hg ?_
  cases h2:zeF t with
  | true=>simp[zc3,c1,h2]
  | false =>
   by_cases c3:8<a
   ·simp[zc3,c1,h2,c3]
   ·by_cases c4:40<b
    ·simp[zc3,c1,h2,c3,c4]
    ·by_cases c5:5<c<;>simp[zc3,c1,h2,c3,c4,c5]
end Go.Ev
/- Layer 24: the law OptMeans. -/
namespace Go.Ev
open Go Go.RowKit
variable {G:Tbl}
theorem zif{t:List TR}(h:∀ r∈t,r.ok):TblK t:=fun r hr=>⟨(h r hr).2.2.1,(h r hr).2.2.2.1,(h r hr).2.2.2.2⟩
theorem zf5{t:List TR}(h:TblK t):TblK (goodT t):=by
 unfold goodT
 split
 ·exact h
 ·intro r hr; cases hr
theorem znI{f:List In4}{t:List TR}{a b c:Int}(h:zc3 f t a b c=false):f.length≤60∧t.length≤100∧∀ r∈t,r.fr.length≤100∧r.to.length≤100:=by
 simp only[zc3,zeF,Bool.or_eq_false_iff,decide_eq_false_iff_not,List.any_eq_false] at h
 obtain⟨⟨⟨⟨h1,h2,h3⟩,_⟩,_⟩,_⟩:=h
 refine⟨by omega,by omega,fun r hr=>?_⟩
 have:=h2 r hr
 simp only[Bool.or_eq_true,decide_eq_true_eq,not_or] at this
 omega
theorem ztp{f:List In4}{t:List TR}(rnds tries most:Int)(hs:zap f=true)(hk:∀ x∈f,x.k<4294967296)(ht:TblK t):AllOk (prune f) (goodT t) (optR f t rnds tries most) :=
 zns _ (zln hs).1 (zqW hk) (zf5 ht)
end Go.Ev
/- Layer 24: the examples. -/
namespace Go.Ev
open Go Go.RowKit
variable {G:Tbl}
def nn:List In4:=[⟨132,0,0,0⟩,⟨132,0,0,0⟩]
def RA:In4:=⟨22,0,0,0⟩
def ex24:List In4:=nn++[RA]
theorem ztq:zap ex24=true:=by decide +kernel
theorem zxA:∀ x∈ex24,x.k<4294967296:=by decide
theorem nn_w:winB nn=true:=by decide +kernel
theorem zu0:AllP ex24:=by
 intro i h0 hi
 have:i=1∨i=2:=by simp[ex24,nn] at hi; omega
 rcases this with rfl|rfl
 ·exact⟨0,⟨132,0,0,0⟩,0,rfl,by decide,rfl⟩
 ·exact⟨1,⟨132,0,0,0⟩,0,rfl,by decide,rfl⟩
theorem ztr:rows ex24 4 3=[(0,2)]:=by kernel_rfl
theorem zwv:rows [RA] 4 1=[]:=by kernel_rfl
theorem zts:zkr ex24 0 2=1:=by kernel_rfl
theorem zu1:putL ex24 0 2 []=[RA]:=by kernel_rfl
theorem ztt:zcp (winV [] nn).p (winV (winV [] nn).L []).p (winV [] nn).st (winV (winV [] nn).L []).st 1=true:=by kernel_rfl
theorem ztu:findR nn 1 9=some []:=by
 refine zxt (k:=0) (zvj (by decide)) (by decide) ?_ fun j hj=>by omega
 have:=zuA (v:=nn) (w:=[]) (live:=1) nn_w (by decide +kernel)
 rw[ztt] at this
 simpa using this
def r24:TR:=⟨nn,[],1⟩
theorem zrF:zaQ [] r24=([r24],0):=by kernel_rfl
theorem zu2:optR ex24 [] 9 9 4=(([RA],[r24]),1,true):=by
 have h1:roundR ex24 [] 9 4=some ([RA],[r24]):=by
  rw[roundR,show ex24.length=3 from rfl,ztr]
  have hp:zcY ex24 0 2=nn:=rfl
  have hf:zcz nn [] 1 9=some []:=by
   rw[zcz,show ze4 [] nn 1=none from rfl]
   exact ztu
  have ht:tryP ex24 [] 9 (0,2)=some ([RA],[r24]):=by
   rw[tryP,hp,zts,hf,Option.map_some,zu1]
   rw[show(⟨nn,[],1⟩:TR)=r24 from rfl,zrF]
  rw[List.findSome?_cons,ht]
 have h2:roundR [RA] [r24] 9 4=none:=by
  rw[roundR,show [RA].length=1 from rfl,zwv]; rfl
 rw[optR,zl7 ztq zu0,show goodT []=[] from rfl,show zaS 9 0 1000=9 from rfl,show zaS 4 0 32=4 from rfl,show Int.toNat 9=8+1 from rfl,zaU,h1]
 simp only[]
 rw[zaU,h2]
theorem zrG[HasWd G][HasNeg G][HasIns G][HasCheck G][HasData G][HasWith G][HasStep G][HasWRight G][HasWinRun G][HasWinAsg G][HasWinState G][HasWinOf G][HasAffApart G][HasAffine G][hBA:HasBitsA G][HasSymNew G][HasSym G][HasSymEval G][HasSymApart G][HasDecDf G][HasDec G][HasSrcN G][HasSrcL G][HasSrcC G][HasSrcF G][HasTells G][HasLive G][HasSpl G][HasEnc G][HasTbl G][HasPru G][HasOpt G][HasL24k G]
  (p1:FP G 148 [.str [110,101,103,10,110,101,103,10,114,101,116,97,10]] (.tup [FL ex24,.int .i64 0,.int .i64 0])):FP G 379 [] (.bool true):=by
 refine zak HasL24k.h_hurdlelaw24_knows (Nat.le_of_ble_eq_true rfl) ?_
 have hop:=zfU (G:=G) ex24 [] 9 9 4 ztq zxA ⟨by decide,fun r hr=>by cases hr⟩ (fun r hr=>by cases hr)
 rw[zu2] at hop
 have hex:IL [RA]=[[.int .i64 22,.int .i64 0,.int .i64 0,.int .u32 0]]:=rfl
 have hae:=aeq4 RA RA
 simp only[decide_true,In4.cs,RA] at hae
 simp only[FL,TF,ResC,hex,show TL []=[] from rfl] at p1 hop
 simp
 refine zab p1 ?_
 simp
 refine zab hop ?_
 simp[zaa]
end Go.Ev
