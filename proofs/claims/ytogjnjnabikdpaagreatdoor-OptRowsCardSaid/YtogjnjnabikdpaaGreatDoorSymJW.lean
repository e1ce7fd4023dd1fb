/- Arithmetic in a book. -/
import Derived.Test.YtogjnjnabikdpaaGreatDoorBitsFW
import Derived.Test.YtogjnjnabikdpaaGreatDoorEvNW
import Derived.Test.YtogjnjnabikdpaaGreatDoorEvXW
import Derived.Test.YtogjnjnabikdpaaGreatDoorEvInsCW
import Derived.Test.YtogjnjnabikdpaaGreatDoorEvSW
set_option linter.unusedSimpArgs false
set_option linter.unusedVariables false
set_option maxHeartbeats 4000000
set_option maxRecDepth 10000
namespace Go.Ev
open Go Go.RowKit
variable {G:Tbl}
variable {H:Heap} {b z m:Nat} {L:List Nd}
theorem za8.app2{H:Heap}(h:za8 H){r:Heap}(hr:∀ n,(H++r).length≤n→r.map (Option.map (Blk.cl n))=r):za8 (H++r):=by
 intro m hm
 rw[List.map_append,hr m hm,h m (by rw[List.length_append] at hm; omega)]
theorem Bk.app2(h:Bk H b z m L){r:Heap}(hr:∀ n,(H++r).length≤n→r.map (Option.map (Blk.cl n))=r):Bk (H++r) b z m L :=
 ⟨by rw[List.getElem?_append_left h.lb]; exact h.hb,by rw[List.getElem?_append_left h.lz]; exact h.hz,by rw[List.getElem?_append_left h.lm]; exact h.hm,h.shut.app2 hr,h.ok,h.small⟩
theorem Bk.to(h:Bk H b z m L){L':List Nd}(hi:Inv L')(hs:L'.length≤1000000):Bk (upd H b z m L') b z m L':=h.upd_bk hi.ok hs
theorem znM(h:Bk H b z m L){L':List Nd}{p:Nat}{c:List V}(hp:H[p]?=some (some (.cells c)))(hb:p≠b):(upd H b z m L')[p]?=some (some (.cells c)):=by
 unfold upd
 have h1:m≠p:=fun e=>by subst e; rw[h.hm] at hp; simp at hp
 have h2:z≠p:=fun e=>by subst e; rw[h.hz] at hp; simp at hp
 rw[List.getElem?_set_ne h1,List.getElem?_set_ne h2,List.getElem?_set_ne (Ne.symm hb)]
 exact hp
def zbo(kind:Int):Bool:=decide (kind≠20∧kind≠52∧kind≠100∧kind≠116)
def zci(kind:Int)(x y:Nat):Nd:={ Nd0 with kind:=2,op:=kind,x:=x,y:=y }
noncomputable def zaw(L:List Nd)(kind:Int)(x y:Nat)(a c:Nd):Int×List Nd :=
 let s1:=zaz L kind a c
 let s2:=zaA s1.2.2 kind a c
 let s3:=zap kind (zau c) x y
 let s4:=zap kind (zau a) y x
 if s1.2.1=true then(s1.1,s1.2.2) else if s2.2.1=true then(s2.1,s2.2.2) else if s3.2=true then(s3.1,s1.2.2)
 else if zbo kind=true∧s4.2=true then(s4.1,s1.2.2)
 else if zbo kind=true∧y<x then putN s1.2.2 (zci kind y x) else putN s1.2.2 (zci kind x y)
noncomputable def bAlu(L:List Nd)(kind x y:Int):Int×List Nd :=
 if(doW kind 0 1).2=true∧hasI L x=true∧hasI L y=true then(match L[x.toNat]?,L[y.toNat]? with|some a,some c=>zaw L kind x.toNat y.toNat a c|_,_=>(-1,L)) else(-1,L)
theorem ziE(L:List Nd)(kind:Int)(a c:Nd)(h:(zaA L kind a c).2.1=false):(zaA L kind a c).2.2=L:=by
 cases e1:asB a with
 | none=>simp[zaA,e1,noR]
 | some p =>
  cases e2:asB c with
  | none=>simp[zaA,e1,e2,noR]
  | some q =>
   cases e3:bdo kind p q with
   | none=>simp[zaA,e1,e2,e3,noR]
   | some r=>simp[zaA,e1,e2,e3,okP] at h
section
variable {K:Heap} {kind:Int} {x y p0 p1 p2 p3 p4:Nat} {a c:Nd}
theorem zwF[HasWd G][HasAffine G][HasSym G](h:Bk K b z m L)(hs:L.length<1000000)(hx:L[x]?=some a)(hy:L[y]?=some c)(ha:a.wf)(hc:c.wf)
  (h0:K[p0]?=some (some (.cells [.ptr b 0]))) (h1:K[p1]?=some (some (.cells [.int .i64 kind]))) (h2:K[p2]?=some (some (.cells [.int .i64 x]))) (h3:K[p3]?=some (some (.cells [.int .i64 y]))) :
  SF G 270 [.ptr p0 0,.ptr p1 0,.ptr p2 0,.ptr p3 0] K (.tup [.int .i64 (zaz L kind a c).1,.bool (zaz L kind a c).2.1]) (upd K b z m (zaz L kind a c).2.2):=by
 refine zbz HasSym.h_sym_Book_Alu_1 (Nat.le_of_ble_eq_true rfl) ?_
 have hbk:=h.back (zaz L kind a c).2.2 []
 simp at hbk
 simp[h0,h1,h2,h3]
 refine zai (zvF kind x y a c h hs hx hy ha hc) ?_
 simp[hbk]
theorem zwG[HasAffine G][HasBits G][HasSym G](h:Bk K b z m L)(hs:L.length<1000000)(hx:L[x]?=some a)(hy:L[y]?=some c)(ha:a.wf)(hc:c.wf)
  (h0:K[p0]?=some (some (.cells [.ptr b 0]))) (h1:K[p1]?=some (some (.cells [.int .i64 kind]))) (h2:K[p2]?=some (some (.cells [.int .i64 x]))) (h3:K[p3]?=some (some (.cells [.int .i64 y]))) :
  SF G 271 [.ptr p0 0,.ptr p1 0,.ptr p2 0,.ptr p3 0] K (.tup [.int .i64 (zaA L kind a c).1,.bool (zaA L kind a c).2.1]) (upd K b z m (zaA L kind a c).2.2):=by
 refine zbz HasSym.h_sym_Book_Alu_2 (Nat.le_of_ble_eq_true rfl) ?_
 have hbk:=h.back (zaA L kind a c).2.2 []
 simp at hbk
 simp[h0,h1,h2,h3]
 refine zai (ztE kind x y a c h hs hx hy ha hc) ?_
 simp[hbk]
theorem zwH[HasAffine G][HasSym G](h:Bk K b z m L)
  (h0:K[p0]?=some (some (.cells [.ptr b 0]))) (h1:K[p1]?=some (some (.cells [.int .i64 kind]))) (h2:K[p2]?=some (some (.cells [.int .i64 x]))) (h3:K[p3]?=some (some (.cells [.int .i64 y]))) :
  SF G 272 [.ptr p0 0,.ptr p1 0,.ptr p2 0,.ptr p3 0] K (.tup [.int .i64 (zap kind (constI L y) x y).1,.bool (zap kind (constI L y) x y).2]) K:=by
 refine zbz HasSym.h_sym_Book_Alu_3 (Nat.le_of_ble_eq_true rfl) ?_
 have hbk:=h.shut.self
 simp[h0,h1,h2,h3]
 refine zai (zm6 kind x y h) ?_
 simp[hbk]
theorem zwI[HasAffine G][HasSym G](sw:Bool)(h:Bk K b z m L)(h4:K[p4]?=some (some (.cells [.bool sw])))
  (h0:K[p0]?=some (some (.cells [.ptr b 0]))) (h1:K[p1]?=some (some (.cells [.int .i64 kind]))) (h2:K[p2]?=some (some (.cells [.int .i64 x]))) (h3:K[p3]?=some (some (.cells [.int .i64 y]))) :
  SF G 273 [.ptr p4 0,.ptr p0 0,.ptr p1 0,.ptr p3 0,.ptr p2 0] K (.tup [.int .i64 (if sw=true then(zap kind (constI L x) y x).1 else 0),.bool (sw&&(zap kind (constI L x) y x).2)]) K:=by
 refine zbz HasSym.h_sym_Book_Alu_4 (Nat.le_of_ble_eq_true rfl) ?_
 have hbk:=h.shut.self
 cases sw
 ·simp[h0,h1,h2,h3,h4,hbk]
 ·simp[h0,h1,h2,h3,h4]
  refine zai (zm6 kind y x h) ?_
  simp[hbk]
end
theorem zlE{kind:Int}{a c:Nd}(h:Inv L)(ha:a.ok)(hc:c.ok)(haw:a.wf)(hcw:c.wf):Ext L (zaz L kind a c).2.2 1:=by
 have no:Ext L (noR L).2.2 1:=.refl h 1
 have yes:∀ f:List Nat,f.length=35→(∀ x∈f,x<4294967296)→Ext L (okP (putN L (zas f))).2.2 1:=fun f hf hw=>(zbN h (zbV hf hw _)).1
 rw[zaz]
 split
 ·split
  ·exact yes _ (zoi ha.1 hc.1) (zp6 _ _)
  ·split
   ·exact yes _ (zlc ha.1 hc.1) (zmr _ _)
   ·split
    ·rename_i u v eu ev
     split
     ·exact yes _ (zdz _ ha.1) (zeJ _ _)
     ·split
      ·exact yes _ (zdz _ ha.1) (zeJ _ _)
      ·exact(zbN h (zbV (by simp) (zcA (zob kind (zbq eu haw.1) (zbq ev hcw.1))) _)).1
    ·split
     ·exact yes _ (zdz _ ha.1) (zeJ _ _)
     ·split
      ·exact yes _ (zdz _ ha.1) (zeJ _ _)
      ·exact no
    ·split
     ·exact yes _ (zdz _ hc.1) (zeJ _ _)
     ·exact no
    ·exact no
 ·exact no
theorem znN{y:Nat}{c:Nd}(hy:L[y]?=some c):constI L y=zau c:=by
 have hl:=(List.getElem?_eq_some_iff.1 hy).1
 have hh:hasI L y=true:=by simp[hasI]; exact hl
 simp[constI,hh,hy]
theorem zaM{f:Nat}{cap args:List V}{r:V}{H':Heap}{base:Nat}{d:Option Nat}{os:List SOper}{K:List Kt}{e:Env}{Q:Ex→Env→Heap→Prop}(h:SF G f (args++cap) H r H')
  (hr:WO G base os K (e.put d r) H' Q):zkA G false (.fn f cap) args base d os K e H Q:=by
 obtain⟨r1,H1,hb,hr1,ht⟩:=h
 refine zaF hb (by simp) ?_
 rw[hr1,ht]
 exact hr
theorem zkU[HasWd G][HasAffine G][HasBits G][HasSym G](kind x y:Int)(h:Bk H b z m L)(hi:Inv L)(hs:L.length<999990):BF G 274 [.int .i64 kind,.int .i64 x,.int .i64 y] H b z m (bAlu L kind x y):=by
 refine zbz HasSym.h_sym_Book_Alu (Nat.le_of_ble_eq_true rfl) ?_
 obtain⟨B0,hB0⟩:∃ B0:Heap,B0=[some (.cells [.ptr b 0]),some (.cells [.int .i64 kind]),some (.cells [.int .i64 x]),some (.cells [.int .i64 y])]:=⟨_,rfl⟩
 have hbl:∀ n,H.length≤n→b<n:=fun n hn=>by have:=h.lb; omega
 have h1:Bk (H++[some (.cells [.ptr b 0]),some (.cells [.int .i64 kind]),some (.cells [.int .i64 x]),some (.cells [.int .i64 y])]) b z m L:=h.app2 fun n hn=>by simp[Blk.cl,clL,V.cl]; exact hbl n (by simp at hn; omega)
 have hs1:=h1.shut.self
 have hsh:=h.shut.back
 have hus:=h.upd_self
 simp at hs1
 have hdo:=zix (G:=G) (by infer_instance) kind 0 1 (by decide) (by decide)
 simp at hdo
 have hno:∀ p:Prop,bAlu L kind x y=(-1,L)→p→(bAlu L kind x y).1=-1∧upd H b z m (bAlu L kind x y).2=H:=fun p e _=>by rw[e]; exact⟨rfl,hus⟩
 simp[ap0,apk]
 refine zab hdo ?_
 simp[ap0,apk]
 cases hok:(doW kind 0 1).2 with
 | false =>
  have hR:bAlu L kind x y=(-1,L):=by rw[bAlu,if_neg (by simp[hok])]
  simp[hR,hus,hsh,ap0,apk]
 | true =>
  simp[ap0,apk]
  refine zai (zfr x h1) ?_
  cases hx:hasI L x with
  | false =>
   have hR:bAlu L kind x y=(-1,L):=by rw[bAlu,if_neg (by simp[hx])]
   simp[hR,hus,hsh,ap0,apk]
  | true =>
   simp[ap0,apk]
   refine zai (zfr y h1) ?_
   cases hy:hasI L y with
   | false =>
    have hR:bAlu L kind x y=(-1,L):=by rw[bAlu,if_neg (by simp[hy])]
    simp[hR,hus,hsh,ap0,apk]
   | true =>
    obtain⟨hx0,hx1⟩:0≤x∧x<L.length:=by simpa[hasI] using hx
    obtain⟨hy0,hy1⟩:0≤y∧y<L.length:=by simpa[hasI] using hy
    obtain⟨xn,rfl⟩:=Int.eq_ofNat_of_zero_le hx0
    obtain⟨yn,rfl⟩:=Int.eq_ofNat_of_zero_le hy0
    obtain⟨a,ha⟩:∃ a,L[xn]?=some a:=⟨_,zal (by omega)⟩
    obtain⟨c,hc⟩:∃ c,L[yn]?=some c:=⟨_,zal (by omega)⟩
    have hR:bAlu L kind xn yn=zaw L kind xn yn a c:=by rw[bAlu,if_pos ⟨hok,hx,hy⟩]; simp[ha,hc]
    rw[hR]
    obtain⟨sw,hsw⟩:∃ sw,sw=zbo kind:=⟨_,rfl⟩
    have h2:Bk (H++[some (.cells [.ptr b 0]),some (.cells [.int .i64 kind]),some (.cells [.int .i64 xn]),some (.cells [.int .i64 yn]),some (.cells [.bool sw])]) b z m L:=h.app2 fun n hn=>by simp[Blk.cl,clL,V.cl]; exact hbl n (by simp at hn; omega)
    obtain⟨C,hC⟩:∃ C:List V,C=[.fn 270 [.ptr H.length 0,.ptr (H.length+1) 0,.ptr (H.length+2) 0,.ptr (H.length+3) 0],.fn 271 [.ptr H.length 0,.ptr (H.length+1) 0,.ptr (H.length+2) 0,.ptr (H.length+3) 0],
     .fn 272 [.ptr H.length 0,.ptr (H.length+1) 0,.ptr (H.length+2) 0,.ptr (H.length+3) 0],.fn 273 [.ptr (H.length+4) 0,.ptr H.length 0,.ptr (H.length+1) 0,.ptr (H.length+3) 0,.ptr (H.length+2) 0]]:=⟨_,rfl⟩
    have hs2:=h2.shut.self
    simp at hs2
    have c5:kind=20∧sw=false∨kind=52∧sw=false∨kind=100∧sw=false∨kind=116∧sw=false∨(kind≠20∧kind≠52∧kind≠100∧kind≠116)∧sw=true:=by
     by_cases a1:kind=20
     ·simp[a1,hsw,zbo]
     by_cases a2:kind=52
     ·simp[a2,hsw,zbo]
     by_cases a3:kind=100
     ·simp[a3,hsw,zbo]
     by_cases a4:kind=116
     ·simp[a4,hsw,zbo]
     simp[a1,a2,a3,a4,hsw,zbo]
    have n20:kind≠20→(kind !=20)=true:=fun h=>bneT h
    have n52:kind≠52→(kind !=52)=true:=fun h=>bneT h
    have n100:kind≠100→(kind !=100)=true:=fun h=>bneT h
    have n116:kind≠116→(kind !=116)=true:=fun h=>bneT h
    have hcC:∀ n,H.length+6≤n→clL n C=C:=fun n hn=>by
     rw[hC]
     simp[clL,V.cl,show H.length<n by omega,show H.length+1<n by omega,show H.length+2<n by omega,show H.length+3<n by omega,show H.length+4<n by omega]
    have h3:Bk (H++[some (.cells [.ptr b 0]),some (.cells [.int .i64 kind]),some (.cells [.int .i64 xn]),some (.cells [.int .i64 yn]),some (.cells [.bool sw]),some (.cells C)]) b z m L:=h.app2 fun n hn=>by simp at hn; simp[Blk.cl,clL,V.cl,hcC n (by omega)]; exact hbl n (by omega)
    obtain⟨BB,hBB⟩:∃ BB:List Nd→Heap,∀ L',BB L'=upd H b z m L'++[some (.cells [.ptr b 0]),some (.cells [.int .i64 kind]),some (.cells [.int .i64 xn]),some (.cells [.int .i64 yn]),some (.cells [.bool sw]),some (.cells C)]:=⟨_,fun _=>rfl⟩
    have bL:BB L=H++[some (.cells [.ptr b 0]),some (.cells [.int .i64 kind]),some (.cells [.int .i64 xn]),some (.cells [.int .i64 yn]),some (.cells [.bool sw]),some (.cells C)]:=by rw[hBB,hus]
    have bU:∀ L':List Nd,BB L'=upd (H++[some (.cells [.ptr b 0]),some (.cells [.int .i64 kind]),some (.cells [.int .i64 xn]),some (.cells [.int .i64 yn]),some (.cells [.bool sw]),some (.cells C)]) b z m L':=fun L'=>by rw[h.upd_app,hBB]
    have bB:∀ L':List Nd,Inv L'→L'.length≤1000000→Bk (BB L') b z m L':=fun L' hi' hs'=>by rw[bU]; exact h3.to hi' hs'
    have bUU:∀ L1 L2:List Nd,upd (BB L1) b z m L2=BB L2:=fun L1 L2=>by rw[bU,bU,h3.upd_upd]
    have bl:∀ L':List Nd,(BB L').length=H.length+6:=fun L'=>by rw[hBB]; simp[zbf]
    have g0:∀(L':List Nd) (r:Heap),(upd H b z m L'++r)[H.length]?=r[0]?:=fun L' r=>by rw[←zbf H b z m L',ap0]
    have gk:∀(L':List Nd) (r:Heap) (k:Nat),(upd H b z m L'++r)[H.length+k]?=r[k]?:=fun L' r k=>by
     have:=apk (upd H b z m L') r k
     rwa[zbf] at this
    have sk:∀(L':List Nd) (r:Heap) (k:Nat) (x:Option Blk),(upd H b z m L'++r).set (H.length+k) x=upd H b z m L'++r.set k x:=fun L' r k x=>by
     have:=setk (upd H b z m L') r k x
     rwa[zbf] at this
    have q0:∀ L',(BB L')[H.length]?=some (some (.cells [.ptr b 0])):=fun L'=>by rw[hBB,g0]; rfl
    have q1:∀ L',(BB L')[H.length+1]?=some (some (.cells [.int .i64 kind])):=fun L'=>by rw[hBB,gk]; rfl
    have q2:∀ L',(BB L')[H.length+2]?=some (some (.cells [.int .i64 xn])):=fun L'=>by rw[hBB,gk]; rfl
    have q3:∀ L',(BB L')[H.length+3]?=some (some (.cells [.int .i64 yn])):=fun L'=>by rw[hBB,gk]; rfl
    have q4:∀ L',(BB L')[H.length+4]?=some (some (.cells [.bool sw])):=fun L'=>by rw[hBB,gk]; rfl
    have q5:∀ L',(BB L')[H.length+5]?=some (some (.cells C)):=fun L'=>by rw[hBB,gk]; rfl
    have hao:=hi.good xn a ha
    have hco:=hi.good yn c hc
    have e1:=zlE (kind:=kind) hi hao.1 hco.1 hao.2.1 hco.2.1
    obtain⟨L1,hL1⟩:∃ L1,L1=(zaz L kind a c).2.2:=⟨_,rfl⟩
    rw[←hL1] at e1
    have l1:=e1.len
    have k0:=bB L hi (by omega)
    have k1:=bB L1 e1.inv (by omega)
    have ha1:=e1.get ha
    have hc1:=e1.get hc
    have cx:=znN ha1
    have cy:=znN hc1
    have tr:∀(L':List Nd),Inv L'→L'.length≤1000000→∀ r,zac (H.length+6) (BB L'++r)=BB L':=fun L' hi' hs' r=>by
     have:=(bB L' hi' hs').shut.back r
     rwa[bl] at this
    have tr0:=tr L hi (by omega)
    have tr1:=tr L1 e1.inv (by omega)
    have ts0:zac (H.length+6) (BB L)=BB L:=by simpa using tr0 []
    have ts1:zac (H.length+6) (BB L1)=BB L1:=by simpa using tr1 []
    have fin:∀ L' r,zac H.length (BB L'++r)=upd H b z m L':=fun L' r=>by rw[hBB,List.append_assoc]; exact h.back L' _
    have fin0:∀ L',zac H.length (BB L')=upd H b z m L':=fun L'=>by simpa using fin L' []
    obtain⟨Ls,hLs0,hLs⟩:∃ Ls:Nat→List Nd,Ls 0=L∧∀ i,Ls (i+1)=L1:=⟨fun i=>match i with|0=>L|_+1=>L1,rfl,fun _=>rfl⟩
    have C0:C.take 1=[.fn 270 [.ptr H.length 0,.ptr (H.length+1) 0,.ptr (H.length+2) 0,.ptr (H.length+3) 0]]:=by rw[hC]; rfl
    have C1:C.tail.take 1=[.fn 271 [.ptr H.length 0,.ptr (H.length+1) 0,.ptr (H.length+2) 0,.ptr (H.length+3) 0]]:=by rw[hC]; rfl
    have C2:(C.drop 2).take 1=[.fn 272 [.ptr H.length 0,.ptr (H.length+1) 0,.ptr (H.length+2) 0,.ptr (H.length+3) 0]]:=by rw[hC]; rfl
    have C3:(C.drop 3).take 1=[.fn 273 [.ptr (H.length+4) 0,.ptr H.length 0,.ptr (H.length+1) 0,.ptr (H.length+3) 0,.ptr (H.length+2) 0]]:=by rw[hC]; rfl
    have lC:C.length=4:=by rw[hC]; rfl
    have A1:=zwF (G:=G) (kind:=kind) k0 (by omega) ha hc hao.2.1 hco.2.1 (q0 L) (q1 L) (q2 L) (q3 L)
    have A2:=zwG (G:=G) (kind:=kind) k1 (by omega) ha1 hc1 hao.2.1 hco.2.1 (q0 L1) (q1 L1) (q2 L1) (q3 L1)
    have A3:=zwH (G:=G) (kind:=kind) k1 (q0 L1) (q1 L1) (q2 L1) (q3 L1)
    have A4:=zwI (G:=G) (kind:=kind) sw k1 (q4 L1) (q0 L1) (q1 L1) (q2 L1) (q3 L1)
    rw[←hL1,bUU] at A1
    rw[bUU] at A2
    rw[cy] at A3
    rw[cx] at A4
    have hLs1:Ls 1=L1:=hLs 0
    have hLs2:Ls 2=L1:=hLs 1
    have hLs3:Ls 3=L1:=hLs 2
    have hLs4:Ls 4=L1:=hLs 3
    have a01:addI .i64 0 1=1:=rfl
    have a11:addI .i64 1 1=2:=rfl
    have a21:addI .i64 2 1=3:=rfl
    have a31:addI .i64 3 1=4:=rfl
    have hfill:∀(u w:Nat) (r:List (Nat×V)),za6 (mkE ((80,.int .i64 w)::(79,.int .i64 u)::(78,.int .i64 kind)::r)) Nd0.cs [(0,1,.c (.int .i64 2)),(57,1,.t 78),(58,1,.t 79),(59,1,.t 80)]=some (zci kind u w).cs:=fun _ _ _=>rfl
    have hd:=h.to e1.inv (by omega)
    have done:∀ u w:Nat,zaw L kind xn yn a c=putN L1 (zci kind u w) →
      SF G 259 [.ptr b 0,.agg (zci kind u w).cs] (upd H b z m L1++[some (.cells [.ptr b 0]),some (.cells [.int .i64 kind]),some (.cells [.int .i64 u]),some (.cells [.int .i64 w]),some (.cells [.bool sw]),some (.cells C)]) (.int .i64 (zaw L kind xn yn a c).1)
       (upd H b z m (zaw L kind xn yn a c).2++[some (.cells [.ptr b 0]),some (.cells [.int .i64 kind]),some (.cells [.int .i64 u]),some (.cells [.int .i64 w]),some (.cells [.bool sw]),some (.cells C)]):=fun u w hF=>by
     have hb6:Bk (upd H b z m L1++[some (.cells [.ptr b 0]),some (.cells [.int .i64 kind]),some (.cells [.int .i64 u]),some (.cells [.int .i64 w]),some (.cells [.bool sw]),some (.cells C)]) b z m L1 :=
      hd.app2 fun n hn=>by simp[zbf] at hn; simp[Blk.cl,clL,V.cl,hcC n (by omega)]; exact hbl n (by omega)
     have:=zkF (G:=G) (zci kind u w) ⟨rfl,rfl,rfl⟩ hb6 (by omega)
     rw[hd.upd_app,h.upd_upd] at this
     rw[hF]
     exact this
    have fin2:∀(L':List Nd) (r:Heap),zac H.length (upd H b z m L'++r)=upd H b z m L':=fun L' r=>h.back L' r
    rcases c5 with⟨hk,hw⟩|⟨hk,hw⟩|⟨hk,hw⟩|⟨hk,hw⟩|⟨⟨z1,z2,z3,z4⟩,hw⟩
    case inr.inr.inr.inr => 
     simp[ap0,apk,n20 z1,n52 z2,n100 z3,n116 z4]
     rw[hw] at bL
     rw[←hC,←bL]
     refine W_up 4 (fun i=>[(4,.ptr H.length 0),(5,.ptr (H.length+1) 0),(6,.ptr (H.length+2) 0),(7,.ptr (H.length+3) 0),(11,.ptr (H.length+4) 0),(55,.rs (H.length+5) 0 4 1),(56,.int .i64 4),(57,.int .i64 i)])
      (fun i=>BB (Ls i)) (fun i=>(0<i→(zaz L kind a c).2.1=false)∧(1<i→(zaA L1 kind a c).2.1=false)∧(2<i→(zap kind (zau c) xn yn).2=false)∧(3<i→(sw&&(zap kind (zau a) yn xn).2)=false)) ?_ ?_
     ·simp[zaa,bl,ts0,hLs0]
     intro i hi4 hp
     by_cases hlt:i<4
     ·rcases(show i=0∨i=1∨i=2∨i=3 by omega) with rfl|rfl|rfl|rfl
      ·simp[hLs0,q5,C0,lC]
       refine zaM A1 ?_
       cases es:(zaz L kind a c).2.1 with
       | true =>
        have hF:zaw L kind xn yn a c=((zaz L kind a c).1,L1):=by rw[hL1,zaw]; simp only[es,if_true]
        simp[hF,fin0]
       | false =>
        simp[hp,es,bl,zaa,ts1,hLs1,hLs2,hLs3,hLs4,a01,a11,a21,a31]
      ·have p1:=hp.1 (by omega)
       simp[hLs1,q5,C1,lC]
       refine zaM A2 ?_
       cases es:(zaA L1 kind a c).2.1 with
       | true =>
        have hF:zaw L kind xn yn a c=((zaA L1 kind a c).1,(zaA L1 kind a c).2.2):=by rw[zaw]; simp only[p1,←hL1,es,if_true,Bool.false_eq_true,if_false]
        simp[hF,fin0]
       | false =>
        have eL:=ziE L1 kind a c es
        simp[p1,es,bl,zaa,ts1,hLs2,eL,a11]
      ·have p1:=hp.1 (by omega)
       have p2:=hp.2.1 (by omega)
       simp[hLs2,q5,C2,lC]
       refine zaM A3 ?_
       cases es:(zap kind (zau c) xn yn).2 with
       | true =>
        have hF:zaw L kind xn yn a c=((zap kind (zau c) xn yn).1,L1):=by rw[zaw]; simp only[p1,p2,←hL1,es,if_true,Bool.false_eq_true,if_false]
        simp[hF,fin0]
       | false =>
        simp[p1,p2,es,bl,zaa,ts1,hLs1,hLs2,hLs3,hLs4,a01,a11,a21,a31]
      ·have p1:=hp.1 (by omega)
       have p2:=hp.2.1 (by omega)
       have p3:=hp.2.2.1 (by omega)
       simp[hLs3,q5,C3,lC]
       refine zaM A4 ?_
       cases es:(sw&&(zap kind (zau a) yn xn).2) with
       | true =>
        have es':zbo kind=true∧(zap kind (zau a) yn xn).2=true:=by rw[←hsw]; simpa using es
        have hF:zaw L kind xn yn a c=((zap kind (zau a) yn xn).1,L1):=by rw[zaw]; simp only[p1,p2,p3,←hL1,es',if_true,Bool.false_eq_true,if_false,and_self]
        have esw:sw=true:=by rw[hsw]; exact es'.1
        simp[hF,fin0,esw]
       | false =>
        simp[p1,p2,p3,es,bl,zaa,ts1,hLs1,hLs2,hLs3,hLs4,a01,a11,a21,a31]
        exact fun hh=>by simpa[hh] using es
     ·obtain rfl:i=4:=by omega
      have p1:=hp.1 (by omega)
      have p2:=hp.2.1 (by omega)
      have p3:=hp.2.2.1 (by omega)
      have p4:=hp.2.2.2 (by omega)
      have p4':¬(zbo kind=true∧(zap kind (zau a) yn xn).2=true):=fun hh=>by rw[hsw,hh.1,hh.2] at p4; cases p4
      have esw:zbo kind=true:=by rw[←hsw]; exact hw
      have p5:(zap kind (zau a) yn xn).2=false:=by cases e:(zap kind (zau a) yn xn).2 with|false=>rfl|true=>exact absurd ⟨esw,e⟩ p4'
      by_cases hyx:yn<xn
      ·have hF:zaw L kind xn yn a c=putN L1 (zci kind yn xn):=by rw[zaw]; simp only[p1,p2,p3,←hL1,p5,esw,hyx,if_true,Bool.false_eq_true,if_false,and_false,and_self]
       simp[hLs4,q4,q2,q3,q1,q0,hw,hyx]
       rw[hBB]
       simp[-za6,nz,g0,gk,sk,hfill]
       refine zai (done yn xn hF) ?_
       simp[fin2]
      ·have hF:zaw L kind xn yn a c=putN L1 (zci kind xn yn):=by rw[zaw]; simp only[p1,p2,p3,←hL1,p5,esw,hyx,if_true,Bool.false_eq_true,if_false,and_false,and_self]
       simp[hLs4,q4,q2,q3,q1,q0,hw,hyx]
       rw[hBB]
       simp[-za6,nz,g0,gk,sk,hfill]
       refine zai (done xn yn hF) ?_
       simp[fin2]
    case inl =>
     have u1:(kind !=20)=false:=bneF hk
     simp[ap0,apk,u1]
     rw[hw] at bL
     rw[←hC,←bL]
     refine W_up 4 (fun i=>[(4,.ptr H.length 0),(5,.ptr (H.length+1) 0),(6,.ptr (H.length+2) 0),(7,.ptr (H.length+3) 0),(11,.ptr (H.length+4) 0),(55,.rs (H.length+5) 0 4 1),(56,.int .i64 4),(57,.int .i64 i)])
      (fun i=>BB (Ls i)) (fun i=>(0<i→(zaz L kind a c).2.1=false)∧(1<i→(zaA L1 kind a c).2.1=false)∧(2<i→(zap kind (zau c) xn yn).2=false)∧(3<i→(sw&&(zap kind (zau a) yn xn).2)=false)) ?_ ?_
     ·simp[zaa,bl,ts0,hLs0]
     intro i hi4 hp
     by_cases hlt:i<4
     ·rcases(show i=0∨i=1∨i=2∨i=3 by omega) with rfl|rfl|rfl|rfl
      ·simp[hLs0,q5,C0,lC]
       refine zaM A1 ?_
       cases es:(zaz L kind a c).2.1 with
       | true =>
        have hF:zaw L kind xn yn a c=((zaz L kind a c).1,L1):=by rw[hL1,zaw]; simp only[es,if_true]
        simp[hF,fin0]
       | false =>
        simp[hp,es,bl,zaa,ts1,hLs1,hLs2,hLs3,hLs4,a01,a11,a21,a31]
      ·have p1:=hp.1 (by omega)
       simp[hLs1,q5,C1,lC]
       refine zaM A2 ?_
       cases es:(zaA L1 kind a c).2.1 with
       | true =>
        have hF:zaw L kind xn yn a c=((zaA L1 kind a c).1,(zaA L1 kind a c).2.2):=by rw[zaw]; simp only[p1,←hL1,es,if_true,Bool.false_eq_true,if_false]
        simp[hF,fin0]
       | false =>
        have eL:=ziE L1 kind a c es
        simp[p1,es,bl,zaa,ts1,hLs2,eL,a11]
      ·have p1:=hp.1 (by omega)
       have p2:=hp.2.1 (by omega)
       simp[hLs2,q5,C2,lC]
       refine zaM A3 ?_
       cases es:(zap kind (zau c) xn yn).2 with
       | true =>
        have hF:zaw L kind xn yn a c=((zap kind (zau c) xn yn).1,L1):=by rw[zaw]; simp only[p1,p2,←hL1,es,if_true,Bool.false_eq_true,if_false]
        simp[hF,fin0]
       | false =>
        simp[p1,p2,es,bl,zaa,ts1,hLs1,hLs2,hLs3,hLs4,a01,a11,a21,a31]
      ·have p1:=hp.1 (by omega)
       have p2:=hp.2.1 (by omega)
       have p3:=hp.2.2.1 (by omega)
       simp[hLs3,q5,C3,lC]
       refine zaM A4 ?_
       cases es:(sw&&(zap kind (zau a) yn xn).2) with
       | true =>
        have es':zbo kind=true∧(zap kind (zau a) yn xn).2=true:=by rw[←hsw]; simpa using es
        have hF:zaw L kind xn yn a c=((zap kind (zau a) yn xn).1,L1):=by rw[zaw]; simp only[p1,p2,p3,←hL1,es',if_true,Bool.false_eq_true,if_false,and_self]
        have esw:sw=true:=by rw[hsw]; exact es'.1
        simp[hF,fin0,esw]
       | false =>
        simp[p1,p2,p3,es,bl,zaa,ts1,hLs1,hLs2,hLs3,hLs4,a01,a11,a21,a31]
        exact fun hh=>by simpa[hh] using es
     ·obtain rfl:i=4:=by omega
      have p1:=hp.1 (by omega)
      have p2:=hp.2.1 (by omega)
      have p3:=hp.2.2.1 (by omega)
      have p4:=hp.2.2.2 (by omega)
      have esw:zbo kind=false:=by rw[←hsw]; exact hw
      have hF:zaw L kind xn yn a c=putN L1 (zci kind xn yn):=by rw[zaw]; simp only[p1,p2,p3,←hL1,esw,Bool.false_eq_true,if_false,false_and]
      simp[hLs4,q4,q2,q3,q1,q0,hw]
      rw[hBB]
      simp[-za6,nz,g0,gk,sk,hfill]
      refine zai (done xn yn hF) ?_
      simp[fin2]
    case inr.inl =>
     have u1:(kind !=20)=true:=bneT (by omega)
     have u2:(kind !=52)=false:=bneF hk
     simp[ap0,apk,u1,u2]
     rw[hw] at bL
     rw[←hC,←bL]
     refine W_up 4 (fun i=>[(4,.ptr H.length 0),(5,.ptr (H.length+1) 0),(6,.ptr (H.length+2) 0),(7,.ptr (H.length+3) 0),(11,.ptr (H.length+4) 0),(55,.rs (H.length+5) 0 4 1),(56,.int .i64 4),(57,.int .i64 i)])
      (fun i=>BB (Ls i)) (fun i=>(0<i→(zaz L kind a c).2.1=false)∧(1<i→(zaA L1 kind a c).2.1=false)∧(2<i→(zap kind (zau c) xn yn).2=false)∧(3<i→(sw&&(zap kind (zau a) yn xn).2)=false)) ?_ ?_
     ·simp[zaa,bl,ts0,hLs0]
     intro i hi4 hp
     by_cases hlt:i<4
     ·rcases(show i=0∨i=1∨i=2∨i=3 by omega) with rfl|rfl|rfl|rfl
      ·simp[hLs0,q5,C0,lC]
       refine zaM A1 ?_
       cases es:(zaz L kind a c).2.1 with
       | true =>
        have hF:zaw L kind xn yn a c=((zaz L kind a c).1,L1):=by rw[hL1,zaw]; simp only[es,if_true]
        simp[hF,fin0]
       | false =>
        simp[hp,es,bl,zaa,ts1,hLs1,hLs2,hLs3,hLs4,a01,a11,a21,a31]
      ·have p1:=hp.1 (by omega)
       simp[hLs1,q5,C1,lC]
       refine zaM A2 ?_
       cases es:(zaA L1 kind a c).2.1 with
       | true =>
        have hF:zaw L kind xn yn a c=((zaA L1 kind a c).1,(zaA L1 kind a c).2.2):=by rw[zaw]; simp only[p1,←hL1,es,if_true,Bool.false_eq_true,if_false]
        simp[hF,fin0]
       | false =>
        have eL:=ziE L1 kind a c es
        simp[p1,es,bl,zaa,ts1,hLs2,eL,a11]
      ·have p1:=hp.1 (by omega)
       have p2:=hp.2.1 (by omega)
       simp[hLs2,q5,C2,lC]
       refine zaM A3 ?_
       cases es:(zap kind (zau c) xn yn).2 with
       | true =>
        have hF:zaw L kind xn yn a c=((zap kind (zau c) xn yn).1,L1):=by rw[zaw]; simp only[p1,p2,←hL1,es,if_true,Bool.false_eq_true,if_false]
        simp[hF,fin0]
       | false =>
        simp[p1,p2,es,bl,zaa,ts1,hLs1,hLs2,hLs3,hLs4,a01,a11,a21,a31]
      ·have p1:=hp.1 (by omega)
       have p2:=hp.2.1 (by omega)
       have p3:=hp.2.2.1 (by omega)
       simp[hLs3,q5,C3,lC]
       refine zaM A4 ?_
       cases es:(sw&&(zap kind (zau a) yn xn).2) with
       | true =>
        have es':zbo kind=true∧(zap kind (zau a) yn xn).2=true:=by rw[←hsw]; simpa using es
        have hF:zaw L kind xn yn a c=((zap kind (zau a) yn xn).1,L1):=by rw[zaw]; simp only[p1,p2,p3,←hL1,es',if_true,Bool.false_eq_true,if_false,and_self]
        have esw:sw=true:=by rw[hsw]; exact es'.1
        simp[hF,fin0,esw]
       | false =>
        simp[p1,p2,p3,es,bl,zaa,ts1,hLs1,hLs2,hLs3,hLs4,a01,a11,a21,a31]
        exact fun hh=>by simpa[hh] using es
     ·obtain rfl:i=4:=by omega
      have p1:=hp.1 (by omega)
      have p2:=hp.2.1 (by omega)
      have p3:=hp.2.2.1 (by omega)
      have p4:=hp.2.2.2 (by omega)
      have esw:zbo kind=false:=by rw[←hsw]; exact hw
      have hF:zaw L kind xn yn a c=putN L1 (zci kind xn yn):=by rw[zaw]; simp only[p1,p2,p3,←hL1,esw,Bool.false_eq_true,if_false,false_and]
      simp[hLs4,q4,q2,q3,q1,q0,hw]
      rw[hBB]
      simp[-za6,nz,g0,gk,sk,hfill]
      refine zai (done xn yn hF) ?_
      simp[fin2]
    case inr.inr.inl =>
     have u1:(kind !=20)=true:=bneT (by omega)
     have u2:(kind !=52)=true:=bneT (by omega)
     have u3:(kind !=100)=false:=bneF hk
     simp[ap0,apk,u1,u2,u3]
     rw[hw] at bL
     rw[←hC,←bL]
     refine W_up 4 (fun i=>[(4,.ptr H.length 0),(5,.ptr (H.length+1) 0),(6,.ptr (H.length+2) 0),(7,.ptr (H.length+3) 0),(11,.ptr (H.length+4) 0),(55,.rs (H.length+5) 0 4 1),(56,.int .i64 4),(57,.int .i64 i)])
      (fun i=>BB (Ls i)) (fun i=>(0<i→(zaz L kind a c).2.1=false)∧(1<i→(zaA L1 kind a c).2.1=false)∧(2<i→(zap kind (zau c) xn yn).2=false)∧(3<i→(sw&&(zap kind (zau a) yn xn).2)=false)) ?_ ?_
     ·simp[zaa,bl,ts0,hLs0]
     intro i hi4 hp
     by_cases hlt:i<4
     ·rcases(show i=0∨i=1∨i=2∨i=3 by omega) with rfl|rfl|rfl|rfl
      ·simp[hLs0,q5,C0,lC]
       refine zaM A1 ?_
       cases es:(zaz L kind a c).2.1 with
       | true =>
        have hF:zaw L kind xn yn a c=((zaz L kind a c).1,L1):=by rw[hL1,zaw]; simp only[es,if_true]
        simp[hF,fin0]
       | false =>
        simp[hp,es,bl,zaa,ts1,hLs1,hLs2,hLs3,hLs4,a01,a11,a21,a31]
      ·have p1:=hp.1 (by omega)
       simp[hLs1,q5,C1,lC]
       refine zaM A2 ?_
       cases es:(zaA L1 kind a c).2.1 with
       | true =>
        have hF:zaw L kind xn yn a c=((zaA L1 kind a c).1,(zaA L1 kind a c).2.2):=by rw[zaw]; simp only[p1,←hL1,es,if_true,Bool.false_eq_true,if_false]
        simp[hF,fin0]
       | false =>
        have eL:=ziE L1 kind a c es
        simp[p1,es,bl,zaa,ts1,hLs2,eL,a11]
      ·have p1:=hp.1 (by omega)
       have p2:=hp.2.1 (by omega)
       simp[hLs2,q5,C2,lC]
       refine zaM A3 ?_
       cases es:(zap kind (zau c) xn yn).2 with
       | true =>
        have hF:zaw L kind xn yn a c=((zap kind (zau c) xn yn).1,L1):=by rw[zaw]; simp only[p1,p2,←hL1,es,if_true,Bool.false_eq_true,if_false]
        simp[hF,fin0]
       | false =>
        simp[p1,p2,es,bl,zaa,ts1,hLs1,hLs2,hLs3,hLs4,a01,a11,a21,a31]
      ·have p1:=hp.1 (by omega)
       have p2:=hp.2.1 (by omega)
       have p3:=hp.2.2.1 (by omega)
       simp[hLs3,q5,C3,lC]
       refine zaM A4 ?_
       cases es:(sw&&(zap kind (zau a) yn xn).2) with
       | true =>
        have es':zbo kind=true∧(zap kind (zau a) yn xn).2=true:=by rw[←hsw]; simpa using es
        have hF:zaw L kind xn yn a c=((zap kind (zau a) yn xn).1,L1):=by rw[zaw]; simp only[p1,p2,p3,←hL1,es',if_true,Bool.false_eq_true,if_false,and_self]
        have esw:sw=true:=by rw[hsw]; exact es'.1
        simp[hF,fin0,esw]
       | false =>
        simp[p1,p2,p3,es,bl,zaa,ts1,hLs1,hLs2,hLs3,hLs4,a01,a11,a21,a31]
        exact fun hh=>by simpa[hh] using es
     ·obtain rfl:i=4:=by omega
      have p1:=hp.1 (by omega)
      have p2:=hp.2.1 (by omega)
      have p3:=hp.2.2.1 (by omega)
      have p4:=hp.2.2.2 (by omega)
      have esw:zbo kind=false:=by rw[←hsw]; exact hw
      have hF:zaw L kind xn yn a c=putN L1 (zci kind xn yn):=by rw[zaw]; simp only[p1,p2,p3,←hL1,esw,Bool.false_eq_true,if_false,false_and]
      simp[hLs4,q4,q2,q3,q1,q0,hw]
      rw[hBB]
      simp[-za6,nz,g0,gk,sk,hfill]
      refine zai (done xn yn hF) ?_
      simp[fin2]
    case inr.inr.inr.inl =>
     have u1:(kind !=20)=true:=bneT (by omega)
     have u2:(kind !=52)=true:=bneT (by omega)
     have u3:(kind !=100)=true:=bneT (by omega)
     have u4:(kind !=116)=false:=bneF hk
     simp[ap0,apk,u1,u2,u3,u4]
     rw[hw] at bL
     rw[←hC,←bL]
     refine W_up 4 (fun i=>[(4,.ptr H.length 0),(5,.ptr (H.length+1) 0),(6,.ptr (H.length+2) 0),(7,.ptr (H.length+3) 0),(11,.ptr (H.length+4) 0),(55,.rs (H.length+5) 0 4 1),(56,.int .i64 4),(57,.int .i64 i)])
      (fun i=>BB (Ls i)) (fun i=>(0<i→(zaz L kind a c).2.1=false)∧(1<i→(zaA L1 kind a c).2.1=false)∧(2<i→(zap kind (zau c) xn yn).2=false)∧(3<i→(sw&&(zap kind (zau a) yn xn).2)=false)) ?_ ?_
     ·simp[zaa,bl,ts0,hLs0]
     intro i hi4 hp
     by_cases hlt:i<4
     ·rcases(show i=0∨i=1∨i=2∨i=3 by omega) with rfl|rfl|rfl|rfl
      ·simp[hLs0,q5,C0,lC]
       refine zaM A1 ?_
       cases es:(zaz L kind a c).2.1 with
       | true =>
        have hF:zaw L kind xn yn a c=((zaz L kind a c).1,L1):=by rw[hL1,zaw]; simp only[es,if_true]
        simp[hF,fin0]
       | false =>
        simp[hp,es,bl,zaa,ts1,hLs1,hLs2,hLs3,hLs4,a01,a11,a21,a31]
      ·have p1:=hp.1 (by omega)
       simp[hLs1,q5,C1,lC]
       refine zaM A2 ?_
       cases es:(zaA L1 kind a c).2.1 with
       | true =>
        have hF:zaw L kind xn yn a c=((zaA L1 kind a c).1,(zaA L1 kind a c).2.2):=by rw[zaw]; simp only[p1,←hL1,es,if_true,Bool.false_eq_true,if_false]
        simp[hF,fin0]
       | false =>
        have eL:=ziE L1 kind a c es
        simp[p1,es,bl,zaa,ts1,hLs2,eL,a11]
      ·have p1:=hp.1 (by omega)
       have p2:=hp.2.1 (by omega)
       simp[hLs2,q5,C2,lC]
       refine zaM A3 ?_
       cases es:(zap kind (zau c) xn yn).2 with
       | true =>
        have hF:zaw L kind xn yn a c=((zap kind (zau c) xn yn).1,L1):=by rw[zaw]; simp only[p1,p2,←hL1,es,if_true,Bool.false_eq_true,if_false]
        simp[hF,fin0]
       | false =>
        simp[p1,p2,es,bl,zaa,ts1,hLs1,hLs2,hLs3,hLs4,a01,a11,a21,a31]
      ·have p1:=hp.1 (by omega)
       have p2:=hp.2.1 (by omega)
       have p3:=hp.2.2.1 (by omega)
       simp[hLs3,q5,C3,lC]
       refine zaM A4 ?_
       cases es:(sw&&(zap kind (zau a) yn xn).2) with
       | true =>
        have es':zbo kind=true∧(zap kind (zau a) yn xn).2=true:=by rw[←hsw]; simpa using es
        have hF:zaw L kind xn yn a c=((zap kind (zau a) yn xn).1,L1):=by rw[zaw]; simp only[p1,p2,p3,←hL1,es',if_true,Bool.false_eq_true,if_false,and_self]
        have esw:sw=true:=by rw[hsw]; exact es'.1
        simp[hF,fin0,esw]
       | false =>
        simp[p1,p2,p3,es,bl,zaa,ts1,hLs1,hLs2,hLs3,hLs4,a01,a11,a21,a31]
        exact fun hh=>by simpa[hh] using es
     ·obtain rfl:i=4:=by omega
      have p1:=hp.1 (by omega)
      have p2:=hp.2.1 (by omega)
      have p3:=hp.2.2.1 (by omega)
      have p4:=hp.2.2.2 (by omega)
      have esw:zbo kind=false:=by rw[←hsw]; exact hw
      have hF:zaw L kind xn yn a c=putN L1 (zci kind xn yn):=by rw[zaw]; simp only[p1,p2,p3,←hL1,esw,Bool.false_eq_true,if_false,false_and]
      simp[hLs4,q4,q2,q3,q1,q0,hw]
      rw[hBB]
      simp[-za6,nz,g0,gk,sk,hfill]
      refine zai (done xn yn hF) ?_
      simp[fin2]
end Go.Ev
/- The numbers of a book's values. -/
namespace Go.Ev
open Go Go.RowKit
variable {G:Tbl}
variable {H:Heap} {b z m:Nat} {L:List Nd}
def zd4(L:List Nd):Int×List Nd:=putN L (zas (0::zae 34))
noncomputable def bNeg(L:List Nd)(x:Int):Int×List Nd:=if hasI L x=true then bAlu (zd4 L).2 20 (zd4 L).1 x else(-1,L)
theorem zjk(h:Inv L):Ext L (zd4 L).2 1:=(zbN h (zbV (by simp) (zcA (by decide)) _)).1
theorem zwJ[HasWd G][HasAffine G][HasBits G][HasSym G](x:Int)(h:Bk H b z m L)(hi:Inv L)(hs:L.length<999980):BF G 275 [.int .i64 x] H b z m (bNeg L x):=by
 refine zbz HasSym.h_sym_Book_Neg (Nat.le_of_ble_eq_true rfl) ?_
 have hbk:=h.shut.self
 have hus:=h.upd_self
 simp
 refine zai (zfr x h) ?_
 cases hx:hasI L x with
 | false =>
  have hR:bNeg L x=(-1,L):=by rw[bNeg,if_neg (by simp[hx])]
  simp[hR,hbk,hus]
 | true =>
  have hR:bNeg L x=bAlu (zd4 L).2 20 (zd4 L).1 x:=by rw[bNeg,if_pos hx]
  have e1:=zjk hi
  have l1:=e1.len
  have h1:=h.to e1.inv (by omega)
  simp[hbk]
  have hz:=zeI (G:=G) 0 h (by omega)
  refine zai hz ?_
  have hA:=zkU (G:=G) 20 (zd4 L).1 x h1 e1.inv (by omega)
  rw[BF,h.upd_upd] at hA
  have fin:=h.back (bAlu (zd4 L).2 20 (zd4 L).1 x).2 []
  simp at fin
  simp
  refine zai hA ?_
  simp[hR,fin]
/-! Numbers. -/
def aluV(kind:Int)(o o':Option Nat):Option Nat:=match o,o' with
 | some l,some r=>if(doW kind l r).2=true then some (doW kind l r).1 else none
 | _,_=>none
noncomputable def nval(v:List Nat)(acc:List (Option Nat))(a:Nd):Option Nat :=
 if a.kind=0 then some (zaI a.f v) else if a.kind=1 then(asB a).map fun p=>val p.1 p.2 (asg v)
 else aluV a.op acc[a.x]?.join acc[a.y]?.join
noncomputable def vals(v:List Nat)(L:List Nd):List (Option Nat):=L.foldl (fun acc a=>acc++[nval v acc a]) []
section
variable {v:List Nat}
theorem znO(L:List Nd)(a:Nd):vals v (L++[a])=vals v L++[nval v (vals v L) a]:=by simp[vals]
theorem zbp:∀ L:List Nd,(vals v L).length=L.length:=by
 intro L
 have:∀(L:List Nd) (acc:List (Option Nat)),(L.foldl (fun acc a=>acc++[nval v acc a]) acc).length=acc.length+L.length:=fun L=>by
  induction L with
  | nil=>intro acc; rfl
  | cons a L ih=>intro acc; simp only[List.foldl_cons,ih]; simp; omega
 simpa[vals] using this L []
theorem zuY:∀(L M:List Nd),vals v L <+: vals v (L++M):=by
 intro L M
 have:∀(M:List Nd) (acc:List (Option Nat)),acc <+: M.foldl (fun acc a=>acc++[nval v acc a]) acc:=fun M=>by
  induction M with
  | nil=>intro acc; exact List.prefix_refl _
  | cons a M ih=>intro acc; exact(List.prefix_append _ _).trans (ih _)
 rw[vals,vals,List.foldl_append]
 exact this M _
theorem zpy{L L':List Nd}(h:L <+: L'):vals v L <+: vals v L':=by obtain⟨M,rfl⟩:=h; exact zuY L M
theorem zeW(L:List Nd)(i:Nat):(vals v L).take i=vals v (L.take i):=by
 have h:=zpy (v:=v) (List.take_prefix i L)
 obtain⟨t,ht⟩:=h
 by_cases hi:i≤L.length
 ·rw[←ht,List.take_left' (by rw[zbp,List.length_take]; omega)]
 ·rw[List.take_of_length_le (by rw[zbp]; omega),List.take_of_length_le (by omega)]
theorem zqM{i:Nat}{a:Nd}(h:L[i]?=some a):(vals v L)[i]?=some (nval v (vals v (L.take i)) a):=by
 have hl:=(List.getElem?_eq_some_iff.1 h).1
 have e:L.take (i+1)=L.take i++[a]:=by rw[List.take_add_one,h]; rfl
 have h1:=zeW (v:=v) L (i+1)
 rw[e,znO] at h1
 have h2:((vals v L).take (i+1))[i]?=(vals v L)[i]?:=by rw[List.getElem?_take]; simp
 rw[←h2,h1,List.getElem?_append_right (by rw[zbp,List.length_take]; omega),zbp,List.length_take]
 rw[show i-min i L.length=0 by omega]
 rfl
end
theorem zpz(f v:List Nat):zaI f v<4294967296:=Nat.mod_lt _ (by decide)
theorem zmV{v:List Nat}{k i:Nat}{o:Option Nat}(hi:Inv L)(h:(vals v (L.take k))[i]?=some o):o.getD 0<4294967296:=by
 have main:∀(i:Nat) (o:Option Nat),(vals v L)[i]?=some o→o.getD 0<4294967296:=fun i=>by
  induction i using Nat.strongRecOn with
  | _ i ih =>
   intro o ho
   have hl:=(List.getElem?_eq_some_iff.1 ho).1
   rw[zbp] at hl
   have ha:=zal hl
   rw[zqM ha] at ho
   cases ho
   have hg:=hi.good i _ ha
   have sub:∀ j,j<i→(vals v (L.take i))[j]?=(vals v L)[j]?:=fun j hj=>by rw[←zeW,List.getElem?_take,if_pos hj]
   rw[nval]
   split
   ·exact zpz _ _
   ·split
    ·cases e:asB L[i] with
     | none=>simp
     | some p=>simp only[Option.map_some,Option.getD_some]; exact zwV _ _ _
    ·rcases hg.2.2 with h|h|⟨_,hx,hy,_⟩
     ·contradiction
     ·contradiction
     ·unfold aluV
      split
      ·rename_i l r el er
       split
       ·rw[sub _ hx] at el
        rw[sub _ hy] at er
        obtain⟨o1,h1,h1'⟩:∃ o1,(vals v L)[L[i].x]?=some o1∧o1=some l:=by
         cases e:(vals v L)[L[i].x]? with
         | none=>rw[e] at el; cases el
         | some o1=>rw[e] at el; exact⟨o1,rfl,el⟩
        obtain⟨o2,h2,h2'⟩:∃ o2,(vals v L)[L[i].y]?=some o2∧o2=some r:=by
         cases e:(vals v L)[L[i].y]? with
         | none=>rw[e] at er; cases er
         | some o2=>rw[e] at er; exact⟨o2,rfl,er⟩
        have b1:=ih _ hx _ h1
        have b2:=ih _ hy _ h2
        rw[h1'] at b1
        rw[h2'] at b2
        exact zob _ b1 b2
       ·simp
      ·simp
 by_cases hik:i<k
 ·rw[←zeW,List.getElem?_take,if_pos hik] at h
  exact main i o h
 ·rw[←zeW,List.getElem?_take,if_neg hik] at h
  cases h
noncomputable def valI(v:List Nat)(L:List Nd)(x:Int):Option Nat:=if hasI L x=true then(vals v L)[x.toNat]?.join else none
def kn(l:List (Option Nat)):List V:=(l.map fun o=>[V.int .u32 (o.getD 0:Nat),.bool o.isSome]).flatten
theorem zfp(l:List (Option Nat)):(kn l).length=2*l.length:=by
 induction l with
 | nil=>rfl
 | cons o l ih=>simp[kn] at ih ⊢; omega
theorem zmW:∀(l:List (Option Nat)) (i:Nat),(kn l).drop (2*i)=kn (l.drop i)
 | [],i=>by simp[kn]
 | o::l,0=>rfl
 | o::l,i+1=>by
  have e:kn (o::l)=[V.int .u32 (o.getD 0:Nat),.bool o.isSome]++kn l:=rfl
  have e2:([V.int .u32 (o.getD 0:Nat),.bool o.isSome]++kn l).drop 2=kn l:=rfl
  rw[e,show 2*(i+1)=2+2*i by omega,←List.drop_drop,e2,zmW l i]
  rfl
theorem zqN:∀(l:List (Option Nat)) (i:Nat),(kn l).take (2*i)=kn (l.take i)
 | [],i=>by simp[kn]
 | o::l,0=>rfl
 | o::l,i+1=>by
  have e:kn (o::l)=[V.int .u32 (o.getD 0:Nat),.bool o.isSome]++kn l:=rfl
  rw[e,show 2*(i+1)=2*i+1+1 by omega]
  show V.int .u32 (o.getD 0:Nat)::.bool o.isSome::(kn l).take (2*i)=_
  rw[zqN l i]
  rfl
theorem zpA{l:List (Option Nat)}{i:Nat}{o:Option Nat}(h:l[i]?=some o):((kn l).drop (2*i)).take 2=[V.int .u32 (o.getD 0:Nat),.bool o.isSome]:=by
 rw[zmW]
 obtain⟨h1,rfl⟩:=List.getElem?_eq_some_iff.1 h
 rw[List.drop_eq_getElem_cons h1]
 rfl
theorem zxS{l:List (Option Nat)}{i:Nat}(h:i<l.length)(o:Option Nat):(kn l).take (2*i)++([V.int .u32 (o.getD 0:Nat),.bool o.isSome]++(kn l).drop (2*i+2))=kn (l.set i o):=by
 rw[zqN,show 2*i+2=2*(i+1) by omega,zmW,List.set_eq_take_append_cons_drop,if_pos h]
 simp[kn]
theorem zvr(l:List (Option Nat))(n:Nat):clL n (kn l)=kn l:=by
 induction l with
 | nil=>rfl
 | cons o l ih =>
  have e:kn (o::l)=.int .u32 (o.getD 0:Nat)::.bool o.isSome::kn l:=rfl
  rw[e]; simp[clL,V.cl,ih]
theorem ztn[HasWd G][HasAffine G][hB:HasBitsE G][HasSym G][HasSymEval G](x:Int)(v:List Nat)(h:Bk H b z m L)(hi:Inv L)(hv:v.length=34)(hvw:∀ c∈v,c<4294967296) :
  SF G 276 [.ptr b 0,.int .i64 x,.agg (zad .u32 v)] H (.tup [.int .u32 ((valI v L x).getD 0:Nat),.bool (valI v L x).isSome]) H:=by
 refine zbz HasSymEval.h_sym_Book_Eval (Nat.le_of_ble_eq_true rfl) ?_
 have htv:=zaj (k:=.u32) hv
 have h1:Bk (H++[some (.cells (zad .u32 v))]) b z m L:=h.app fun n=>by simp[Blk.cl]
 have hs1:=h1.shut.self
 have hsh:=h.shut.back
 have hlt:=h.lb
 have hb:=h.hb'
 have hb2:∀ r:Heap,(H++r)[b]?=some (some (.cells [.vs (nds L) (.own z),.mp m])):=fun r=>by rw[List.getElem?_append_left hlt]; exact hb
 have hsm:=h.small
 simp at hs1
 simp[hv,htv]
 refine zai (zfr x h1) ?_
 cases hx:hasI L x with
 | false=>simp[valI,hx,hsh]
 | true =>
  obtain⟨hx0,hx1⟩:0≤x∧x<L.length:=by simpa[hasI] using hx
  obtain⟨n,rfl⟩:=Int.eq_ofNat_of_zero_le hx0
  have hn:n<L.length:=by omega
  have hnsz:(∀ f∈nds L,f.length=60)=True:=eq_true (zsS h.ok)
  obtain⟨S,hS⟩:∃ S,S=(nds L).take (n+1):=⟨_,rfl⟩
  have hSl:S.length=n+1:=by rw[hS]; simp; omega
  have hSg:∀(i:Nat) (a:Nd),i<n+1→L[i]?=some a→S[i]?=some a.cs:=fun i a hi ha=>by rw[hS,List.getElem?_take,if_pos hi,zmI ha]
  have hrep:(List.replicate (n+1) [V.int .u32 0,V.bool false]).flatten=kn (List.replicate (n+1) none):=by simp[kn]
  simp(disch:=omega)[hs1,hb2,ap0,apk,zag,-Int.natCast_add,leT,leTn,hnsz,←hS,hSl,hrep]
  obtain⟨T,hT⟩:∃ T:Nat→List (Option Nat),∀ i,T i=vals v (L.take i)++List.replicate (n+1-i) none:=⟨_,fun _=>rfl⟩
  have T0:T 0=List.replicate (n+1) none:=by rw[hT]; simp[vals]
  have Tl:∀ i,i≤n+1→(T i).length=n+1:=fun i hi=>by rw[hT]; simp[zbp]; omega
  have Tg:∀ i j,i≤n+1→j<i→(T i)[j]?=(vals v (L.take i))[j]?:=fun i j hi hj=>by rw[hT,List.getElem?_append_left (by simp[zbp]; omega)]
  have Ts:∀(i:Nat) (a:Nd),i<n+1→L[i]?=some a→(T i).set i (nval v (vals v (L.take i)) a)=T (i+1):=fun i a hi ha=>by
   have e:L.take (i+1)=L.take i++[a]:=by rw[List.take_add_one,ha]; rfl
   have hl:(vals v (L.take i)).length=i:=by rw[zbp]; simp; omega
   rw[hT,hT,e,znO,List.set_append_right _ _ (by omega),hl,Nat.sub_self,show n+1-i=(n+1-(i+1))+1 by omega,List.replicate_succ,List.set_cons_zero,List.append_assoc]
   rfl
  obtain⟨BB,hBB⟩:∃ BB:Nat→Heap,∀ i,BB i=H++[some (.cells (zad .u32 v)),some (.cells (kn (T i)))]:=⟨_,fun _=>rfl⟩
  have hBk:∀ i,Bk (BB i) b z m L:=fun i=>by rw[hBB]; exact h.app fun n=>by simp[Blk.cl,zvr]
  have bl:∀ i,(BB i).length=H.length+2:=fun i=>by rw[hBB]; simp
  have tr:∀ i r,zac (H.length+2) (BB i++r)=BB i:=fun i r=>by have:=(hBk i).shut.back r; rwa[bl] at this
  have tr':∀ i r,zac (H.length+2) (H++some (.cells (zad .u32 v))::some (.cells (kn (T i)))::r)=BB i:=fun i r=>by have:=tr i r; rw[hBB] at this ⊢; simpa using this
  refine W_up (n+1) (fun i=>[(0,.ptr b 0),(1,.int .i64 n),(5,.ptr H.length 0),(8,.rs (H.length+1) 0 (n+1) 2),(32,.vs S .no),(33,.int .i64 (n+1:Nat)),(34,.int .i64 i)]) BB (fun _=>True) ?_ ?_
  ·have:=tr' 0 []
   have hb3:(b<H.length+2)=True:=eq_true (by omega)
   simp[zaa,←T0,this,hb3]
  intro i hi1 _
  by_cases hilt:i<n+1
  ·obtain⟨a,ha⟩:∃ a,L[i]?=some a:=⟨_,zal (by omega)⟩
   have hg:=hSg i a hilt ha
   have hgd:=hi.good i a ha
   have hl:=Nd.len hgd.1
   have htk:a.cs.take 60=a.cs:=List.take_of_length_le (by omega)
   have hd0:Nd0.cs.drop 60=[]:=rfl
   have hz60:Nd0.cs.length=60:=rfl
   have hge:S[i]'(by omega)=a.cs:=(List.getElem?_eq_some_iff.1 hg).2
   have t1:a.cs.take 1=[.int .i64 (a.kind:Int)]:=rfl
   have t35:a.cs.tail.take 35=zad .u32 a.f:=by
    show(zad .u32 a.f++_).take 35=_
    rw[List.take_left' (by simp[hgd.1.1])]
   have hsn:=Ts i a hilt ha
   have hTl:=Tl i (by omega)
   have kset:=zxS (l:=T i) (i:=i) (by omega) (nval v (vals v (L.take i)) a)
   rw[hsn,Nat.mul_comm 2 i] at kset
   have hin:((i:Int)<(n:Int)+1)=True:=eq_true (by omega)
   have hb3:(b<H.length+2)=True:=eq_true (by omega)
   have hi2:i*2+2≤2*(n+1):=by omega
   rw[hBB]
   simp(disch:=omega)[ltT,hilt,hge,hl,htk,hd0,hz60,nz,ap0,apk,set0,setk,leTn,leFn,hSl,t1]
   have S0:∀ r,zac (H.length+2) (H++some (.cells (zad .u32 v))::some (.cells (kn (T (i+1))))::r)=BB (i+1):=fun r=>tr' (i+1) r
   by_cases hk0:a.kind=0
   ·have hk:((a.kind:Int)==0)=true:=beqT (by omega)
    have nv:nval v (vals v (L.take i)) a=some (zaI a.f v):=by rw[nval,if_pos hk0]
    rw[nv] at kset
    simp only[Option.getD_some,Option.isSome_some,List.cons_append,List.nil_append] at kset
    simp(disch:=omega)[hk,t35,ap0,apk,set0,setk,leTn,leFn,hl,hv,htv]
    refine zab (zuv a.f v hgd.1.1 hv hgd.2.1.1) ?_
    simp(disch:=omega)[hk,t35,ap0,apk,set0,setk,leTn,leFn,hl,hv,htv,hTl,zfp,ltTn,hin,kset,S0,zaa,bl,hb3,zag,-Int.natCast_add]
   ·have hk:((a.kind:Int)==0)=false:=beqF (by omega)
    by_cases hk1:a.kind=1
    ·have hk':((a.kind:Int)==1)=true:=beqT (by omega)
     obtain⟨p,hp⟩:∃ p,asB a=some p:=by rw[asB,if_pos hk1]; exact⟨_,rfl⟩
     obtain⟨hR,hpw⟩:=zdy hgd.2.1 hp
     have nv:nval v (vals v (L.take i)) a=some (val p.1 p.2 (asg v)):=by rw[nval,if_neg hk0,if_pos hk1,hp]; rfl
     rw[nv] at kset
     simp only[Option.getD_some,Option.isSome_some,List.cons_append,List.nil_append] at kset
     have hR1:=hR.1
     have hR2:=zcd hR.1 hR.2.1
     have hev:=zvE hB p.1 p.2 v (by omega) (by omega) hpw hv hvw
     rw[zcv.2 hR,if_pos rfl] at hev
     simp only[FV] at hev
     simp(disch:=omega)[hk,hk',t35,ap0,apk,set0,setk,leTn,leFn,hl,hv,htv]
     refine zai (zcQ i a (h.app (r:=[some (.cells (zad .u32 v)),some (.cells (kn (T i))),some (.cells a.cs),none]) fun n=>by simp[Blk.cl,zvr,Nd.cs_cl]) ha hgd.2.1) ?_
     simp(disch:=omega)[hp,asBV,FV,hk,hk',t35,ap0,apk,set0,setk,leTn,leFn,hl,hv,htv]
     refine zab hev ?_
     simp(disch:=omega)[hk,t35,ap0,apk,set0,setk,leTn,leFn,hl,hv,htv,hTl,zfp,ltTn,hin,kset,S0,zaa,bl,hb3,zag,-Int.natCast_add]
    ·have hk':((a.kind:Int)==1)=false:=beqF (by omega)
     obtain⟨hk2,hax,hay,hop⟩:a.kind=2∧a.x<i∧a.y<i∧(doW a.op 0 1).2=true:=by rcases hgd.2.2 with h|h|h; exact absurd h hk0; exact absurd h hk1; exact h
     have e57:a.cs=(.int .i64 (a.kind:Int)::(zad .u32 a.f++.int .i64 (a.n:Int)::(zad .i64 a.vars++zad .u32 a.tab)))++[.int .i64 a.op,.int .i64 (a.x:Int),.int .i64 (a.y:Int)]:=by simp[Nd.cs]
     have l57:(V.int .i64 (a.kind:Int)::(zad .u32 a.f++.int .i64 (a.n:Int)::(zad .i64 a.vars++zad .u32 a.tab))).length=57:=by simp[hgd.1.1,hgd.1.2.1,hgd.1.2.2]
     have d57:a.cs.drop 57=[.int .i64 a.op,.int .i64 (a.x:Int),.int .i64 (a.y:Int)]:=by rw[e57]; exact List.drop_left' l57
     have d58:(a.cs.drop 58).take 1=[.int .i64 (a.x:Int)]:=by rw[show 58=57+1 from rfl,←List.drop_drop,d57]; rfl
     have d59:(a.cs.drop 59).take 1=[.int .i64 (a.y:Int)]:=by rw[show 59=57+2 from rfl,←List.drop_drop,d57]; rfl
     have d57':(a.cs.drop 57).take 1=[.int .i64 a.op]:=by rw[d57]; rfl
     obtain⟨ox,hox⟩:∃ o,(vals v (L.take i))[a.x]?=some o:=⟨_,zal (by rw[zbp,List.length_take]; omega)⟩
     obtain⟨oy,hoy⟩:∃ o,(vals v (L.take i))[a.y]?=some o:=⟨_,zal (by rw[zbp,List.length_take]; omega)⟩
     have gx:=zpA (l:=T i) (i:=a.x) (o:=ox) (by rw[Tg i a.x (by omega) hax,hox])
     have gy:=zpA (l:=T i) (i:=a.y) (o:=oy) (by rw[Tg i a.y (by omega) hay,hoy])
     rw[Nat.mul_comm] at gx gy
     have hxn:((a.x:Int)<(n:Int)+1)=True:=eq_true (by omega)
     have hyn:((a.y:Int)<(n:Int)+1)=True:=eq_true (by omega)
     have h31:H.length+3+1=H.length+4:=rfl
     simp(disch:=omega)[hk,hk',t35,ap0,apk,set0,setk,leTn,leFn,hl,hv,htv,d57',d58,d59,hxn,hyn,zfp,hTl,gx,gy,h31]
     have hdo:=zix (G:=G) (by infer_instance) a.op (ox.getD 0) (oy.getD 0) (zmV hi hox) (zmV hi hoy)
     refine zab hdo ?_
     simp(disch:=omega)[hk,hk',t35,ap0,apk,set0,setk,leTn,leFn,hl,hv,htv,d57',d58,d59,hxn,hyn,zfp,hTl,gx,gy,h31]
     have nv:nval v (vals v (L.take i)) a=aluV a.op ox oy:=by
      rw[nval,if_neg hk0,if_neg hk1,hox,hoy]; rfl
     have same:nval v (vals v (L.take i)) a=none→T (i+1)=T i:=fun e=>by
      rw[e] at hsn
      rw[←hsn]
      apply zeC
      rw[hT,List.getElem?_append_right (by rw[zbp,List.length_take]; omega),zbp,List.length_take,List.getElem?_replicate,if_pos (by omega)]
     have S1:T (i+1)=T i→∀ r,zac (H.length+2) (H++some (.cells (zad .u32 v))::some (.cells (kn (T i)))::r)=BB (i+1):=fun e r=>by rw[←e]; exact S0 r
     cases ox with
     | none =>
      have S2:=S1 (same nv)
      simp(disch:=omega)[S2,hk,hk',t35,ap0,apk,set0,setk,leTn,leFn,hl,hv,htv,hTl,zfp,ltTn,hin,kset,S0,zaa,bl,hb3,zag,-Int.natCast_add]
     | some l =>
      cases oy with
      | none =>
       have S2:=S1 (same nv)
       simp(disch:=omega)[S2,hk,hk',t35,ap0,apk,set0,setk,leTn,leFn,hl,hv,htv,hTl,zfp,ltTn,hin,kset,S0,zaa,bl,hb3,zag,-Int.natCast_add]
      | some r =>
       cases hd:(doW a.op l r).2 with
       | false =>
        have S2:=S1 (same (by rw[nv,aluV]; simp only[hd,Bool.false_eq_true,if_false]))
        simp(disch:=omega)[hd,S2,hk,hk',t35,ap0,apk,set0,setk,leTn,leFn,hl,hv,htv,hTl,zfp,ltTn,hin,kset,S0,zaa,bl,hb3,zag,-Int.natCast_add]
       | true =>
        rw[aluV] at nv
        simp only[hd,if_true] at nv
        rw[nv] at kset
        simp only[Option.getD_some,Option.isSome_some,List.cons_append,List.nil_append] at kset
        simp(disch:=omega)[hd,hk,hk',t35,ap0,apk,set0,setk,leTn,leFn,hl,hv,htv,hTl,zfp,ltTn,hin,kset,S0,zaa,bl,hb3,zag,-Int.natCast_add]
  ·obtain rfl:i=n+1:=by omega
   obtain⟨o,ho⟩:∃ o,(vals v L)[n]?=some o:=⟨_,zal (by rw[zbp]; omega)⟩
   have hv1:valI v L n=o:=by rw[valI,if_pos hx]; simp[ho]
   have hTo:(T (n+1))[n]?=some o:=by rw[Tg (n+1) n (by omega) (by omega),←zeW,List.getElem?_take,if_pos (by omega),ho]
   have hkg:=zpA hTo
   rw[Nat.mul_comm] at hkg
   have hTl:=Tl (n+1) (by omega)
   rw[hBB]
   have hin:((n:Int)<(n:Int)+1)=True:=eq_true (by omega)
   have k1:((kn (T (n+1))).drop (n*2)).take 1=[.int .u32 (o.getD 0:Nat)]:=by
    have:=congrArg (List.take 1) hkg
    rwa[List.take_take] at this
   have k2:((kn (T (n+1))).drop (n*2+1)).take 1=[.bool o.isSome]:=by
    have:=congrArg (List.drop 1) hkg
    rw[List.drop_take,List.drop_drop] at this
    exact this
   simp(disch:=omega)[hv1,ap0,apk,leTn,zfp,hTl,hin,k1,k2,hsh]
end Go.Ev
/- What the functions of hurdleref01 compute; and hurdleref15's Do and Apart. -/
namespace Go.Ev
open Go Go.RowKit
variable {G:Tbl}
theorem zto{a b:Nat}(h:a*b<4294967296):mulI .u32 (a:Int) (b:Int)=((a*b:Nat):Int):=by
 unfold mulI; rw[←Int.natCast_mul]; exact zaT h
end Go.Ev
/- The document's values: how each was made. -/
namespace Go.Ev
open Go Go.RowKit
variable {G:Tbl}
structure Md where
 kind:Int
 i:Int
 op:Int
 x:Int
 y:Int
 c:Nat
def Md.cs(a:Md):List V:=[.int .i64 a.kind,.int .i64 a.i,.int .i64 a.op,.int .i64 a.x,.int .i64 a.y,.int .u32 (a.c:Int)]
def mds(l:List Md):List (List V):=l.map Md.cs
@[simp] theorem zBl (l:List Md):(mds l).length=l.length:=by simp[mds]
def zbU(l:List Md)(i:Int):Bool:=decide (0≤i∧i<l.length)&&(match l[i.toNat]? with|some a=>decide (a.kind≠4)|none=>false)
def noMd:Md:=⟨4,0,0,0,0,0⟩
def zba(l:List Md)(a:Md):Md :=
 if a.kind=0 then⟨0,0,0,0,0,a.c⟩ else if a.kind=1∧0≤a.i∧a.i<34 then⟨1,a.i,0,0,0,0⟩
 else if a.kind=2∧(doW a.op 0 1).2=true∧zbU l a.x=true∧zbU l a.y=true then⟨2,0,a.op,a.x,a.y,0⟩
 else if a.kind=3∧zbU l a.x=true then⟨3,0,0,a.x,0,0⟩ else noMd
def rval(v:List Nat)(acc:List (Option Nat))(a:Md):Option Nat :=
 if a.kind=0 then some a.c else if a.kind=1 then some (v[a.i.toNat]?.getD 0) else if a.kind=2 then aluV a.op acc[a.x.toNat]?.join acc[a.y.toNat]?.join
 else if a.kind=3 then(acc[a.x.toNat]?.join).map negW else none
def refs(v:List Nat)(l:List Md):List (Option Nat):=l.foldl (fun acc a=>acc++[rval v acc a]) []
section
variable {v:List Nat} {l:List Md}
theorem ztp(l:List Md)(a:Md):refs v (l++[a])=refs v l++[rval v (refs v l) a]:=by simp[refs]
theorem zlF:∀ l:List Md,(refs v l).length=l.length:=by
 intro l
 have:∀(l:List Md) (acc:List (Option Nat)),(l.foldl (fun acc a=>acc++[rval v acc a]) acc).length=acc.length+l.length:=fun l=>by
  induction l with
  | nil=>intro acc; rfl
  | cons a l ih=>intro acc; simp only[List.foldl_cons,ih]; simp; omega
 simpa[refs] using this l []
def mdOk(l:List Md):Prop:=∀(i:Nat) (a:Md),l[i]?=some a→a.c<4294967296∧(a.kind=0∨a.kind=1∧0≤a.i∧a.i<34∨a.kind=2∧0≤a.x∧a.x<i∧0≤a.y∧a.y<i∨a.kind=3∧0≤a.x∧a.x<i∨a.kind=4)
end
end Go.Ev
/- Values made one by one. -/
namespace Go.Ev
open Go Go.RowKit
variable {G:Tbl}
variable {H:Heap} {b z m:Nat} {L:List Nd}
def atI(l:List Int)(i:Int):Int:=if 0≤i∧i<l.length then l[i.toNat]?.getD 0 else -1
structure MS where
 L:List Nd
 ids:List Int
 made:List Md
noncomputable def zcJ(s:MS)(a:Md):Int×List Nd :=
 if a.kind=0 then putN s.L (zas (a.c::zae 34)) else if a.kind=1 then varN s.L a.i else if a.kind=2 then bAlu s.L a.op (atI s.ids a.x) (atI s.ids a.y)
 else if a.kind=3 then bNeg s.L (atI s.ids a.x) else(-1,s.L)
noncomputable def zhW(s:MS)(a:Md):MS:=⟨(zcJ s a).2,s.ids++[(zcJ s a).1],s.made++[zba s.made a]⟩
theorem zpB{kind:Int}{a c:Nd}(h:Inv L)(ha:a.wf)(hc:c.wf):Ext L (zaA L kind a c).2.2 1:=by
 cases e1:asB a with
 | none=>simp only[zaA,e1,noR]; exact .refl h 1
 | some p =>
  cases e2:asB c with
  | none=>simp only[zaA,e1,e2,noR]; exact .refl h 1
  | some q =>
   cases e3:bdo kind p q with
   | none=>simp only[zaA,e1,e2,e3,noR]; exact .refl h 1
   | some r =>
    simp only[zaA,e1,e2,e3,okP]
    obtain⟨_,hR,hw,_⟩:=ziJ e3
    exact(zok h hR hw).1
theorem zkh{kind:Int}{x y n:Nat}(hk:(doW kind 0 1).2=true)(hx:x<n)(hy:y<n):(zci kind x y).good n :=
 ⟨⟨rfl,rfl,rfl⟩,⟨zbA 35,fun h=>by cases h⟩,.inr (.inr ⟨rfl,hx,hy,hk⟩)⟩
theorem zmX{kind x y:Int}(h:Inv L):Ext L (bAlu L kind x y).2 2:=by
 rw[bAlu]
 split
 case isFalse=>exact .refl h 2
 rename_i hk
 obtain⟨hk,hx,hy⟩:=hk
 obtain⟨hx0,hx1⟩:0≤x∧x<L.length:=by simpa[hasI] using hx
 obtain⟨hy0,hy1⟩:0≤y∧y<L.length:=by simpa[hasI] using hy
 obtain⟨xn,rfl⟩:=Int.eq_ofNat_of_zero_le hx0
 obtain⟨yn,rfl⟩:=Int.eq_ofNat_of_zero_le hy0
 obtain⟨a,ha⟩:∃ a,L[xn]?=some a:=⟨_,zal (by omega)⟩
 obtain⟨c,hc⟩:∃ c,L[yn]?=some c:=⟨_,zal (by omega)⟩
 have hga:=h.good _ _ ha
 have hgc:=h.good _ _ hc
 simp only[Int.toNat_natCast,ha,hc,zaw]
 have e1:=zlE (kind:=kind) h hga.1 hgc.1 hga.2.1 hgc.2.1
 have e2:=zpB (kind:=kind) e1.inv hga.2.1 hgc.2.1
 have l1:=e1.pre.length_le
 split
 ·exact e1.mono (by omega)
 ·split
  ·exact e1.trans e2
  ·split
   ·exact e1.mono (by omega)
   ·split
    ·exact e1.mono (by omega)
    ·split
     ·exact e1.trans (zbN e1.inv (zkh hk (by omega) (by omega))).1
     ·exact e1.trans (zbN e1.inv (zkh hk (by omega) (by omega))).1
theorem ziF{i:Int}(h:Inv L):Ext L (varN L i).2 1:=by
 rw[varN]
 split
 ·exact(zbN h (zbV (ziK _) (zmq _) _)).1
 ·exact .refl h 1
theorem zmY{x:Int}(h:Inv L):Ext L (bNeg L x).2 3:=by
 rw[bNeg]
 split
 ·exact(zjk h).trans (zmX (zjk h).inv)
 ·exact .refl h 3
theorem zuZ{s:MS}{a:Md}(h:Inv s.L)(hc:a.c<4294967296):Ext s.L (zhW s a).L 3:=by
 show Ext s.L (zcJ s a).2 3
 rw[zcJ]
 split
 ·exact(zbN h (zbV (by simp) (zcA hc) _)).1.mono (by omega)
 ·split
  ·exact(ziF h).mono (by omega)
  ·split
   ·exact(zmX h).mono (by omega)
   ·split
    ·exact zmY h
    ·exact .refl h 3
noncomputable def zwK(s:MS)(l:List Md):MS:=l.foldl zhW s
theorem Md.cs_cl(a:Md)(n:Nat):clL n a.cs=a.cs:=by simp[Md.cs,clL,V.cl]
end Go.Ev
/- Numbers of sums, bits and deeds: plain laws. -/
namespace Go.Ev
open Go Go.RowKit
variable {L:List Nd} {v:List Nat}
/-! Sums of multiples. -/
def dot:List Nat→List Nat→Int
 | a::f,b::v=>a*b+dot f v
 | _,_=>0
theorem zqO:∀(f v:List Nat),((List.zipWith (·*·) f v).sum:Nat)=dot f v
 | [],_=>by simp[dot]
 | _::_,[]=>by simp[dot]
 | a::f,b::v=>by
  have:=zqO f v
  simp only[List.zipWith_cons_cons,List.sum_cons,dot]
  omega
theorem zce{c:Nat}{t:List Nat}(ht:t.length=34)(hv:v.length=34):(zaI (c::t) v:Int)=((c:Int)+dot t v)%4294967296:=by
 have e:(fSum (c::t) v 34:Int)=dot t v:=by
  rw[fSum,List.drop_one,List.tail_cons,List.take_of_length_le (by simp[ht,hv]),zqO]
 rw[zaI,List.headD_cons]
 rw[←e]
 omega
def Cong(a b:Int):Prop:=∃ k:Int,a=b+4294967296*k
theorem zjl(a:Nat):∃ q:Int,((a%4294967296:Nat):Int)=(a:Int)-4294967296*q:=⟨((a/4294967296:Nat):Int),by omega⟩
theorem zqP:∀(f g v:List Nat),f.length=g.length→Cong (dot (fAdd f g) v) (dot f v+dot g v)
 | [],[],v,_=>⟨0,by simp[fAdd,dot]⟩
 | [],_::_,_,h=>by simp at h
 | _::_,[],_,h=>by simp at h
 | _::_,_::_,[],_=>⟨0,by simp[fAdd,dot]⟩
 | a::f,b::g,x::v,h=>by
  obtain⟨k,hk⟩:=zqP f g v (by simpa using h)
  obtain⟨q,hq⟩:=zjl (a+b)
  refine⟨k-q*x,?_⟩
  simp only[fAdd,List.zipWith_cons_cons,dot] at hk ⊢
  rw[hk,hq]
  simp only[Int.natCast_add]
  grind
theorem zqQ:∀(f g v:List Nat),f.length=g.length→(∀ x∈g,x<4294967296)→Cong (dot (fSub f g) v) (dot f v-dot g v)
 | [],[],v,_,_=>⟨0,by simp[fSub,dot]⟩
 | [],_::_,_,h,_=>by simp at h
 | _::_,[],_,h,_=>by simp at h
 | _::_,_::_,[],_,_=>⟨0,by simp[fSub,dot]⟩
 | a::f,b::g,x::v,h,hg=>by
  obtain⟨k,hk⟩:=zqQ f g v (by simpa using h) fun y hy=>hg y (by simp[hy])
  obtain⟨q,hq⟩:=zjl (a+4294967296-b)
  have hb:=hg b (by simp)
  have e:((a+4294967296-b:Nat):Int)=(a:Int)+4294967296-b:=by omega
  rw[e] at hq
  refine⟨k-q*x+x,?_⟩
  simp only[fSub,List.zipWith_cons_cons,dot] at hk ⊢
  rw[hk,hq]
  grind
theorem zqR(k:Nat):∀(f v:List Nat),Cong (dot (fMul f k) v) (dot f v*k)
 | [],v=>⟨0,by simp[fMul,dot]⟩
 | _::_,[]=>⟨0,by simp[fMul,dot]⟩
 | a::f,x::v=>by
  obtain⟨j,hj⟩:=zqR k f v
  obtain⟨q,hq⟩:=zjl (a*k)
  refine⟨j-q*x,?_⟩
  simp only[fMul,List.map_cons,dot] at hj ⊢
  rw[hj,hq]
  simp only[Int.natCast_mul]
  grind
theorem zeX{f:List Nat}(hf:f.length=35):∃ c t,f=c::t∧t.length=34:=by
 match f,hf with
 | c::t,h=>exact⟨c,t,rfl,by simpa using h⟩
theorem ztq{f g:List Nat}(hf:f.length=35)(hg:g.length=35)(hv:v.length=34):zaI (fAdd f g) v=(zaI f v+zaI g v)%4294967296:=by
 obtain⟨c,t,rfl,ht⟩:=zeX hf
 obtain⟨d,u,rfl,hu⟩:=zeX hg
 have e:fAdd (c::t) (d::u)=((c+d)%4294967296)::fAdd t u:=rfl
 have h1:=zce (c:=c) ht hv
 have h2:=zce (c:=d) hu hv
 have h3:=zce (c:=(c+d)%4294967296) (t:=fAdd t u) (v:=v) (by simp[fAdd,ht,hu]) hv
 obtain⟨k,hk⟩:=zqP t u v (by omega)
 rw[hk] at h3
 rw[e]
 omega
theorem znP{f g:List Nat}(hf:f.length=35)(hg:g.length=35)(hgw:∀ x∈g,x<4294967296)(hv:v.length=34):zaI (fSub f g) v=(zaI f v+4294967296-zaI g v)%4294967296:=by
 obtain⟨c,t,rfl,ht⟩:=zeX hf
 obtain⟨d,u,rfl,hu⟩:=zeX hg
 have e:fSub (c::t) (d::u)=((c+4294967296-d)%4294967296)::fSub t u:=rfl
 have h1:=zce (c:=c) ht hv
 have h2:=zce (c:=d) hu hv
 have h3:=zce (c:=(c+4294967296-d)%4294967296) (t:=fSub t u) (v:=v) (by simp[fSub,ht,hu]) hv
 obtain⟨k,hk⟩:=zqQ t u v (by omega) fun x hx=>hgw x (by simp[hx])
 have hd:=hgw d (by simp)
 rw[hk] at h3
 rw[e]
 omega
theorem zki{f:List Nat}(k:Nat)(hf:f.length=35)(hv:v.length=34):zaI (fMul f k) v=zaI f v*k%4294967296:=by
 obtain⟨c,t,rfl,ht⟩:=zeX hf
 have e:fMul (c::t) k=(c*k%4294967296)::fMul t k:=rfl
 have h1:=zce (c:=c) ht hv
 have h3:=zce (c:=c*k%4294967296) (t:=fMul t k) (v:=v) (by simp[fMul,ht]) hv
 obtain⟨j,hj⟩:=zqR k t v
 obtain⟨q,hq⟩:=zjl (c*k)
 rw[hj,hq] at h3
 rw[e]
 have h5:(zaI (c*k%4294967296::fMul t k) v:Int)=((c+dot t v)*k)%4294967296:=by
  rw[h3]
  have:((c*k:Nat):Int)-4294967296*q+(dot t v*k+4294967296*j)=(c+dot t v)*k+4294967296*(j-q):=by simp only[Int.natCast_mul]; grind
  rw[this,Int.add_mul_emod_self_left]
 have h6:((zaI (c::t) v*k%4294967296:Nat):Int)=((c+dot t v)*k)%4294967296:=by
  rw[Int.natCast_emod,Int.natCast_mul,h1,show((4294967296:Nat):Int)=4294967296 from rfl,Int.mul_emod,Int.emod_emod,←Int.mul_emod]
 omega
theorem zkj:∀(n:Nat) (v:List Nat),dot (zae n) v=0
 | 0,_=>by simp[zae,dot]
 | n+1,[]=>by simp[zae,List.replicate_succ,dot]
 | n+1,x::v=>by
  have:=zkj n v
  simp only[zae,List.replicate_succ,dot] at this ⊢
  omega
theorem zbG{c:Nat}(hc:c<4294967296)(hv:v.length=34):zaI (c::zae 34) v=c:=by
 have h:=zce (c:=c) (t:=zae 34) (v:=v) (by simp) hv
 rw[zkj] at h
 omega
theorem zqS:∀(n i:Nat) (v:List Nat) (h:i<v.length),i<n→dot ((zae n).set i 1) v=(v[i]:Nat)
 | 0,i,v,h,hi=>by omega
 | n+1,i,[],h,hi=>by simp at h
 | n+1,0,x::v,h,hi=>by
  have:=zkj n v
  simp only[zae,List.replicate_succ,List.set_cons_zero,dot,List.getElem_cons_zero] at this ⊢
  omega
 | n+1,i+1,x::v,h,hi=>by
  have:=zqS n i v (by simpa using h) (by omega)
  simp only[zae,List.replicate_succ,List.set_cons_succ,dot,List.getElem_cons_succ] at this ⊢
  omega
theorem zkk{i:Nat}(hi:i<34)(hv:v.length=34)(hw:∀ x∈v,x<4294967296):zaI (varL i) v=v[i]'(by omega):=by
 have e:varL i=0::(zae 34).set i 1:=rfl
 have h:=zce (c:=0) (t:=(zae 34).set i 1) (v:=v) (by simp) hv
 have h2:=hw _ (List.getElem_mem (show i<v.length by omega))
 rw[zqS 34 i v (by omega) hi] at h
 rw[e]
 omega
end Go.Ev
/- What arithmetic in a book comes to: plain laws. -/
namespace Go.Ev
open Go Go.RowKit
variable {L L':List Nd} {v:List Nat}
theorem znQ{c:Nat}(hc:c<4294967296)(r:Int→Nat):val [] [c] r=c:=by
 rw[val,←zij (w:=c) hc]
 exact zja fun i hi=>by simp[sem,idx,zij (w:=c) hc]
theorem zqT(i:Int)(r:Int→Nat)(hr:r i<4294967296):val [i] [0,ones] r=r i:=by
 rw[val,←zij (w:=r i) hr]
 refine zja fun j hj=>?_
 have e:ones.testBit j=true:=by rw[ones,show 4294967295=2^32-1 from rfl,Nat.testBit_two_pow_sub_one]; simpa using hj
 cases h:(r i).testBit j<;>simp[sem,idx,h,e]
theorem zu0{a:Nat}(ha:a<4294967296):a ^^^ ones=4294967295-a:=by
 refine Nat.eq_of_testBit_eq fun j=>?_
 rw[Nat.testBit_xor,ones,show 4294967295=2^32-1 from rfl,Nat.testBit_two_pow_sub_one,show 2^32-1-a=2^32-(a+1) by omega,Nat.testBit_two_pow_sub_succ ha]
 by_cases hj:j<32
 ·simp[hj]
 ·simp only[hj,decide_false,Bool.false_and,Bool.xor_false]
  exact Nat.testBit_lt_two_pow (Nat.lt_of_lt_of_le ha (Nat.pow_le_pow_right (n:=2) (i:=32) (by decide) (by omega)))
theorem zwL(i:Int)(r:Int→Nat)(hr:r i<4294967296):val [i] [ones,0] r=4294967295-r i:=by
 have h:=zrR (kind:=164) (fv:=[i]) (gv:=[]) (vs:=[i]) (ft:=[0,ones]) (gt:=[ones]) (tab:=[ones,0]) (.inr (.inr rfl)) (fun p=>by cases h:p i<;>simp[sem,idx,h,doW,ones]) r
 rw[zqT i r hr,znQ (by decide)] at h
 simp only[doW] at h
 rw[h]
 simp
 exact zu0 hr
theorem zdU{f:List Nat}{c:Nat}(hf:f.length=35)(h:zaZ f=some c):f=c::zae 34:=by
 obtain⟨d,t,rfl,ht⟩:=zeX hf
 rw[zaZ] at h
 split at h
 ·rename_i e
  cases h
  rw[←e]; rfl
 ·cases h
theorem zqU{f:List Nat}{i:Nat}(h:fOne f=some i):f=varL i:=by
 have:=List.find?_some h
 simpa using this
theorem zf5(i:Nat):valI v L i=(vals v L)[i]?.join:=by
 rw[valI]
 by_cases h:i<L.length
 ·have:hasI L i=true:=by simp[hasI]; exact h
  rw[if_pos this]; rfl
 ·have:¬hasI L i=true:=by simp[hasI]; omega
  rw[if_neg this,List.getElem?_eq_none (by rw[zbp]; omega)]; rfl
theorem zpC{a:Nd}{i:Nat}(ha:a.good i)(hl:i≤L.length):nval v (vals v (L.take i)) a=nval v (vals v L) a:=by
 rw[nval,nval]
 split
 ·rfl
 ·split
  ·rfl
  ·rcases ha.2.2 with h|h|⟨_,hx,hy,_⟩
   ·contradiction
   ·contradiction
   ·rw[←zeW,List.getElem?_take,if_pos hx,List.getElem?_take,if_pos hy]
theorem zkV{i:Nat}{a:Nd}(h:Inv L)(ha:L[i]?=some a):valI v L i=nval v (vals v L) a:=by
 rw[zf5,zqM ha,zpC (h.good i a ha) (by have:=(List.getElem?_eq_some_iff.1 ha).1; omega)]
 rfl
theorem zeF{k i:Nat}(h:Ext L L' k)(hi:i<L.length):valI v L' i=valI v L i:=by
 rw[zf5,zf5,zgZ (zpy h.pre) (zal (by rw[zbp]; exact hi)),zal (by rw[zbp]; exact hi)]
theorem zlG{a:Nd}{p:List Int×List Nat}{acc:List (Option Nat)}(ha:a.ok)(haw:a.wf)(hp:asB a=some p)(hv:v.length=34)(hw:∀ x∈v,x<4294967296):nval v acc a=some (val p.1 p.2 (asg v)):=by
 by_cases h1:a.kind=1
 ·rw[nval,if_neg (by omega),if_pos h1,hp]; rfl
 ·have h0:a.kind=0:=by
   by_cases h0:a.kind=0
   ·exact h0
   ·rw[asB,if_neg h1,if_neg h0] at hp; cases hp
  have hg:∀(i:Nat) (h:i<34),asg v (i:Int)=v[i]'(by omega):=fun i h=>by
   rw[asg,Int.toNat_natCast,List.getD_eq_getElem?_getD,zal (by omega)]; rfl
  have hgl:∀ i:Nat,i<34→asg v (i:Int)<4294967296:=fun i h=>by rw[hg i h]; exact hw _ (List.getElem_mem _)
  rw[nval,if_pos h0]
  rw[asB,if_neg h1,if_pos h0] at hp
  congr 1
  split at hp
  ·rename_i c hc
   cases hp
   have hlt:=zbq hc haw.1
   rw[zdU ha.1 hc,zbG hlt hv,znQ hlt]
  ·split at hp
   ·rename_i i hi
    cases hp
    have hl:=zkp hi
    rw[zqU hi,zkk hl hv hw,zqT _ _ (hgl i hl),hg i hl]
   ·split at hp
    ·rename_i i hi
     cases hp
     have hl:=zkp hi
     have e:=congrArg (zaI · v) (zqU hi)
     rw[znP (by simp) ha.1 haw.1 hv,zkk hl hv hw,zbG (by decide) hv] at e
     have hb:=zpz a.f v
     rw[zwL _ _ (hgl i hl),hg i hl,←e]
     simp only[ones]
     omega
    ·cases hp
def Res(v:List Nat)(p:Int×List Nd)(o:Option Nat):Prop:=∃ i:Nat,p.1=i∧i<p.2.length∧valI v p.2 i=o
theorem zqV{a:Nd}(h:Inv L)(ha:a.good L.length):Res v (putN L a) (nval v (vals v L) a):=by
 obtain⟨e,i,h1,h2⟩:=zbN h ha
 refine⟨i,h1,(List.getElem?_eq_some_iff.1 h2).1,?_⟩
 rw[zkV e.inv h2]
 have:L=(putN L a).2.take L.length:=by
  obtain⟨t,ht⟩:=e.pre
  rw[←ht,List.take_left' rfl]
 conv=>rhs; rw[this]
 rw[zpC ha e.pre.length_le]
theorem zkW{f:List Nat}(h:Inv L)(hf:f.length=35)(hw:∀ c∈f,c<4294967296):Res v (putN L (zas f)) (some (zaI f v)):=zqV h (zbV hf hw _)
theorem zu1{fv:List Int}{ft:List Nat}(h:Inv L)(hR:Right fv ft)(hw:∀ c∈ft,c<4294967296)(hv:v.length=34)(hvw:∀ x∈v,x<4294967296):Res v (zb4 L fv ft) (some (val fv ft (asg v))):=by
 obtain⟨e,i,a,h1,h2,h3⟩:=zok h hR hw
 refine⟨i,h1,(List.getElem?_eq_some_iff.1 h2).1,?_⟩
 have hg:=e.inv.good i a h2
 rw[zkV e.inv h2,zlG hg.1 hg.2.1 h3 hv hvw]
theorem zkl{kind:Int}{a c:Nat}(h:(doW kind a c).2=true):aluV kind (some a) (some c)=some (doW kind a c).1:=by rw[aluV]; simp only[h,if_true]
theorem zn0{k:Nat}:(doW 100 1 k).1=2^(k%32)%4294967296:=by simp[doW]
theorem zu2{kind:Int}{a c:Nd}(h:Inv L)(ha:a.ok)(hc:c.ok)(haw:a.wf)(hcw:c.wf)(hv:v.length=34)(ht:(zaz L kind a c).2.1=true) :
  a.kind=0∧c.kind=0∧Res v ((zaz L kind a c).1,(zaz L kind a c).2.2) (aluV kind (some (zaI a.f v)) (some (zaI c.f v))):=by
 rw[zaz] at ht ⊢
 split at ht
 case isFalse=>simp[noR] at ht
 rename_i hk
 rw[if_pos hk]
 refine⟨hk.1,hk.2,?_⟩
 have conv:∀(f:List Nat) (n:Nat),f.length=35→(∀ c∈f,c<4294967296)→zaI f v=n→(doW kind (zaI a.f v) (zaI c.f v)).2=true→(doW kind (zaI a.f v) (zaI c.f v)).1=n →
   Res v ((okP (putN L (zas f))).1,(okP (putN L (zas f))).2.2) (aluV kind (some (zaI a.f v)) (some (zaI c.f v))):=fun f n hf hw e h1 h2=>by
  rw[zkl h1,h2,←e]
  exact zkW h hf hw
 by_cases k4:kind=4
 ·simp only[k4,if_true] at ht ⊢
  subst k4
  exact conv _ _ (zoi ha.1 hc.1) (zp6 _ _) (ztq ha.1 hc.1 hv) (by simp[doW]) (by simp[doW])
 by_cases k20:kind=20
 ·simp only[k4,k20,if_true,if_false] at ht ⊢
  subst k20
  exact conv _ _ (zlc ha.1 hc.1) (zmr _ _) (znP ha.1 hc.1 hcw.1 hv) (by simp[doW]) (by simp[doW])
 simp only[k4,k20,if_false] at ht ⊢
 have mul:∀ k,zaZ c.f=some k→kind=36→Res v ((okP (putN L (zas (fMul a.f k)))).1,(okP (putN L (zas (fMul a.f k)))).2.2) (aluV kind (some (zaI a.f v)) (some (zaI c.f v))):=fun k ek k36=>by
  have hlt:=zbq ek hcw.1
  have ec:zaI c.f v=k:=by rw[zdU hc.1 ek,zbG hlt hv]
  subst k36
  exact conv _ _ (zdz _ ha.1) (zeJ _ _) (zki k ha.1 hv) (by simp[doW]) (by rw[ec]; simp[doW])
 have lsh:∀ k,zaZ c.f=some k→kind=100→Res v ((okP (putN L (zas (fMul a.f (doW 100 1 k).1)))).1,(okP (putN L (zas (fMul a.f (doW 100 1 k).1)))).2.2) (aluV kind (some (zaI a.f v)) (some (zaI c.f v))):=fun k ek k100=>by
  have hlt:=zbq ek hcw.1
  have ec:zaI c.f v=k:=by rw[zdU hc.1 ek,zbG hlt hv]
  subst k100
  refine conv _ _ (zdz _ ha.1) (zeJ _ _) (zki _ ha.1 hv) (by simp[doW]) ?_
  rw[ec,zn0]
  simp[doW,Nat.mul_mod]
 split at ht
 ·rename_i u k eu ek
  try simp only[eu,ek]
  split at ht
  ·rename_i k36
   rw[if_pos k36]
   exact mul k ek k36
  ·rename_i k36
   rw[if_neg k36]
   split at ht
   ·rename_i k100
    rw[if_pos k100]
    exact lsh k ek k100
   ·rename_i k100
    rw[if_neg k100]
    simp only at ht
    have hu:=zbq eu haw.1
    have hk':=zbq ek hcw.1
    have e1:zaI a.f v=u:=by rw[zdU ha.1 eu,zbG hu hv]
    have e2:zaI c.f v=k:=by rw[zdU hc.1 ek,zbG hk' hv]
    have hlt:=zob kind hu hk'
    rw[e1,e2,zkl ht]
    have:=zkW (v:=v) h (f:=(doW kind u k).1::zae 34) (by simp) (zcA hlt)
    rwa[zbG hlt hv] at this
 ·rename_i k eu ek
  try simp only[eu,ek]
  split at ht
  ·rename_i k36
   rw[if_pos k36]
   exact mul k ek k36
  ·rename_i k36
   rw[if_neg k36]
   split at ht
   ·rename_i k100
    rw[if_pos k100]
    exact lsh k ek k100
   ·simp[noR] at ht
 ·rename_i u eu ek
  try simp only[eu,ek]
  split at ht
  ·rename_i k36
   rw[if_pos k36]
   have hu:=zbq eu haw.1
   have e1:zaI a.f v=u:=by rw[zdU ha.1 eu,zbG hu hv]
   subst k36
   refine conv _ _ (zdz _ hc.1) (zeJ _ _) (zki u hc.1 hv) (by simp[doW]) ?_
   rw[e1]; simp[doW,Nat.mul_comm]
  ·simp[noR] at ht
 ·simp[noR] at ht
theorem zu3{kind:Int}{a c:Nd}(h:Inv L)(ha:a.wf)(hc:c.wf)(hv:v.length=34)(hvw:∀ x∈v,x<4294967296)(ht:(zaA L kind a c).2.1=true) :
  ∃ p q,asB a=some p∧asB c=some q∧Res v ((zaA L kind a c).1,(zaA L kind a c).2.2) (aluV kind (some (val p.1 p.2 (asg v))) (some (val q.1 q.2 (asg v)))):=by
 cases e1:asB a with
 | none=>simp[zaA,e1,noR] at ht
 | some p =>
  cases e2:asB c with
  | none=>simp[zaA,e1,e2,noR] at ht
  | some q =>
   cases e3:bdo kind p q with
   | none=>simp[zaA,e1,e2,e3,noR] at ht
   | some r =>
    refine⟨p,q,rfl,rfl,?_⟩
    simp only[zaA,e1,e2,e3,okP]
    obtain⟨hok,hR,hw,hs⟩:=ziJ e3
    have hd:∀ x y,(doW kind x y).2=true:=fun x y=>by rcases hok.1 with rfl|rfl|rfl<;>simp[doW]
    rw[zkl (hd _ _),←zrR hok.1 hs]
    exact zu1 h hR hw hv hvw
theorem zu4{a:Nat}(ha:a<4294967296):a &&& 4294967295=a:=by
 rw[show 4294967295=2^32-1 from rfl,Nat.and_two_pow_sub_one_eq_mod]
 exact Nat.mod_eq_of_lt ha
theorem znR{kind:Int}{c:Nd}{x y:Int}{ox oy:Option Nat}(hx:∀ w,ox=some w→w<4294967296)(hc:c.ok)(hcw:c.wf)(hv:v.length=34)(hy:c.kind=0→oy=some (zaI c.f v))(hxy:x=y→ox=oy)
  (ht:(zap kind (zau c) x y).2=true):(zap kind (zau c) x y).1=x∧ox=aluV kind ox oy:=by
 have hk:∀ k,zau c=some k→oy=some k:=fun k hk=>by
  rw[zau] at hk
  split at hk
  ·rename_i k0
   rw[hy k0,zdU hc.1 hk,zbG (zbq hk hcw.1) hv]
  ·cases hk
 have zero:zau c=some 0→(∀ w,w<4294967296→doW kind w 0=(w,true))→ox=aluV kind ox oy:=fun h0 hd=>by
  rw[hk 0 h0]
  cases ox with
  | none=>rfl
  | some w=>simp only[aluV,hd w (hx w rfl),if_true]
 have same:x=y→(∀ w,w<4294967296→doW kind w w=(w,true))→ox=aluV kind ox oy:=fun h0 hd=>by
  rw[←hxy h0]
  cases ox with
  | none=>rfl
  | some w=>simp only[aluV,hd w (hx w rfl),if_true]
 rw[zap] at ht ⊢
 split at ht
 ·rename_i hkk
  rw[if_pos hkk]
  refine⟨rfl,zero (by simpa using ht) fun w hw=>?_⟩
  rcases hkk with rfl|rfl|rfl|rfl<;>simp[doW]<;>omega
 ·rename_i h1
  rw[if_neg h1]
  split at ht
  ·rename_i h2
   rw[if_pos h2]
   subst h2
   refine⟨rfl,?_⟩
   simp at ht
   rcases ht with h|h
   ·exact zero h fun w hw=>by simp[doW]
   ·exact same h fun w hw=>by simp[doW]
  ·rename_i h2
   rw[if_neg h2]
   split at ht
   ·rename_i h3
    rw[if_pos h3]
    subst h3
    exact⟨rfl,zero (by simpa using ht) fun w hw=>by simp[doW]⟩
   ·rename_i h3
    rw[if_neg h3]
    split at ht
    ·rename_i h4
     rw[if_pos h4]
     subst h4
     refine⟨rfl,?_⟩
     simp at ht
     rcases ht with h|h
     ·rw[hk _ h]
      cases ox with
      | none=>rfl
      | some w=>simp[aluV,doW,ones,zu4 (hx w rfl)]
     ·exact same h fun w hw=>by simp[doW]
    ·simp at ht
theorem zu5{kind:Int}(h:zbo kind=true)(a b:Nat):doW kind a b=doW kind b a:=by
 simp[zbo] at h
 obtain⟨h1,h2,h3,h4⟩:=h
 simp only[doW,h1,h2,h3,h4,if_false,Nat.add_comm a b,Nat.mul_comm a b,Nat.or_comm a b,Nat.and_comm a b,Nat.xor_comm a b]
theorem znS{kind:Int}(h:zbo kind=true)(o o':Option Nat):aluV kind o o'=aluV kind o' o:=by
 cases o<;>cases o'<;>simp[aluV]
 rw[zu5 h]
theorem zmZ{i:Nat}{w:Nat}(h:Inv L)(hw:valI v L i=some w):w<4294967296:=by
 rw[zf5] at hw
 cases e:(vals v L)[i]? with
 | none=>rw[e] at hw; cases hw
 | some o =>
  rw[e] at hw
  have:=zmV (k:=L.length) (o:=o) (i:=i) h (by rw[List.take_length]; exact e)
  rw[show o=some w from hw] at this
  exact this
theorem zqW{kind x y:Int}(h:Inv L)(hv:v.length=34)(hvw:∀ c∈v,c<4294967296)(hk:(doW kind 0 1).2=true)(hx:hasI L x=true)(hy:hasI L y=true) :
  Res v (bAlu L kind x y) (aluV kind (valI v L x) (valI v L y)):=by
 rw[bAlu,if_pos ⟨hk,hx,hy⟩]
 obtain⟨hx0,hx1⟩:0≤x∧x<L.length:=by simpa[hasI] using hx
 obtain⟨hy0,hy1⟩:0≤y∧y<L.length:=by simpa[hasI] using hy
 obtain⟨xn,rfl⟩:=Int.eq_ofNat_of_zero_le hx0
 obtain⟨yn,rfl⟩:=Int.eq_ofNat_of_zero_le hy0
 obtain⟨a,ha⟩:∃ a,L[xn]?=some a:=⟨_,zal (by omega)⟩
 obtain⟨c,hc⟩:∃ c,L[yn]?=some c:=⟨_,zal (by omega)⟩
 have hga:=h.good _ _ ha
 have hgc:=h.good _ _ hc
 simp only[Int.toNat_natCast,ha,hc]
 have e1:=zlE (kind:=kind) h hga.1 hgc.1 hga.2.1 hgc.2.1
 obtain⟨L1,hL1⟩:∃ L1,L1=(zaz L kind a c).2.2:=⟨_,rfl⟩
 rw[←hL1] at e1
 have l1:=e1.pre.length_le
 have vx:=zkV (v:=v) h ha
 have vy:=zkV (v:=v) h hc
 have vx1:=zeF (v:=v) e1 (i:=xn) (by omega)
 have vy1:=zeF (v:=v) e1 (i:=yn) (by omega)
 have e2:=zpB (kind:=kind) e1.inv hga.2.1 hgc.2.1
 rw[zaw]
 simp only[←hL1]
 split
 ·rename_i ht
  obtain⟨k1,k2,hr⟩:=zu2 (v:=v) h hga.1 hgc.1 hga.2.1 hgc.2.1 hv ht
  rw[vx,vy,nval,if_pos k1,nval,if_pos k2,hL1]
  exact hr
 ·split
  ·rename_i ht
   obtain⟨p,q,hp,hq,hr⟩:=zu3 (v:=v) e1.inv hga.2.1 hgc.2.1 hv hvw ht
   rw[vx,vy,zlG hga.1 hga.2.1 hp hv hvw,zlG hgc.1 hgc.2.1 hq hv hvw]
   exact hr
  ·have kx:a.kind=0→valI v L xn=some (zaI a.f v):=fun k=>by rw[vx,nval,if_pos k]
   have ky:c.kind=0→valI v L yn=some (zaI c.f v):=fun k=>by rw[vy,nval,if_pos k]
   split
   ·rename_i ht
    obtain⟨h1,h2⟩:=znR (v:=v) (x:=(xn:Int)) (y:=(yn:Int)) (fun w hw=>zmZ h hw) hgc.1 hgc.2.1 hv ky (fun e=>by rw[e]) ht
    refine⟨xn,h1,by show xn<L1.length; omega,?_⟩
    rw[←h2]
    exact vx1
   ·split
    ·rename_i ht
     obtain⟨h1,h2⟩:=znR (v:=v) (x:=(yn:Int)) (y:=(xn:Int)) (fun w hw=>zmZ h hw) hga.1 hga.2.1 hv kx (fun e=>by rw[e]) ht.2
     refine⟨yn,h1,by show yn<L1.length; omega,?_⟩
     rw[znS ht.1,←h2]
     exact vy1
    ·have deed:∀ u w:Nat,u<L.length→w<L.length→Res v (putN L1 (zci kind u w)) (aluV kind (valI v L u) (valI v L w)):=fun u w hu hw=>by
      have:=zqV (v:=v) e1.inv (zkh (kind:=kind) (x:=u) (y:=w) hk (by omega) (by omega))
      have e:nval v (vals v L1) (zci kind u w)=aluV kind (valI v L u) (valI v L w):=by
       rw[←zeF (v:=v) e1 hu,←zeF (v:=v) e1 hw,zf5,zf5]; rfl
      rwa[e] at this
     split
     ·rename_i ht
      rw[znS ht.1]
      exact deed yn xn (by omega) (by omega)
     ·exact deed xn yn (by omega) (by omega)
theorem zwM{i:Int}(h:Inv L)(hv:v.length=34)(hvw:∀ c∈v,c<4294967296)(h0:0≤i)(h1:i<34):Res v (varN L i) (some (v[i.toNat]?.getD 0)):=by
 rw[varN,if_pos ⟨h0,h1⟩]
 have:=zkW (v:=v) h (ziK i.toNat) (zmq _)
 rw[zkk (by omega) hv hvw] at this
 rw[zal (by omega)]
 exact this
theorem znT{c:Nat}(h:Inv L)(hv:v.length=34)(hc:c<4294967296):Res v (putN L (zas (c::zae 34))) (some c):=by
 have:=zkW (v:=v) h (f:=c::zae 34) (by simp) (zcA hc)
 rwa[zbG hc hv] at this
theorem zwN{x:Int}(h:Inv L)(hv:v.length=34)(hvw:∀ c∈v,c<4294967296)(hx:hasI L x=true):Res v (bNeg L x) ((valI v L x).map negW):=by
 rw[bNeg,if_pos hx]
 obtain⟨hx0,hx1⟩:0≤x∧x<L.length:=by simpa[hasI] using hx
 obtain⟨xn,rfl⟩:=Int.eq_ofNat_of_zero_le hx0
 have e:=zjk h
 obtain⟨i,h1,h2,h3⟩:=znT (v:=v) h hv (c:=0) (by decide)
 have hl:=e.pre.length_le
 have r:=zqW (v:=v) (kind:=20) (x:=(zd4 L).1) (y:=(xn:Int)) e.inv hv hvw (by decide) (by rw[zd4,h1]; simp[hasI]; exact h2) (by simp[hasI]; omega)
 have e1:valI v (zd4 L).2 (zd4 L).1=some 0:=by rw[zd4,h1]; exact h3
 rw[e1,zeF e (by omega)] at r
 have e2:aluV 20 (some 0) (valI v L xn)=(valI v L xn).map negW:=by
  cases valI v L xn with
  | none=>rfl
  | some w=>simp[aluV,doW,negW]
 rwa[e2] at r
end Go.Ev
/- What the functions of ins, and those of hurdleref02, compute. -/
namespace Go.Ev
open Go Go.RowKit
variable {G:Tbl}
structure In4 where
 op:Int
 jt:Int
 jf:Int
 k:Nat
 deriving DecidableEq
def In4.cs(x:In4):List V:=[.int .i64 x.op,.int .i64 x.jt,.int .i64 x.jf,.int .u32 (x.k:Int)]
def IV(x:In4):V:=.agg x.cs
def IL(l:List In4):List (List V):=l.map In4.cs
def FL(l:List In4):V:=.vs (IL l) .no
@[simp] theorem zBG (l:List In4):(IL l).length=l.length:=by simp[IL]
@[simp] theorem IL_get (l:List In4) (i:Nat):(IL l)[i]?=(l[i]?).map In4.cs:=by simp[IL]
@[simp] theorem IL_nil:IL []=[]:=rfl
theorem zeY(l:List In4):IL l=[]↔l=[]:=by simp[IL]
theorem zkm(l m:List In4):IL l++IL m=IL (l++m):=by simp[IL]
@[simp] theorem zkX (l:List In4) (x:In4):IL l++[x.cs]=IL (l++[x]):=by simp[IL]
@[simp] theorem IL_sz (l:List In4):(∀ f∈IL l,f.length=4)=True:=by
 simp only[eq_iff_iff,iff_true]
 intro f hf
 simp only[IL,List.mem_map] at hf
 obtain⟨x,_,rfl⟩:=hf
 rfl
@[simp] theorem zBH (x:In4):x.cs.length=4:=rfl
abbrev Row4:=Int×List UInt8×Bool×Bool
def zbF(r:Row4):List V:=[.int .i64 r.1,.str r.2.1,.bool r.2.2.1,.bool r.2.2.2]
def za5(op:Int):Option Row4:=zaC.find? fun r=>r.1==op
theorem zqX{α β:Type}(g:α→List β)(k:Nat)(hk:∀ a,(g a).length=k):∀(l:List α) (n:Nat) (a:α),l[n]?=some a→(((l.map g).flatten).drop (n*k)).take k=g a
 | [],n,a,h=>by simp at h
 | b::l,0,a,h=>by
  simp at h; subst h
  simp[List.take_append_of_le_length,hk]
 | b::l,n+1,a,h=>by
  simp only[List.getElem?_cons_succ] at h
  rw[List.map_cons,List.flatten_cons,Nat.add_mul,Nat.one_mul,Nat.add_comm,←hk b,List.drop_length_add_append]
  have:=zqX g k hk l n a h
  rw[hk b]
  exact this
theorem ztr{n:Nat}{r:Row4}(h:zaC[n]?=some r):(zaS.drop (n*4)).take 4=zbF r:=zqX (fun r:Row4=>zbF r) 4 (fun _=>rfl) zaC n r h
theorem zgT:zaS.length=156:=by decide
theorem zp0:zaS.take 156=zaS:=by rw[List.take_of_length_le]; rw[zgT]; exact Nat.le_refl _
theorem znU(n:Nat):clL n zaS=zaS:=by
 rw[zan]
 simp[zaS,List.map_flatten,Function.comp_def,V.cl]
def ofV(op:Int):V:=match za5 op with
 | some r=>.tup [.agg (zbF r),.bool true]
 | none=>.tup [.agg [.int .i64 0,.str [],.bool false,.bool false],.bool false]
theorem znV{α:Type}{p:α→Bool}{l:List α}(h:∀(n:Nat) (a:α),l[n]?=some a→p a=false):l.find? p=none:=by
 rw[List.find?_eq_none]
 intro a ha
 obtain⟨n,hn⟩:=List.getElem?_of_mem ha
 simp[h n a hn]
theorem zm0{α:Type}{p:α→Bool}:∀{l:List α} {n:Nat} {a:α},l[n]?=some a→p a=true→(∀(m:Nat) (b:α),m<n→l[m]?=some b→p b=false)→l.find? p=some a
 | [],n,a,h,_,_=>by simp at h
 | b::l,0,a,h,hp,_=>by simp at h; subst h; simp[hp]
 | b::l,n+1,a,h,hp,hn=>by
  rw[List.find?_cons]
  rw[hn 0 b (by omega) rfl]
  exact zm0 (by simpa using h) hp fun m c hm hc=>hn (m+1) c (by omega) (by simpa using hc)
def zod(op:Int)(n:Nat):Prop:=∀(m:Nat) (b:Row4),m<n→zaC[m]?=some b→(b.1==op)=false
theorem zrG[HasIns G](op:Int):FP G 139 [.int .i64 op] (ofV op):=by
 refine zak HasIns.h_ins_of (Nat.le_of_ble_eq_true rfl) ?_
 simp[zgT,zp0]
 refine W_up 39 (fun n=>[(0,.int .i64 op),(2,.ptr 0 0),(6,.agg zaS),(7,.int .i64 n)]) (fun _=>[some (.cells [.int .i64 0,.str [],.bool false,.bool false])])
  (fun n=>zod op n) ?_ ?_
 ·simp[zaa,zac,znU]
  intro m b hm; omega
 intro n hn hall
 by_cases hlt:n<39
 ·obtain⟨r,hr⟩:∃ r,zaC[n]?=some r:=⟨_,List.getElem?_eq_getElem (show n<zaC.length from hlt)⟩
  have hs:=ztr hr
  by_cases he:r.1=op
  ·have:za5 op=some r:=zm0 hr (by simpa using he) hall
   simp(disch:=omega)[ltT,leTn,zgT,hs,zbF,he,this,ofV,-Int.natCast_add]
  ·have hall':zod op (n+1):=fun m b hm hb=>by
    by_cases hmn:m=n
    ·subst hmn; rw[hr] at hb; cases hb; simpa using he
    ·exact hall m b (by omega) hb
   simp(disch:=omega)[ltT,leTn,zgT,hs,zbF,beqF,he,zag,hlt,zaa,zac,znU,hall',-Int.natCast_add]
 ·have hne:n=39:=by omega
  subst hne
  have:za5 op=none:=znV fun m b hb=>hall m b (by have:=(List.getElem?_eq_some_iff.1 hb).1; exact this) hb
  simp[this,ofV]
theorem zc2{op:Int}{r:Row4}(h:za5 op=some r):r.1=op∧r∈zaC:=by
 have h1:=List.find?_some h
 exact⟨by simpa using h1,List.mem_of_find?_eq_some h⟩
theorem zjm{op:Int}(h:za5 op=none):∀ r∈zaC,r.1≠op:=fun r hr=>by
 have:=List.find?_eq_none.1 h r hr
 simpa using this
def aluT(op:Int):Int×Bool×Bool :=
 if op∈[4,20,36,52,68,84,100,116,164] then(op,false,true) else if op∈[12,28,44,60,76,92,108,124,172] then(op-8,true,true) else(0,false,false)
def isBr(op:Int):Bool:=decide (op∈[21,37,53,69,29,45,61,77])
def zax(op:Int):Bool:=decide (op=6∨op=22)
theorem zu6{op:Int}(h:za5 op=none):aluT op=(0,false,false):=by
 have h1:∀ p∈[4,20,36,52,68,84,100,116,164,12,28,44,60,76,92,108,124,172],∃ r∈zaC,r.1=p:=by decide
 unfold aluT
 rw[if_neg,if_neg]
 ·intro hm
  obtain⟨r,hr,he⟩:=h1 op (by simp only[List.mem_cons,List.not_mem_nil,or_false] at hm ⊢; omega)
  exact zjm h r hr he
 ·intro hm
  obtain⟨r,hr,he⟩:=h1 op (by simp only[List.mem_cons,List.not_mem_nil,or_false] at hm ⊢; omega)
  exact zjm h r hr he
theorem zqY{op:Int}(h:za5 op=none):isBr op=false:=by
 have h1:∀ p∈[21,37,53,69,29,45,61,77],∃ r∈zaC,r.1=p:=by decide
 simp only[isBr,decide_eq_false_iff_not]
 intro hm
 obtain⟨r,hr,he⟩:=h1 op hm
 exact zjm h r hr he
theorem ziG[HasIns G](x:In4):FP G 143 [IV x] (.bool (zax x.op)):=by
 refine zak HasIns.h_ins_Ends (Nat.le_of_ble_eq_true rfl) ?_
 simp[IV,In4.cs]
 by_cases h:x.op=6
 ·simp[h,zax]
 ·by_cases h2:x.op=22<;>simp[h,h2,beqF,zax]
theorem zcf[HasIns G](x:In4):FP G 142 [IV x] (.bool (isBr x.op)):=by
 refine zak HasIns.h_ins_Branch (Nat.le_of_ble_eq_true rfl) ?_
 simp[IV,In4.cs]
 refine zab (zrG x.op) ?_
 unfold ofV
 cases h:za5 x.op with
 | none=>simp[zqY h]
 | some r =>
  obtain⟨he,hr⟩:=zc2 h
  have key:∀ r∈zaC,(decide (andI .i64 r.1 7=5)&&decide (r.1≠5))=isBr r.1:=by decide
  have key:=key r hr
  rw[he] at key
  by_cases h1:andI .i64 x.op 7=5
  ·by_cases h2:x.op=5
   ·simp[h1,h2] at key; simp[zbF,h1,h2]; rw[h2] at h1; simp[h1]; exact key
   ·simp[h1,h2] at key; simp[zbF,h1,h2,bneT,key]
  ·simp[h1] at key; simp[zbF,h1,beqF,key]
theorem ziH[HasIns G](x:In4):FP G 141 [IV x] (.tup [.int .i64 (aluT x.op).1,.bool (aluT x.op).2.1,.bool (aluT x.op).2.2]):=by
 refine zak HasIns.h_ins_Alu (Nat.le_of_ble_eq_true rfl) ?_
 simp[IV,In4.cs]
 refine zab (zrG x.op) ?_
 unfold ofV
 cases h:za5 x.op with
 | none=>simp[zu6 h]
 | some r =>
  obtain⟨he,hr⟩:=zc2 h
  have key:∀ r∈zaC,aluT r.1=if andI .i64 r.1 7≠4∨r.1=132 then(0,false,false) else(zkt .i64 r.1 8,decide (andI .i64 r.1 8>0),true):=by decide
  have key:=key r hr
  rw[he] at key
  by_cases h1:andI .i64 x.op 7=4
  ·by_cases h2:x.op=132
   ·have h3:andI .i64 132 7=4:=by decide
    rw[if_pos (.inr h2)] at key; simp[zbF,h2,h3,bneF,beqT,h2▸key]
   ·rw[if_neg (by simp[h1,h2])] at key; simp[zbF,h1,h2,bneF,beqF,key]
  ·rw[if_pos (.inl h1)] at key; simp[zbF,h1,bneT,key]
def zaV(x:In4):Bool:=match za5 x.op with
 | some r=>(r.2.2.1||decide (x.k=0))&&(if r.2.2.2 then decide (0≤x.jt∧x.jt≤255∧0≤x.jf∧x.jf≤255) else decide (x.jt=0∧x.jf=0))
 | none=>false
theorem znW[HasIns G](x:In4):FP G 140 [IV x] (.bool (zaV x)):=by
 refine zak HasIns.h_ins_Right (Nat.le_of_ble_eq_true rfl) ?_
 simp[IV,In4.cs]
 refine zab (zrG x.op) ?_
 unfold ofV zaV
 cases h:za5 x.op with
 | none=>simp
 | some r =>
  obtain⟨op,w,has,ways⟩:=r
  have ways_ok:∀{H:Heap},True:=trivial
  cases has
  ·by_cases hk:x.k=0
   ·cases ways
    ·by_cases h1:x.jt=0
     ·by_cases h2:x.jf=0<;>simp[zbF,hk,h1,h2,beqF]
     ·simp[zbF,hk,h1,beqF]
    ·by_cases h1:0≤x.jt
     ·by_cases h2:x.jt≤255
      ·by_cases h3:0≤x.jf
       ·by_cases h4:x.jf≤255<;>simp[zbF,hk,h1,h2,h3,h4]
       ·simp[zbF,hk,h1,h2,h3]
      ·simp[zbF,hk,h1,h2]
     ·simp[zbF,hk,h1]
   ·have hk':((x.k:Int) !=0)=true:=bneT (by omega)
    simp[zbF,hk,hk']
  ·cases ways
   ·by_cases h1:x.jt=0
    ·by_cases h2:x.jf=0<;>simp[zbF,h1,h2,beqF]
    ·simp[zbF,h1,beqF]
   ·by_cases h1:0≤x.jt
    ·by_cases h2:x.jt≤255
     ·by_cases h3:0≤x.jf
      ·by_cases h4:x.jf≤255<;>simp[zbF,h1,h2,h3,h4]
      ·simp[zbF,h1,h2,h3]
     ·simp[zbF,h1,h2]
    ·simp[zbF,h1]
/- hurdleref02. -/
def zkY:List Int:=zaC.map (·.1)
theorem zxT[HasR2 G]:FP G 177 [] (.vs (ints .i64 zkY) .no):=by
 refine zak HasR2.h_hurdleref02_Ops (Nat.le_of_ble_eq_true rfl) ?_
 simp[ints,zkY,zaC]
theorem zpD[HasR2 G](op:Int):∃ p:Int,FP G 176 [.int .i64 op] (.int .i64 p) ∧
  ((∃(n:Nat) (r:Row4),p=n∧zaC[n]?=some r∧za5 op=some r)∨p=-1∧za5 op=none):=by
 have main:∀ p:Int,((∃(n:Nat) (r:Row4),p=n∧zaC[n]?=some r∧za5 op=some r)∨p=-1∧za5 op=none)→FP G 176 [.int .i64 op] (.int .i64 p):=by
  intro p hp
  refine zak HasR2.h_hurdleref02_place (Nat.le_of_ble_eq_true rfl) ?_
  simp
  refine zab zxT ?_
  simp
  refine W_up 39 (fun n=>[(0,.int .i64 op),(3,.vs (ints .i64 zkY) .no),(4,.int .i64 n)]) (fun _=>[]) (fun n=>zod op n) ?_ ?_
  ·simp[zaa,zac]
   intro m b hm; omega
  intro n hn hall
  have hl:zkY.length=39:=rfl
  by_cases hlt:n<39
  ·obtain⟨r,hr⟩:∃ r,zaC[n]?=some r:=⟨_,List.getElem?_eq_getElem (show n<zaC.length from hlt)⟩
   have ho:zkY[n]?=some r.1:=by simp[zkY,hr]
   obtain⟨_,hg⟩:=List.getElem?_eq_some_iff.1 ho
   by_cases he:r.1=op
   ·have hs:za5 op=some r:=zm0 hr (by simpa using he) hall
    have:p=n:=by
     rcases hp with⟨n',r',rfl,h1,h2⟩|⟨_,h2⟩
     ·rw[hs] at h2; cases h2
      have h3:zaC.length=39:=rfl
      have h4:∀ i j:Fin 39,zaC[i.1]?=zaC[j.1]?→i=j:=by decide
      have hn':n'<39:=by have:=(List.getElem?_eq_some_iff.1 h1).1; omega
      have:=h4 ⟨n',hn'⟩ ⟨n,hlt⟩ (by rw[h1,hr])
      simp at this; rw[this]
     ·rw[hs] at h2; cases h2
    simp(disch:=omega)[ltT,ho,hg,he,hl,this,-Int.natCast_add]
   ·have hall':zod op (n+1):=fun m b hm hb=>by
     by_cases hmn:m=n
     ·subst hmn; rw[hr] at hb; cases hb; simpa using he
     ·exact hall m b (by omega) hb
    simp(disch:=omega)[ltT,ho,hg,beqF,he,hl,zag,hlt,zaa,zac,hall',-Int.natCast_add]
  ·have hne:n=39:=by omega
   subst hne
   have hs:za5 op=none:=znV fun m b hb=>hall m b (by have:=(List.getElem?_eq_some_iff.1 hb).1; exact this) hb
   have:p=-1:=by
    rcases hp with⟨n',r',rfl,h1,h2⟩|⟨h1,_⟩
    ·rw[hs] at h2; cases h2
    ·exact h1
   simp[hl,this]
 cases h:za5 op with
 | none=>exact⟨-1,main _ (.inr ⟨rfl,h⟩),.inr ⟨rfl,rfl⟩⟩
 | some r =>
  obtain⟨he,hr⟩:=zc2 h
  obtain⟨n,hn⟩:=List.getElem?_of_mem hr
  exact⟨n,main _ (.inl ⟨n,r,rfl,hn,h⟩),.inl ⟨n,r,rfl,hn,rfl⟩⟩
def zpE(i:Int):Bool:=decide (13≤i∧i≤24∨i=30∨35≤i)
theorem zts[HasR2 G](i:Int):FP G 175 [.int .i64 i] (.bool (zpE i)):=by
 refine zak HasR2.h_hurdleref02_plain (Nat.le_of_ble_eq_true rfl) ?_
 unfold zpE
 by_cases h1:13≤i
 ·by_cases h2:i≤24
  ·simp[h1,h2]
  ·by_cases h3:i=30
   ·simp[h1,h2,h3]
   ·by_cases h4:35≤i<;>simp[h1,h2,h3,h4,beqF]
 ·simp[h1,show¬35≤i from by omega,show¬i=30 from by omega,beqF]
theorem zjn[HasR2 G](i:Int):FP G 174 [.int .i64 i] (.bool (decide (31≤i))):=by
 refine zak HasR2.h_hurdleref02_branch (Nat.le_of_ble_eq_true rfl) ?_
 simp
theorem zc3[HasR2 G](x:In4):FP G 180 [IV x] (.bool (isBr x.op)):=by
 obtain⟨p,hp,hc⟩:=zpD (G:=G) x.op
 refine zak HasR2.h_hurdleref02_Branch (Nat.le_of_ble_eq_true rfl) ?_
 simp[IV,In4.cs]
 refine zab hp ?_
 simp
 refine zab (zjn p) ?_
 have:decide (31≤p)=isBr x.op:=by
  rcases hc with⟨n,r,rfl,h1,h2⟩|⟨rfl,h2⟩
  ·have key:∀ i:Fin 39,∀ r,zaC[i.1]?=some r→decide (31≤(i.1:Int))=isBr r.1:=by decide
   have hn:n<39:=by have:=(List.getElem?_eq_some_iff.1 h1).1; exact this
   have:=key ⟨n,hn⟩ r h1
   rw[(zc2 h2).1] at this
   exact this
  ·rw[zqY h2]; rfl
 simp[this]
theorem zlH[HasR2 G](x:In4):FP G 181 [IV x] (.bool (zax x.op)):=by
 refine zak HasR2.h_hurdleref02_Ends (Nat.le_of_ble_eq_true rfl) ?_
 simp[IV,In4.cs]
 by_cases h:x.op=6
 ·simp[h,zax]
 ·by_cases h2:x.op=22<;>simp[h,h2,beqF,zax]
theorem zrH[HasR2 G](x:In4):FP G 178 [IV x] (.bool (zaV x)):=by
 obtain⟨p,hp,hc⟩:=zpD (G:=G) x.op
 refine zak HasR2.h_hurdleref02_Right (Nat.le_of_ble_eq_true rfl) ?_
 simp[IV,In4.cs]
 refine zab hp ?_
 rcases hc with⟨n,r,rfl,h1,h2⟩|⟨rfl,h2⟩
 case inr=>simp[zaV,h2]
 have key:∀ i:Fin 39,∀ r,zaC[i.1]?=some r→zpE (i.1:Int)=!r.2.2.1∧decide (31≤(i.1:Int))=r.2.2.2:=by decide
 have hn:n<39:=by have:=(List.getElem?_eq_some_iff.1 h1).1; exact this
 obtain⟨k1,k2⟩:=key ⟨n,hn⟩ r h1
 simp only at k1 k2
 simp(disch:=omega)[ltF]
 refine zab (zts n) ?_
 unfold zaV
 rw[h2,k1]
 obtain⟨op,w,has,ways⟩:=r
 simp only at k2 ⊢
 have lt256:∀ j:Int,(j<256)=(j≤255):=fun j=>propext (by omega)
 have tail:∀ b:Bool,b=true→True:=fun _ _=>trivial
 cases has
 ·by_cases hk:x.k=0
  ·simp[hk]
   refine zab (zjn n) ?_
   rw[k2]
   cases ways
   ·by_cases h1:x.jt=0
    ·by_cases h2:x.jf=0<;>simp[h1,h2,beqF]
    ·simp[h1,beqF]
   ·by_cases h1:0≤x.jt
    ·by_cases h2:x.jt≤255
     ·by_cases h3:0≤x.jf
      ·by_cases h4:x.jf≤255<;>simp[lt256,h1,h2,h3,h4]
      ·simp[lt256,h1,h2,h3]
     ·simp[lt256,h1,h2]
    ·simp[lt256,h1]
  ·have hk':((x.k:Int) !=0)=true:=bneT (by omega)
   simp[hk,hk']
 ·simp
  refine zab (zjn n) ?_
  rw[k2]
  cases ways
  ·by_cases h1:x.jt=0
   ·by_cases h2:x.jf=0<;>simp[h1,h2,beqF]
   ·simp[h1,beqF]
  ·by_cases h1:0≤x.jt
   ·by_cases h2:x.jt≤255
    ·by_cases h3:0≤x.jf
     ·by_cases h4:x.jf≤255<;>simp[lt256,h1,h2,h3,h4]
     ·simp[lt256,h1,h2,h3]
    ·simp[lt256,h1,h2]
   ·simp[lt256,h1]
end Go.Ev
/- Which filters are sound: check. -/
namespace Go.Ev
open Go Go.RowKit
variable {G:Tbl}
def zbk(x:In4):Bool :=
 if x.op=32 then decide (x.k%4=0∧x.k<64) else if x.op=52 then decide (x.k≠0) else if x.op=2∨x.op=3∨x.op=96∨x.op=97 then decide (x.k<16) else if x.op=100∨x.op=116 then decide (x.k<32) else true
def oneB(x:In4)(left:Nat):Bool:=zaV x&&zbk x&&(if x.op=5 then decide (x.k<left) else true)&&(if isBr x.op then decide (x.jt<left∧x.jf<left) else true)
def zaN:List In4→Bool
 | []=>true
 | x::f=>oneB x f.length&&zaN f
def endB(f:List In4):Bool:=match f.getLast? with|some x=>zax x.op|none=>false
def zao(f:List In4):Bool:=decide (f.length≤4096)&&zaN f&&endB f
def zd5:List (V×V):=[(.int .i64 32,.fn 152 [.ptr 0 0]),(.int .i64 52,.fn 153 [.ptr 0 0]),(.int .i64 2,.fn 150 [.ptr 0 0]),(.int .i64 3,.fn 150 [.ptr 0 0]),(.int .i64 96,.fn 150 [.ptr 0 0]),(.int .i64 97,.fn 150 [.ptr 0 0]),
 (.int .i64 100,.fn 151 [.ptr 0 0]),(.int .i64 116,.fn 151 [.ptr 0 0])]
theorem zu7[HasCheck G]:Big G (.F 154 [] [] (.mp 1) [some (.cells [.fn 149 []]),some (.map zd5)]):=by
 refine F_of HasCheck.h_check_rules (Nat.le_of_ble_eq_true rfl) ?_
 simp[zd5]
theorem zkn[HasCheck G](H:Heap)(b:Bool)(n:Int):Big G (.F 149 [.bool b,.int .i64 n] H (.int .i64 (if b then 0 else n)) H):=by
 refine F_of HasCheck.h_check_rules_1 (Nat.le_of_ble_eq_true rfl) ?_
 cases b<;>simp
def RH(x:In4):Heap:=[some (.cells [.fn 149 []]),some (.map zd5),some (.cells x.cs)]
theorem zaG(n:Nat)(h:0<n):zd5.map (fun p=>(p.1.cl n,p.2.cl n))=zd5:=by simp[zd5,h]
theorem zhB{f:Nat}[HasCheck G](x:In4)(e:Int)(h:f=150∧e=(if decide (x.k<16) then 0 else 7)∨f=151∧e=(if decide (x.k<32) then 0 else 1)∨f=152∧e=(if decide (x.k%4=0∧x.k<64) then 0 else 6)∨f=153∧e=(if decide (x.k≠0) then 0 else 8)) :
  Big G (.F f [IV x,.ptr 0 0] (RH x) (.int .i64 e) (RH x++[some (.cells x.cs)])):=by
 have hr:remI (x.k:Int) 4=((x.k%4:Nat):Int):=zkB (b:=4)
 have l16:((x.k:Int)<16)=(x.k<16):=propext (by omega)
 have l32:((x.k:Int)<32)=(x.k<32):=propext (by omega)
 have l64:((x.k:Int)<64)=(x.k<64):=propext (by omega)
 have ne:((x.k:Int) !=0)=decide (x.k≠0):=by rw[Bool.eq_iff_iff]; simp
 rcases h with⟨rfl,rfl⟩|⟨rfl,rfl⟩|⟨rfl,rfl⟩|⟨rfl,rfl⟩
 ·refine F_of HasCheck.h_check_rules_2 (Nat.le_of_ble_eq_true rfl) ?_
  simp[IV,In4.cs,RH,l16]
  refine zaF (zkn _ _ _) (by simp) ?_
  simp[zac,zaG]
 ·refine F_of HasCheck.h_check_rules_3 (Nat.le_of_ble_eq_true rfl) ?_
  simp[IV,In4.cs,RH,l32]
  refine zaF (zkn _ _ _) (by simp) ?_
  simp[zac,zaG]
 ·refine F_of HasCheck.h_check_rules_4 (Nat.le_of_ble_eq_true rfl) ?_
  by_cases h4:x.k%4=0
  ·simp[IV,In4.cs,RH,hr,h4,l64]
   refine zaF (zkn _ _ _) (by simp) ?_
   simp[zac,zaG]
  ·have:((x.k%4:Nat):Int)≠0:=by omega
   simp[IV,In4.cs,RH,hr,h4,beqF this,-Int.natCast_emod]
   refine zaF (zkn _ _ _) (by simp) ?_
   simp[zac,zaG]
 ·refine F_of HasCheck.h_check_rules_5 (Nat.le_of_ble_eq_true rfl) ?_
  simp[IV,In4.cs,RH,ne]
  refine zaF (zkn _ _ _) (by simp) ?_
  simp[zac,zaG]
def waysL(x:In4)(at':Nat):List Int:=if zax x.op then [] else if x.op=5 then [((at'+1+x.k:Nat):Int)] else if isBr x.op then [(at':Int)+1+min x.jt x.jf,(at':Int)+1+max x.jt x.jf] else [((at'+1:Nat):Int)]
def In4.brOk(x:In4):Prop:=isBr x.op=true→0≤x.jt∧x.jt≤255∧0≤x.jf∧x.jf≤255
theorem zb8{x:In4}(h:zaV x=true):x.brOk:=by
 intro hb
 unfold zaV at h
 split at h
 ·rename_i r hr
  have key:∀ r∈zaC,isBr r.1=r.2.2.2:=by decide
  obtain⟨h1,h2⟩:=zc2 hr
  have:=key r h2
  rw[h1,hb] at this
  simp only[←this,if_true,Bool.and_eq_true,decide_eq_true_eq] at h
  exact h.2
 ·cases h
theorem zda(n:Nat)(h:n<4294967296):zaP .i64 (n:Int)=(n:Int):=by unfold zaP; exact IntWalk.i64_in _ ⟨by omega,by omega⟩
theorem ways_ok[HasIns G][HasCheck G](x:In4)(at':Nat)(hx:x.k<4294967296)(hb:x.brOk)(ha:at'≤5000):FP G 155 [IV x,.int .i64 at'] (.vs (ints .i64 (waysL x at')) .no):=by
 refine zak HasCheck.h_check_ways (Nat.le_of_ble_eq_true rfl) ?_
 have he:=ziG (G:=G) x
 have hbr:=zcf (G:=G) x
 have a1:addI .i64 (at':Int) 1=((at'+1:Nat):Int):=zag (by omega)
 simp[IV,In4.cs,a1,-Int.natCast_add] at he hbr ⊢
 refine zab he ?_
 cases h1:zax x.op
 ·have n6:zax x.op=false:=h1
  simp
  by_cases h5:x.op=5
  ·have a2:addI .i64 ((at'+1:Nat):Int) (x.k:Int)=((at'+1+x.k:Nat):Int):=addN (by omega)
   have a2':addI .i64 ((at':Int)+1) (x.k:Int)=((at'+1+x.k:Nat):Int):=by rw[←addN (a:=at'+1) (b:=x.k) (by omega)]; rfl
   have h15:zax 5=false:=by decide
   simp[h5,h15,zda x.k hx,a2,a2',waysL,ints,-Int.natCast_add]
  ·simp[h5,beqF]
   refine zab hbr ?_
   cases h2:isBr x.op
   ·simp[waysL,h1,h5,h2,ints]
   ·obtain⟨b1,b2,b3,b4⟩:=hb h2
    have mn:(if x.jf<x.jt then x.jf else x.jt)=min x.jt x.jf:=by omega
    have mx:(if x.jf>x.jt then x.jf else x.jt)=max x.jt x.jf:=by omega
    have a3:addI .i64 ((at'+1:Nat):Int) (min x.jt x.jf)=(at':Int)+1+min x.jt x.jf:=by rw[zav]<;>omega
    have a4:addI .i64 ((at'+1:Nat):Int) (max x.jt x.jf)=(at':Int)+1+max x.jt x.jf:=by rw[zav]<;>omega
    have mx':(if x.jt<x.jf then x.jf else x.jt)=max x.jt x.jf:=by omega
    have mn':(if x.jt>x.jf then x.jf else x.jt)=min x.jt x.jf:=by omega
    have mn2:(if x.jt≤x.jf then x.jt else x.jf)=min x.jt x.jf:=by omega
    have a5:addI .i64 ((at':Int)+1) (min x.jt x.jf)=(at':Int)+1+min x.jt x.jf:=by rw[zav]<;>omega
    have a6:addI .i64 ((at':Int)+1) (max x.jt x.jf)=(at':Int)+1+max x.jt x.jf:=by rw[zav]<;>omega
    simp[mn,mx,mx',mn',a3,a4,a5,a6,waysL,h1,h5,h2,ints,-Int.natCast_add]
 ·simp[waysL,h1]
def rpos(op:Int):Option (Nat×Nat) :=
 if op=32 then some (0,152) else if op=52 then some (1,153) else if op=2 then some (2,150) else if op=3 then some (3,150) else if op=96 then some (4,150) else if op=97 then some (5,150) else
 if op=100 then some (6,151) else if op=116 then some (7,151) else none
theorem zrI(op:Int):zbx (.sc .int) (.int .i64 op) zd5 0=some ((rpos op).map fun p=>(p.1,.fn p.2 [.ptr 0 0])):=by
 unfold rpos zd5
 by_cases h1:op=32; · subst h1; rfl
 by_cases h2:op=52; · subst h2; rfl
 by_cases h3:op=2; · subst h3; rfl
 by_cases h4:op=3; · subst h4; rfl
 by_cases h5:op=96; · subst h5; rfl
 by_cases h6:op=97; · subst h6; rfl
 by_cases h7:op=100; · subst h7; rfl
 by_cases h8:op=116; · subst h8; rfl
 simp[zbx,zbd,eqk,h1,h2,h3,h4,h5,h6,h7,h8,beqF]
theorem zwO[HasCheck G](x:In4){i f:Nat}(h:rpos x.op=some (i,f)):∃ e:Int,Big G (.F f [IV x,.ptr 0 0] (RH x) (.int .i64 e) (RH x++[some (.cells x.cs)]))∧(e=0↔zbk x=true):=by
 unfold rpos at h
 have r4 (a:Bool) (n:Int) (hn:n≠0):((if a=true then 0 else n)=0↔a=true):=by cases a<;>simp[hn]
 unfold zbk
 split at h
 ·rename_i h1; cases h; exact⟨_,zhB x _ (.inr (.inr (.inl ⟨rfl,rfl⟩))),by rw[r4 _ _ (by decide),if_pos h1]⟩
 split at h
 ·rename_i h0 h1; cases h; exact⟨_,zhB x _ (.inr (.inr (.inr ⟨rfl,rfl⟩))),by rw[r4 _ _ (by decide),if_neg h0,if_pos h1]⟩
 have two:¬x.op=32→¬x.op=52→x.op=2∨x.op=3∨x.op=96∨x.op=97→some (i,f)=some (i,150)→∃ e:Int,Big G (.F f [IV x,.ptr 0 0] (RH x) (.int .i64 e) (RH x++[some (.cells x.cs)])) ∧
   (e=0↔(if x.op=32 then decide (x.k%4=0∧x.k<64) else if x.op=52 then decide (x.k≠0) else if x.op=2∨x.op=3∨x.op=96∨x.op=97 then decide (x.k<16) else if x.op=100∨x.op=116 then decide (x.k<32) else true)=true):=by
  intro h0 h1 h2 h3; cases h3
  exact⟨_,zhB x _ (.inl ⟨rfl,rfl⟩),by rw[r4 _ _ (by decide),if_neg h0,if_neg h1,if_pos h2]⟩
 rename_i n1 n2
 split at h
 ·rename_i h1; cases h; exact two n1 n2 (.inl h1) rfl
 split at h
 ·rename_i h1; cases h; exact two n1 n2 (.inr (.inl h1)) rfl
 split at h
 ·rename_i h1; cases h; exact two n1 n2 (.inr (.inr (.inl h1))) rfl
 split at h
 ·rename_i h1; cases h; exact two n1 n2 (.inr (.inr (.inr h1))) rfl
 rename_i n3 n4 n5 n6
 have n7:¬(x.op=2∨x.op=3∨x.op=96∨x.op=97):=by omega
 split at h
 ·rename_i h1; cases h; exact⟨_,zhB x _ (.inr (.inl ⟨rfl,rfl⟩)),by rw[r4 _ _ (by decide),if_neg n1,if_neg n2,if_neg n7,if_pos (.inl h1)]⟩
 split at h
 ·rename_i h1; cases h; exact⟨_,zhB x _ (.inr (.inl ⟨rfl,rfl⟩)),by rw[r4 _ _ (by decide),if_neg n1,if_neg n2,if_neg n7,if_pos (.inr h1)]⟩
 cases h
theorem ztt{x:In4}(h:rpos x.op=none):zbk x=true:=by
 unfold rpos at h
 unfold zbk
 repeat' split at h
 all_goals first|(cases h; done)|skip
 rw[if_neg (by omega),if_neg (by omega),if_neg (by omega),if_neg (by omega)]
end Go.Ev
