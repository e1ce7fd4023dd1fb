/- compile.Compile: contract. -/
import Derived.Test.YtbkhoemaobbplaaGreatDoorParIW
import Derived.Test.YtbkhoemaobbplaaGreatDoorArgCW
import Derived.Test.YtbkhoemaobbplaaGreatDoorParCW
import Derived.Test.YtbkhoemaobbplaaGreatDoorEvWinCW
import Derived.Test.YtbkhoemaobbplaaGreatDoorRunAW
set_option linter.defProp false
set_option linter.unusedSimpArgs false
set_option linter.unusedVariables false
set_option maxHeartbeats 16000000
set_option maxRecDepth 10000
open Nat renaming le_of_ble_eq_true->aab,le_trans->aaf,le_refl->aai
open Bool renaming and_eq_true->aad
open List renaming find?_append->aae,findSome?_cons->aag
open Option renaming map_some->aah
namespace Go.Ev
open Go Go.RowKit
variable {G:aP}
structure Jb where
 p:Po
 f:List (List V)
 F:List (List V)
 T:List (List V)
 n:Int
 d:Bool
 of:List (List V)
 oc:List (List V)
 ot:List (List V)
 on:Int
 od:Bool
 at_:Int
 e:Int
 k1:Tk
 k2:Tk
 k3:Tk
 k4:Tk
 k5:Tk
 k6:Tk
 k7:Tk
def Jb.cs(j:Jb):List V:=[.vs (RL j.p.rules) j.k1,.int .u32 j.p.eR,.vs j.f j.k2,.vs j.F j.k3,.vs j.T j.k4,.int .i64 j.n,.bool j.d,.vs j.of j.k5,.vs j.oc j.k6,.vs j.ot j.k7,.int .i64 j.on,.bool j.od,.int .i64 j.at_,.int .i64 j.e]
def yM:List V:=[.vs [] .full,.vs [] .full,.vs [] .full,.int .i64 0,.bool false]
def kI(x y z:Int):List V:=[.int .i64 x,.int .i64 y,.int .i64 z]
def HC(S:List UInt8)(x y z:Int)(tb:List (List V))(j:Jb)(R:ae):ae :=
 some (.cells [.str S])::some (.cells (kI x y z))::some (.cells yM)::some (.cells j.cs)::some (.cells [.ptr 3 0])::some (.cells [.vs tb .no])::R
section
variable {S:List UInt8} {x y z:Int} {tb:List (List V)} {R:ae}
def zup[bE G]{j:Jb}{p:Po}{a e:Int}(h:FP G 467 [.str S] (.bf [.agg p.cs,.int .i64 a,.int .i64 e])) :
  bD G (.F 478 [.ptr 0 0,.ptr 4 0] (HC S x y z tb j R) (.bf []) (HC S x y z tb { j with p:=p,at_:=a,e:=e,k1:=.no } R)):=by
 refine eV bE.adw (aab rfl) ?_;simp only[Po.cs] at h;simp[HC,Jb.cs];refine aw h ?_;simp
def zBG[bE G]{j:Jb}{f:List (List V)}{e:Int}(h:FP G 428 [.agg j.p.cs] (.bf [.vs f .no,.int .i64 e])) :
  bD G (.F 479 [.ptr 4 0] (HC S x y z tb j R) (.bf []) (HC S x y z tb { j with f:=f,e:=e,k2:=.no } R)):=by
 refine eV bE.adx (aab rfl) ?_;simp only[Po.cs] at h;simp[HC,Jb.cs];refine aw h ?_;simp
def zBH[bE G]{j:Jb}{F T:List (List V)}{n:Int}{d:Bool}{e:Int}(h:FP G 365 [.vs j.f .no,.vs tb .no,.agg (kI x y z)] (.bf [.agg [.vs F .no,.vs T .no,.int .i64 n,.bool d],.int .i64 e])) :
  bD G (.F 480 [.ptr 4 0,.ptr 5 0,.ptr 1 0] (HC S x y z tb j R) (.bf []) (HC S x y z tb { j with F:=F,T:=T,n:=n,d:=d,e:=e,k3:=.no,k4:=.no } R)):=by
 refine eV bE.ady (aab rfl) ?_;simp only[kI] at h;simp[HC,Jb.cs,kI];refine aw h ?_;simp
def zBI[bE G]{j:Jb}{c:List (List V)}{e:Int}(h:FP G 351 [.vs j.F .no] (.bf [.vs c .no,.int .i64 e])) :
  bD G (.F 481 [.ptr 4 0] (HC S x y z tb j R) (.bf []) (HC S x y z tb { j with oc:=c,e:=e,k6:=.no } R)):=by
 refine eV bE.adz (aab rfl) ?_;simp[HC,Jb.cs];refine aw h ?_;simp
def zBJ[bE G]{j:Jb}{c:List (List V)}{e:Int}(h:FP G 477 [.vs j.T .no] (.bf [.vs c .no,.int .i64 e])) :
  bD G (.F 482 [.ptr 4 0] (HC S x y z tb j R) (.bf []) (HC S x y z tb { j with ot:=c,e:=e,k7:=.no } R)):=by
 refine eV bE.adA (aab rfl) ?_;simp[HC,Jb.cs];refine aw h ?_;simp
end
def u9:Jb:=⟨⟨[],0⟩,[],[],[],0,false,[],[],[],0,false,0,0,.full,.full,.full,.full,.full,.full,.full⟩
def gg:ae:=[some (.cells [.fn 478 [.ptr 0 0,.ptr 4 0],.fn 479 [.ptr 4 0],.fn 480 [.ptr 4 0,.ptr 5 0,.ptr 1 0],.fn 481 [.ptr 4 0],.fn 482 [.ptr 4 0]])]
def zDi{S:List UInt8}{x y z:Int}{tb:List (List V)}{j:Jb}(h:a_ 7 j.cs=j.cs):ak 7 (HC S x y z tb j gg)=HC S x y z tb j gg:=by simp[ak,HC,gg,az.cl,a_,V.cl,Tk.cl,kI,yM];simpa[a_] using h
def zy5{S:List UInt8}{x y z:Int}{tb:List (List V)}{j:Jb}:(HC S x y z tb j gg).length=7:=rfl
def zvW[bE G]{S:List UInt8}{tab:List (List V)}{x y z:Int}{tb:List (List V)}{te:Int}{p:Po}{a e:Int}(d:(e !=0)=true)(hd:FP G 476 [.vs tab .no] (.bf [.vs tb .no,.int .i64 te]))(h:FP G 467 [.str S] (.bf [.agg p.cs,.int .i64 a,.int .i64 e])) :
  FP G 483 [.str S,.vs tab .no,.agg (kI x y z)] (.bf [.agg [.vs [] .no,.vs [] .no,.vs [] .no,.int .i64 0,.bool false],.int .i64 a,.int .i64 e]):=by
 refine bA bE.adB (aab rfl) ?_;have c:=zup (S:=S) (x:=x) (y:=y) (z:=z) (tb:=tb) (R:=gg) (j:=u9) h;obtain⟨j,b⟩:∃j:Jb,j={ u9 with p:=p,at_:=a,e:=e,k1:=.no }:=⟨_,rfl⟩;rw[<-b] at c;have f:=zDi (S:=S) (x:=x) (y:=y) (z:=z) (tb:=tb) (j:=j) (by rw[b];simp[Jb.cs,u9,a_,V.cl,Tk.cl]);have g:=zy5 (S:=S) (x:=x) (y:=y) (z:=z) (tb:=tb) (j:=u9)
 have k:j.at_=a:=by rw[b]
 have l:j.e=e:=by rw[b]
 simp[kI];refine aw hd ?_;simp;refine aN 1 (λi=>[(6,.ptr 2 0),(9,.ptr 4 0),(28,.rs 6 0 5 1),(29,.int .i64 5),(30,.int .i64 i)]) (λ_=>HC S x y z tb u9 gg) (λi=>i=0) ?_ ?_
 .simp[au,ak,HC,gg,kI,yM,u9,Jb.cs,RL,az.cl,a_,V.cl,Tk.cl]
 rintro i hi rfl;have m:(HC S x y z tb u9 gg)[6]?=some (some (.cells [.fn 478 [.ptr 0 0,.ptr 4 0],.fn 479 [.ptr 4 0],.fn 480 [.ptr 4 0,.ptr 5 0,.ptr 1 0],.fn 481 [.ptr 4 0],.fn 482 [.ptr 4 0]])):=rfl;simp[m];refine kF (by simpa using c) (λh=>by simp at h) ?_;rw[g,f];simp[HC,Jb.cs,k,l,d,kI,yM]
def zvX[bE G]{S:List UInt8}{tab:List (List V)}{x y z:Int}{tb:List (List V)}{te:Int}{J:Nat->Jb}(o:J 0=u9)(hd:FP G 476 [.vs tab .no] (.bf [.vs tb .no,.int .i64 te]))
  (p:bD G (.F 478 [.ptr 0 0,.ptr 4 0] (HC S x y z tb (J 0) gg) (.bf []) (HC S x y z tb (J 1) gg)))
  (q:bD G (.F 479 [.ptr 4 0] (HC S x y z tb (J 1) gg) (.bf []) (HC S x y z tb (J 2) gg)))
  (r:bD G (.F 480 [.ptr 4 0,.ptr 5 0,.ptr 1 0] (HC S x y z tb (J 2) gg) (.bf []) (HC S x y z tb (J 3) gg)))
  (s:bD G (.F 481 [.ptr 4 0] (HC S x y z tb (J 3) gg) (.bf []) (HC S x y z tb (J 4) gg)))
  (t:bD G (.F 482 [.ptr 4 0] (HC S x y z tb (J 4) gg) (.bf []) (HC S x y z tb (J 5) gg)))
  (u:∀i,i<=5->a_ 7 (J i).cs=(J i).cs) (c:∀i,1<=i->i<=5->(J i).e=0) :
  FP G 483 [.str S,.vs tab .no,.agg (kI x y z)] (.bf [.agg [.vs (J 5).F .no,.vs (J 5).oc .no,.vs (J 5).ot .no,.int .i64 (J 5).n,.bool (J 5).d],.int .i64 0,.int .i64 0]):=by
 refine bA bE.adB (aab rfl) ?_;have a:=λi hi=>zDi (S:=S) (x:=x) (y:=y) (z:=z) (tb:=tb) (u i hi);have b:=λi=>zy5 (S:=S) (x:=x) (y:=y) (z:=z) (tb:=tb) (j:=J i);simp[kI];refine aw hd ?_;simp;refine aN 5 (λi=>[(6,.ptr 2 0),(9,.ptr 4 0),(28,.rs 6 0 5 1),(29,.int .i64 5),(30,.int .i64 i)]) (λi=>HC S x y z tb (J i) gg) (λi=>True) ?_ ?_
 .simp[au,ak,HC,gg,kI,yM,o,u9,Jb.cs,RL,az.cl,a_,V.cl,Tk.cl]
 intro i hi _;have f:∀i,(HC S x y z tb (J i) gg)[6]?=some (some (.cells [.fn 478 [.ptr 0 0,.ptr 4 0],.fn 479 [.ptr 4 0],.fn 480 [.ptr 4 0,.ptr 5 0,.ptr 1 0],.fn 481 [.ptr 4 0],.fn 482 [.ptr 4 0]])):=λ_=>rfl;have v:∀i,(HC S x y z tb (J i) gg)[3]?=some (some (.cells (J i).cs)):=λ_=>rfl;have w:∀i,(HC S x y z tb (J i) gg)[4]?=some (some (.cells [.ptr 3 0])):=λ_=>rfl;have g:∀i (h:3<(HC S x y z tb (J i) gg).length),(HC S x y z tb (J i) gg)[3]'h=some (.cells (J i).cs):=λ_ _=>rfl
 have k:∀i (h:4<(HC S x y z tb (J i) gg).length),(HC S x y z tb (J i) gg)[4]'h=some (.cells [.ptr 3 0]):=λ_ _=>rfl
 rcases Nat.eq_or_lt_of_le hi with m|A
 .subst m;simp[HC,Jb.cs,kI,yM]
 have nx:∀i,i<5->(J (i+1)).e=0:=λi h=>c _ an an;have l:∀i,(J i).cs.length=14:=λ_=>rfl;have kd:∀i,((J i).cs.drop 13).take 1=[.int .i64 (J i).e]:=λ_=>rfl
 have:i=0\/i=1\/i=2\/i=3\/i=4:=an
 rcases this with rfl|rfl|rfl|rfl|rfl
 .simp[f];refine kF (by simpa using p) (λh=>by simp at h) ?_;rw[b,a 1 aga];simp[g,k,l,kd,nx,au,b,a,show aB .i64 0 1=1 by decide]
 .simp[f];refine kF (by simpa using q) (λh=>by simp at h) ?_;rw[b,a 2 aga];simp[g,k,l,kd,c,au,b,a,show aB .i64 1 1=2 by decide]
 .simp[f];refine kF (by simpa using r) (λh=>by simp at h) ?_;rw[b,a 3 aga];simp[g,k,l,kd,c,au,b,a,show aB .i64 2 1=3 by decide]
 .simp[f];refine kF (by simpa using s) (λh=>by simp at h) ?_;rw[b,a 4 aga];simp[g,k,l,kd,c,au,b,a,show aB .i64 3 1=4 by decide]
 .simp[f];refine kF (by simpa using t) (λh=>by simp at h) ?_;rw[b,a 5 aga];simp[g,k,l,kd,c,au,b,a,show aB .i64 4 1=5 by decide]
open Go Go.RowKit
variable {G:aP}
def znw:∀{f:List af},j7 f=true->∀x∈f,ij x=true
 | [],_,x,h=>by simp at h
 | y::f,a,x,h=>by
  simp only[j7,aad] at a
  rcases List.mem_cons.1 h with rfl|h
  .have:=a.1;simp only[bX,aad] at this;exact this.1.1.1
  .exact znw a.2 x h
def zBK{S:List UInt8}{n:Nat}{x y z:Int}(h:E6 S n x y z=false):S.length<=2000/\n<=3000/\oT (fU S).1<=8:=by simp only[E6,decide_eq_false_iff_not] at h;omega
noncomputable def qL(S:List UInt8):Po:=(fU S).1
def oU(b:List Nat):List TR:=(rL b).getD []
noncomputable def jm(S:List UInt8)(b:List Nat)(x y z:Int):(List af×List TR)×Nat×Bool:=jh (qM (qL S)) (oU b) x y z
def Hm(q:(List af×List TR)×Nat×Bool):V:=.agg [FL q.1.1,.vs (ah .u8 (ew q.1.1)) .no,.vs (ah .u8 (kD q.1.2)) .no,.int .i64 (q.2.1:Nat),.bool q.2.2]
def Mz:V:=.agg [.vs [] .no,.vs [] .no,.vs [] .no,.int .i64 0,.bool false]
noncomputable def Dj(S:List UInt8)(b:List Nat)(x y z:Int):V :=
 if(fU S).2.2=0 then .bf [Hm (jm S b x y z),.int .i64 0,.int .i64 0] else .bf [Mz,.int .i64 ((fU S).2.1:Nat),.int .i64 ((fU S).2.2:Nat)]
def Q5{S:List UInt8}(h:(fU S).2.2=0):yN (qL S)=true/\(qL S).wf:=by
 obtain⟨⟨d,e⟩,a⟩:=ztc S;have a:=a h;refine⟨?_,?_,λr b=>?_,JX a⟩
 .simp only[yN,aad,decide_eq_true_eq,List.all_eq_true];exact⟨⟨λr b=>(e r b).1,a⟩,d⟩
 .exact aaf d aga
 .obtain⟨f,g,i,j,k⟩:=B2 (e r b);exact⟨aaf k aga,λc l=>(f c l).2,g,i,JX j⟩
def WB{b:List Nat}(c:∀x∈b,x<256):(∀r∈oU b,r.ok)/\(oU b).length<=64/\cF (oU b)=true:=by
 unfold oU
 cases h:rL b with
 | none=>exact⟨ir,ir,rfl⟩
 | some t =>
  obtain⟨a,d⟩:=zDG c h;exact⟨d,(Gw a).2,a⟩
def Q6{t:List TR}(h:cF t=true):mb t=t:=by rw[mb,if_pos h]
structure E7 (f:List af) (q:(List af×List TR)×Nat×Bool):Prop where
 sound:dR q.1.1=true
 k:∀y∈q.1.1,y.k<4294967296
 len:q.1.1.length<=f.length
 tk:kE q.1.2
 dq:cF q.1.2=true
def zsI{tries most:Int}:∀(n:Nat) {f:List af} {t:List TR},dR f=true->(∀y∈f,y.k<4294967296)->kE t->cF t=true->E7 f (rN tries most n f t)
 | 0,f,t,b,c,d,e=>⟨b,c,aai _,d,e⟩
 | n+1,f,t,b,c,d,e=>by
  unfold rN
  cases g:wv f t tries most with
  | none=>exact⟨b,c,aai _,d,e⟩
  | some q =>
   have k:=PN b c d g;have a:=zsI (tries:=tries) (most:=most) n k.sound k.k k.tk (k.dq e);exact⟨a.sound,a.k,aaf a.len (Nat.le_of_lt k.len),a.tk,a.dq⟩
def Q7{p:Po}(c:p.wf)(d:yN p=true):(qM p).length<=4096/\dR (qM p)=true/\(∀y∈qM p,y.k<4294967296):=by obtain⟨e,f,h⟩:=zq6 c d;obtain⟨i,a⟩:=zwm e;have b:=zrm f h;have g:=i.len;have j:(bY [] 6 p.eR).length=1:=rfl;exact⟨an,(a b).1,(a b).2⟩
def WD{S:List UInt8}{b:List Nat}(x y z:Int)(g:∀w∈b,w<256)(h:(fU S).2.2=0):E7 (prune (qM (qL S))) (jm S b x y z)/\(jm S b x y z).1.1.length<=(qM (qL S)).length:=by
 obtain⟨a,i⟩:=Q5 h;obtain⟨m,j,k⟩:=Q7 i a;obtain⟨c,n,e⟩:=WB g;have f:=Uv j;have d:=zsI (tries:=lD y 0 1000) (most:=lD z 0 32) (lD x 0 1000).toNat (t:=oU b) f.1 (UD k) (λr a=>⟨(c r a).2.2.1,(c r a).2.2.2.1,(c r a).2.2.2.2⟩) e
 have l:jm S b x y z=rN (lD y 0 1000) (lD z 0 32) (lD x 0 1000).toNat (prune (qM (qL S))) (oU b):=by rw[jm,jh,Q6 e]
 rw[<-l] at d;exact⟨d,aaf d.len f.2.1⟩
noncomputable def MA(p:Po)(a:Int)(Q:(List af×List TR)×Nat×Bool):Nat->Jb
 | 0=>u9
 | 1=>{ u9 with p:=p,at_:=a,e:=0,k1:=.no }
 | 2=>{ u9 with p:=p,at_:=a,e:=0,k1:=.no,f:=IL (qM p),k2:=.no }
 | 3=>{ u9 with p:=p,at_:=a,e:=0,k1:=.no,f:=IL (qM p),k2:=.no,F:=IL Q.1.1,T:=TL Q.1.2,n:=(Q.2.1:Nat),d:=Q.2.2,k3:=.no,k4:=.no }
 | 4=>{ u9 with p:=p,at_:=a,e:=0,k1:=.no,f:=IL (qM p),k2:=.no,F:=IL Q.1.1,T:=TL Q.1.2,n:=(Q.2.1:Nat),d:=Q.2.2,k3:=.no,k4:=.no,oc:=ah .u8 (ew Q.1.1),k6:=.no }
 | _=>{ u9 with p:=p,at_:=a,e:=0,k1:=.no,f:=IL (qM p),k2:=.no,F:=IL Q.1.1,T:=TL Q.1.2,n:=(Q.2.1:Nat),d:=Q.2.2,k3:=.no,k4:=.no,oc:=ah .u8 (ew Q.1.1),k6:=.no,ot:=ah .u8 (kD Q.1.2),k7:=.no }
def zqu[ef G][dM G][aE G][aD G][bQ G][dC G][dp G][aQ G][db G][dc G][b_ G][cA G][bP G][ar G][H:eg G][cG G][aM G][di G][cd G][cU G][eU G][gC G][fI G][fJ G][jB G][dj G][fK G][eG G][eA G][cS G][gW G][fq G]
  [fP G][bS G][kY G][bJ G][eK G][ei G][dm G][eJ G][fw G][cW G][c_ G][gD G][dX G][bE G][kf G]
  (S:List UInt8) (b:List Nat) (x y z:Int) (v:S.length<=20000) (h:∀w∈b,w<256) (A:b.length<=1000000):FP G 483 [.str S,.vs (ah .u8 b) .no,.agg (kI x y z)] (Dj S b x y z):=by
 have l:=zvm (G:=G) S v;obtain⟨te,hd,_⟩:=zxG (G:=G) b h A;simp only[TF] at hd;unfold Dj
 by_cases d:(fU S).2.2=0
 rotate_left
 .rw[if_neg d];exact zvW (by simp;omega) hd l
 rw[if_pos d];obtain⟨a,q⟩:=Q5 d;obtain⟨I,B,C⟩:=Q7 q a;obtain⟨g,K,D⟩:=WB h;have m:=zCy (G:=G) (qL S) q;rw[a] at m;have E:PS (oU b):=⟨an,g⟩;have n:=zvS (G:=G) (qM (qL S)) (oU b) x y z B C E (by rw[Q6 D];exact λr a=>⟨(g r a).2.2.1,(g r a).2.2.2.1,(g r a).2.2.2.2⟩);obtain⟨c,o⟩:=WD x y z h d;obtain⟨Q,s⟩:=ax (jm S b x y z);rw[<-s] at c o |-;rw[show jh (qM (qL S)) (oU b) x y z=Q from s.symm] at n
 have t:=WE (G:=G) Q.1.1 an c.k (λw F=>by
  have:=c.sound;simp only[dR,aad] at this
  exact znw this.1.2 w F)
 have u:=zxH (G:=G) Q.1.2 c.dq (P5 c.dq c.tk).2;rw[pX,d] at l;simp only[FL,TF,oO,if_true] at m n t u
 have p:=zvX (G:=G) (S:=S) (tab:=ah .u8 b) (x:=x) (y:=y) (z:=z) (tb:=TL (oU b)) (te:=te) (J:=MA (qL S) ((fU S).2.1:Nat) Q) rfl hd (zup (j:=u9) l) (zBG (f:=IL (qM (qL S))) (e:=0) m) (zBH n) (zBI t) (zBJ u) (by
  intro i hi
  have:i=0\/i=1\/i=2\/i=3\/i=4\/i=5:=an
  rcases this with rfl|rfl|rfl|rfl|rfl|rfl<;>simp[MA,Jb.cs,u9,a_,V.cl,Tk.cl]) (by
  intro i L M
  have:i=1\/i=2\/i=3\/i=4\/i=5:=an
  rcases this with rfl|rfl|rfl|rfl|rfl<;>rfl)
 exact p
def yO(tries:Int)(t u:List TR):Prop:=∀w live,live<262144->pN w t live tries=pN w u live tries
def zpi{t:List TR}{w x:List af}{live:Nat}{tries:Int}(e:cF t=true)(i:(⟨w,x,live⟩:TR).may=true)(z:live<262144)(d:pN w t live tries=some x)(m:aY x=true)(n:(ee w x live).1=0) :
  yO tries (oM t ⟨w,x,live⟩).1 t:=by
 have c:=(zvQ e i).1;unfold oM at c |-;rw[e,i] at c |-;simp only[Bool.and_self,if_true] at c |-;split at c
 .rename_i f;rw[if_pos f];exact λ_ _ _=>rfl
 rename_i f;rw[if_neg f];split at c
 .rename_i g;rw[if_pos g];exact λ_ _ _=>rfl
 rename_i g;rw[if_neg g];simp only at c |-;obtain⟨a,j⟩:=ax (t.take (oH t ⟨w,x,live⟩));obtain⟨b,k⟩:=ax (t.drop (oH t ⟨w,x,live⟩))
 have l:t=a++b:=by rw[j,k,List.take_append_drop]
 rw[<-j,<-k] at c |-;intro v lv A
 by_cases h:(decide ((⟨w,x,live⟩:TR).fr=v)&&decide (lv%262144=(⟨w,x,live⟩:TR).lv))=true
 .simp only[aad,decide_eq_true_eq] at h;obtain⟨rfl,B⟩:=h
  have o:lv=live:=an
  subst o;rw[d];unfold pN zB at d |-;rw[if_pos c];rw[if_pos e,l] at d;rw[aae] at d |-
  cases q:a.find? (λr=>decide (r.fr=w)&&decide (lv%262144=r.lv)) with
  | some y =>
   rw[q] at d;simp only[Option.some_or,aah] at d |-
   exact d
  | none =>
   have s:(decide ((⟨w,x,lv⟩:TR).fr=w)&&decide (lv%262144=(⟨w,x,lv⟩:TR).lv))=true:=by simp;omega
   rw[List.find?_cons_of_pos (p:=λr:TR=>decide (r.fr=w)&&decide (lv%262144=r.lv)) s];simp only[Option.none_or,aah];rw[if_pos ⟨m,n⟩]
 .have u:(a++⟨w,x,live⟩::b).find? (λr=>decide (r.fr=v)&&decide (lv%262144=r.lv))=t.find? (λr=>decide (r.fr=v)&&decide (lv%262144=r.lv)):=by rw[l,aae,aae,List.find?_cons_of_neg (p:=λr:TR=>decide (r.fr=v)&&decide (lv%262144=r.lv)) h]
  unfold pN zB;rw[if_pos c,if_pos e,u]
def WG{α β γ:Type}(g:α->Option β)(F:α->β->γ):∀l:List α,l.findSome? (λp=>(g p).map (F p))=(l.findSome? λp=>(g p).map λx=>(p,x)).map λq=>F q.1 q.2
 | []=>rfl
 | p::l=>by
  rw[aag,aag,WG g F l]
  cases g p<;>rfl
def zEc{f x:List af}{t:List TR}{tries most:Int}{p:Pc}(q:dR f=true)(g:∀y∈f,y.k<4294967296)(h:kE t)(i:p∈rows f most f.length)(j:pN (pK f p.1 p.2) t (ue f p.1 p.2) tries=some x) :
  (⟨pK f p.1 p.2,x,ue f p.1 p.2⟩:TR).may=true/\ue f p.1 p.2<262144/\aY x=true/\(ee (pK f p.1 p.2) x (ue f p.1 p.2)).1=0:=by
 obtain⟨s,b,u,v⟩:=PO i;simp only[qw,z5,uf,z6,aad,decide_eq_true_eq] at b;obtain⟨⟨_,_⟩,_,⟨w,z,A,B⟩,a⟩:=b
 have a:uP f p.1 p.2=true:=by simpa using a
 have l:∀y∈pK f p.1 p.2,y.k<4294967296:=PQ g _ _
 have c:aY (pK f p.1 p.2)=true:=by simp only[uP,aad] at a;exact a.1
 have d:ue f p.1 p.2<262144:=uQ _ 18;obtain⟨e,m,n,C⟩:=Uf l c (λr o=>(h r o).2.1) j;refine⟨?_,d,e,n⟩;simp only[TR.may,c,e,Bool.true_and,aad,decide_eq_true_eq];exact⟨m,d⟩
def Al{f:List af}{t u:List TR}{tries most:Int}(s:dR f=true)(v:∀y∈f,y.k<4294967296)(z:kE t)(H:kE u)(A:cF t=true)(B:cF u=true)(e:yO tries t u) :
  (wv f t tries most=none/\wv f u tries most=none)\/∃q r,wv f t tries most=some q/\wv f u tries most=some r/\q.1=r.1/\yO tries q.2 t/\yO tries q.2 r.2:=by
 have C:(λp:Pc=>pN (pK f p.1 p.2) u (ue f p.1 p.2) tries)=λp=>pN (pK f p.1 p.2) t (ue f p.1 p.2) tries:=funext λp=>(e _ _ (uQ _ 18)).symm;have D:=WG (λp:Pc=>pN (pK f p.1 p.2) t (ue f p.1 p.2) tries) (λp x=>(jK f p.1 p.2 x,(oM t ⟨pK f p.1 p.2,x,ue f p.1 p.2⟩).1)) (rows f most f.length);have E:=WG (λp:Pc=>pN (pK f p.1 p.2) u (ue f p.1 p.2) tries) (λp x=>(jK f p.1 p.2 x,(oM u ⟨pK f p.1 p.2,x,ue f p.1 p.2⟩).1)) (rows f most f.length)
 have c:wv f t tries most=_:=D;have b:wv f u tries most=_:=E;have g:∀p:Pc,pN (pK f p.1 p.2) u (ue f p.1 p.2) tries=pN (pK f p.1 p.2) t (ue f p.1 p.2) tries:=λp=>congrFun C p;simp only[g] at b
 cases h:(rows f most f.length).findSome? (λp:Pc=>(pN (pK f p.1 p.2) t (ue f p.1 p.2) tries).map λx=>(p,x)) with
 | none =>
  rw[h] at c b
  exact .inl ⟨c,b⟩
 | some q =>
  rw[h] at c b;obtain⟨p,F,a⟩:=List.exists_of_findSome?_eq_some h;rw[Option.map_eq_some_iff] at a;obtain⟨x,a,rfl⟩:=a;obtain⟨i,j,m,n⟩:=zEc s v z F a;have o:=zpi A i j a m n;have G:=zpi B i j ((g p).trans a) m n;exact .inr ⟨_,_,c,b,rfl,o,λw l d=>(o w l d).trans ((e w l d).trans (G w l d).symm)⟩
def WH{tries most:Int}:∀(n:Nat) {f:List af} {t u:List TR},dR f=true->(∀y∈f,y.k<4294967296)->kE t->kE u->cF t=true->cF u=true->yO tries t u ->
  (rN tries most n f t).1.1=(rN tries most n f u).1.1/\(rN tries most n f t).2=(rN tries most n f u).2/\yO tries (rN tries most n f t).1.2 t
 | 0,f,t,u,a,b,g,h,i,j,m=>⟨rfl,rfl,λ_ _ _=>rfl⟩
 | n+1,f,t,u,a,b,g,h,i,j,m=>by
  unfold rN
  rcases Al (most:=most) a b g h i j m with⟨c,d⟩|⟨q,r,c,d,s,v,x⟩
  .rw[c,d];exact⟨rfl,rfl,λ_ _ _=>rfl⟩
  .rw[c,d];have e:=PN a b g c;have o:=PN a b h d;obtain⟨z,A,B⟩:=WH (tries:=tries) (most:=most) n e.sound e.k e.tk o.tk (e.dq i) (o.dq j) x;simp only;rw[<-s];exact⟨z,by rw[A],λw l p=>(B w l p).trans (v w l p)⟩
def zy6{f:List af}{t:List TR}(x y z:Int)(l:dR f=true)(m:∀y∈f,y.k<4294967296)(c:kE t)(b:cF t=true)(d:cF (jh f t x y z).1.2=true)(n:kE (jh f t x y z).1.2) :
  (jh f (jh f t x y z).1.2 x y z).1.1=(jh f t x y z).1.1/\(jh f (jh f t x y z).1.2 x y z).2=(jh f t x y z).2:=by
 have g:=(Uv l).1;have a:=UD m
 have e:jh f t x y z=rN (lD y 0 1000) (lD z 0 32) (lD x 0 1000).toNat (prune f) t:=by rw[jh,Q6 b]
 have e':jh f (jh f t x y z).1.2 x y z=rN (lD y 0 1000) (lD z 0 32) (lD x 0 1000).toNat (prune f) (jh f t x y z).1.2:=by rw[jh,Q6 d]
 obtain⟨_,_,h⟩:=WH (tries:=lD y 0 1000) (most:=lD z 0 32) (lD x 0 1000).toNat g a c c b b (λ_ _ _=>rfl);rw[<-e] at h;obtain⟨i,j,_⟩:=WH (tries:=lD y 0 1000) (most:=lD z 0 32) (lD x 0 1000).toNat g a n c d b h;rw[<-e',<-e] at i j;exact⟨i,j⟩
def zy7{S:List UInt8}{b:List Nat}(x y z:Int)(f:∀w∈b,w<256)(h:(fU S).2.2=0) :
  (jm S (kD (jm S b x y z).1.2) x y z).1.1=(jm S b x y z).1.1/\(jm S (kD (jm S b x y z).1.2) x y z).2=(jm S b x y z).2:=by
 obtain⟨a,g⟩:=Q5 h;obtain⟨_,i,j⟩:=Q7 g a;obtain⟨d,_,k⟩:=WB f;obtain⟨c,_⟩:=WD x y z f h;have e:=zBh c.dq (P5 c.dq c.tk).2
 have e':oU (kD (jm S b x y z).1.2)=(jm S b x y z).1.2:=by rw[oU,e];rfl
 have:=zy6 x y z i j (λr a=>⟨(d r a).2.2.1,(d r a).2.2.2.1,(d r a).2.2.2.2⟩) k c.dq c.tk;rw[jm,e'];exact this
def zpG[ef G][dM G][aE G][aD G][bQ G][dC G][dp G][aQ G][db G][dc G][b_ G][cA G][bP G][ar G][v:eg G][cG G][aM G][di G][cd G][cU G][eU G][gC G][fI G][fJ G][jB G][dj G][fK G][eG G][eA G][cS G][gW G][fq G]
  [fP G][bS G][kY G][bJ G][eK G][ei G][dm G][eJ G][fw G][cW G][c_ G][gD G][dX G][bE G][kf G]
  [jC G][eX G][dB G][g7 G][ej G][jO G][gE G][qK G][tw G][xZ G][eH G][kW G][mE G][kj G][iS G][oR G][f_ G][lH G][tC G]
  (f:FP G 506 [] (.bool true)) (S:List UInt8) (b:List Nat) (x y z:Int) (g:∀w∈b,w<256):FP G 524 [.str S,.vs (ah .u8 b) .no,.agg (kI x y z)] (.bool true):=by
 refine bA tC.adC (aab rfl) ?_;have j:=zyp (G:=G) S (ah .u8 b) x y z;rw[zpo] at j;simp[kI];refine aw j ?_
 cases m:E6 S b.length x y z with
 | true =>
  simp;refine aw f ?_
  simp
 | false =>
 obtain⟨A,B,_⟩:=zBK m;have a:=zqu (G:=G) S b x y z an g an
 by_cases d:(fU S).2.2=0
 rotate_left
 .unfold Dj at a;rw[if_neg d,Mz,kI] at a
  have n:(((fU S).2.2:Int) !=0)=true:=by simp;omega
  simp;refine aw a ?_;simp[n];refine aw f ?_;simp
 .obtain⟨c,o⟩:=WD x y z g d;obtain⟨k,p⟩:=zy7 x y z g d;have l:=(P5 c.dq c.tk).2
  have q:(kD (jm S b x y z).1.2).length<=1000000:=by have:=zub c.dq;rw[kD,PC];omega
  have s:∀w∈kD (jm S b x y z).1.2,w<256:=by rw[kD];exact PD (zt6 _)
  have e:=zqu (G:=G) S (kD (jm S b x y z).1.2) x y z an s q;have wd:=zvU (G:=G) (jm S b x y z).1.2 c.dq l;obtain⟨C,t⟩:=UY c.dq;have h:=zqr (G:=G) (jm S b x y z).1.2 an l (λr i=>by have:=t r i;omega);obtain⟨i,u⟩:=Q5 d;obtain⟨D,_⟩:=Q7 u i;rw[c.dq] at h;unfold Dj at a e;rw[if_pos d] at a e;generalize jm S b x y z=Q at *;generalize jm S (kD Q.1.2) x y z=R at *
  have ws:=zzM (G:=G) Q.1.1 R.1.1 an;rw[k] at ws;simp only[Hm,k,p] at e;simp only[FL,TF,Hm,kI] at a e wd h ws;simp;refine aw a ?_;simp;refine aw e ?_;simp;refine aw wd ?_;simp;refine aw h ?_;simp;refine aw ws ?_;simp;refine aw f ?_;simp
end Go.Ev
