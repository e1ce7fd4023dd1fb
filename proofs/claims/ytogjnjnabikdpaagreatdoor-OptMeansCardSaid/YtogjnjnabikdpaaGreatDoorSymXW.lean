/- What tells two values zgC. -/
import Derived.Test.YtogjnjnabikdpaaGreatDoorSymJW
import Derived.Test.YtogjnjnabikdpaaGreatDoorCheckAW
import Derived.Test.YtogjnjnabikdpaaGreatDoorRef4AW
import Derived.Test.YtogjnjnabikdpaaGreatDoorEvSymCW
import Derived.KernelRfl
set_option linter.unusedSimpArgs false
set_option linter.unusedVariables false
set_option maxHeartbeats 4000000
set_option maxRecDepth 10000
namespace Go.Ev
open Go Go.RowKit
variable {G:Tbl}
variable {H:Heap} {b z m:Nat} {L:List Nd}
def zlX(f g:List Nat):Option Nat:=(List.range 34).find? fun i=>decide (f.getD (i+1) 0≠g.getD (i+1) 0)
def zcw(f g:List Nat):List Nat×Bool:=if f.headD 0≠g.headD 0 then(zae 34,true) else match zlX f g with
 | some i=>((zae 34).set i 1,true)
 | none=>(zae 34,false)
theorem zrJ(f g:List Nat):(zcw f g).1.length=34:=by
 rw[zcw]; split
 ·simp
 ·split<;>simp
theorem ztc(f g:List Nat):∀ x∈(zcw f g).1,x<4294967296:=by
 rw[zcw]; split
 ·exact zby 34
 ·split
  ·intro x hx
   rcases List.mem_or_eq_of_mem_set hx with h|rfl
   ·exact zby 34 x h
   ·decide
  ·exact zby 34
theorem ztd[HasAffApart G](f g:List Nat)(hf:f.length=35)(hg:g.length=35):FP G 255 [.agg (zac .u32 f),.agg (zac .u32 g)] (.tup [.agg (zac .u32 (zcw f g).1),.bool (zcw f g).2]):=by
 refine zak HasAffApart.h_affine_Apart (Nat.le_of_ble_eq_true rfl) ?_
 obtain⟨c,t,rfl⟩:∃ c t,f=c::t:=by cases f with|nil=>simp at hf|cons c t=>exact⟨c,t,rfl⟩
 obtain⟨d,u,rfl⟩:∃ c t,g=c::t:=by cases g with|nil=>simp at hg|cons c t=>exact⟨c,t,rfl⟩
 have ht:t.length=34:=by simpa using hf
 have hu:u.length=34:=by simpa using hg
 have hc:zac .u32 (c::t)=.int .u32 (c:Int)::zac .u32 t:=rfl
 have hd:zac .u32 (d::u)=.int .u32 (d:Int)::zac .u32 u:=rfl
 have htt:=zah (k:=.u32) ht
 have htu:=zah (k:=.u32) hu
 have dr1:∀(i:Nat) (x:V) (l:List V),(x::l).drop (1+i)=l.drop i:=fun i x l=>by rw[Nat.add_comm,List.drop_succ_cons]
 have z0:(zac .u32 (zae 34)).drop 34=[]:=rfl
 by_cases hcd:c=d
 case neg =>
  have hn:((c:Int)==(d:Int))=false:=beqF (by omega)
  have hR:zcw (c::t) (d::u)=(zae 34,true):=by simp[zcw,hcd]
  simp[-List.reduceReplicate,hc,hd,ht,hu,htt,htu,hn,z0,hR,bneT,hcd]
 subst hcd
 have bne:((c:Int) !=(c:Int))=false:=by simp
 simp[-List.reduceReplicate,hc,hd,ht,hu,htt,htu,z0]
 refine W_up 34 (fun i=>[(3,.ptr 1 0),(4,.ptr 2 0),(6,.ptr 3 0),(16,.agg (zac .u32 t)),(17,.int .i64 i)])
  (fun i=>[some (.cells (.int .u32 (c:Int)::zac .u32 t)),some (.cells (.int .u32 (c:Int)::zac .u32 u)),some (.cells (zac .u32 (zae 34))),some (.cells (zac .u32 (zae 34)))]) (fun i=>∀ j,j<i→t.getD j 0=u.getD j 0) ?_ ?_
 ·simp[zaa,zad,clL,V.cl]
 intro i hi hp
 by_cases hlt:i<34
 ·have q1:=zdM .u32 (zal (show i<t.length by omega))
  have q2:=zdM .u32 (zal (show i<u.length by omega))
  have e1:t.getD i 0=t[i]'(by omega):=by rw[List.getD_eq_getElem?_getD,zal (by omega)]; rfl
  have e2:u.getD i 0=u[i]'(by omega):=by rw[List.getD_eq_getElem?_getD,zal (by omega)]; rfl
  by_cases he:t[i]'(by omega)=u[i]'(by omega)
  ·have hp':∀ j,j<i+1→t.getD j 0=u.getD j 0:=fun j hj=>by
    by_cases e:j=i
    ·subst e; rw[e1,e2,he]
    ·exact hp j (by omega)
   simp(disch:=omega)[ltT,ltF,leF,leFn,leTn,hlt,ht,hu,q1,q2,dr1,he,zag,-Int.natCast_add,zaa,zad,clL,V.cl]
   simpa using hp'
  ·have hb:((t[i]'(by omega):Nat):Int)≠((u[i]'(by omega):Nat):Int):=by omega
   have hfd:zlX (c::t) (c::u)=some i:=by
    rw[zlX,List.find?_range_eq_some]
    refine⟨?_,List.mem_range.2 hlt,fun j hj=>?_⟩
    ·simp only[List.getD_cons_succ,e1,e2]; simpa using he
    ·have:=hp j hj
     simp only[List.getD_cons_succ]; simpa using this
   have hR:zcw (c::t) (c::u)=((zae 34).set i 1,true):=by simp[zcw,hfd]
   have cs:=zbc .u32 (zae 34) i 1 (by simpa using hlt)
   have hts:(zac .u32 ((zae 34).set i 1)).take 34=zac .u32 ((zae 34).set i 1):=zah (by simp)
   simp(disch:=omega)[-List.reduceReplicate,ltT,ltF,leF,leFn,leTn,hlt,ht,hu,q1,q2,dr1,bneT hb,hR,z0]
   simp at cs
   simp(disch:=omega)[-List.reduceReplicate,cs,hts,z0,leTn,hlt]
 ·obtain rfl:i=34:=by omega
  have hfd:zlX (c::t) (c::u)=none:=by
   rw[zlX,List.find?_eq_none]
   intro j hj
   have:=hp j (List.mem_range.1 hj)
   simp only[List.getD_cons_succ]; simpa using this
  have hR:zcw (c::t) (c::u)=(zae 34,false):=by simp[zcw,hfd]
  simp[-List.reduceReplicate,hR,z0]
theorem zte(M:List Int)(p:Int→Bool):∀ w∈asgn M p,w<4294967296:=by
 intro w hw
 simp only[asgn,List.mem_map] at hw
 obtain⟨i,_,rfl⟩:=hw
 split<;>omega
theorem zrK(fv gv:List Int)(ft gt:List Nat):(zcm fv gv ft gt).1.length=34:=by
 simp only[zcm]
 split
 ·split<;>simp[asgn]
 ·simp
theorem ztf(fv gv:List Int)(ft gt:List Nat):∀ x∈(zcm fv gv ft gt).1,x<4294967296:=by
 simp only[zcm]
 split
 ·split
  ·exact zte _ _
  ·exact zby 34
 ·exact zby 34
noncomputable def apN(a c:Nd):List Nat×Bool:=if a.kind=0∧c.kind=0 then zcw a.f c.f else match asB a,asB c with
 | some p,some q=>zcm p.1 q.1 p.2 q.2
 | _,_=>(zae 34,false)
noncomputable def apB(L:List Nd)(x y:Int):List Nat×Bool:=if hasI L x=true∧hasI L y=true∧x≠y then(match L[x.toNat]?,L[y.toNat]? with
 | some a,some c=>apN a c
 | _,_=>(zae 34,false)) else(zae 34,false)
theorem zqQ(a c:Nd):(apN a c).1.length=34∧∀ x∈(apN a c).1,x<4294967296:=by
 rw[apN]
 split
 ·exact⟨zrJ _ _,ztc _ _⟩
 ·split
  ·exact⟨zrK _ _ _ _,ztf _ _ _ _⟩
  ·exact⟨by simp,zby 34⟩
theorem zqR(L:List Nd)(x y:Int):(apB L x y).1.length=34∧∀ c∈(apB L x y).1,c<4294967296:=by
 rw[apB]
 split
 ·split
  ·exact zqQ _ _
  ·exact⟨by simp,zby 34⟩
 ·exact⟨by simp,zby 34⟩
theorem zxZ{x y:Nat}{a c:Nd}(hx:L[x]?=some a)(hy:L[y]?=some c)(hne:x≠y):apB L x y=apN a c:=by
 have h1:=(List.getElem?_eq_some_iff.1 hx).1
 have h2:=(List.getElem?_eq_some_iff.1 hy).1
 rw[apB,if_pos ⟨by simp[hasI]; exact h1,by simp[hasI]; exact h2,by omega⟩,Int.toNat_natCast,Int.toNat_natCast,hx,hy]
theorem zwK[HasAffApart G][HasAffine G][hA:HasBitsA G][HasSym G][HasSymApart G](x y:Int)(h:Bk H b z m L)(hi:Inv L):SF G 277 [.ptr b 0,.int .i64 x,.int .i64 y] H (.tup [.agg (zac .u32 (apB L x y).1),.bool (apB L x y).2]) H:=by
 haveI:HasBits G:=hA.toHasBits
 refine zbw HasSymApart.h_sym_Book_Apart (Nat.le_of_ble_eq_true rfl) ?_
 obtain⟨Z,hZ⟩:∃ Z,Z=zac .u32 (zae 34):=⟨_,rfl⟩
 have lZ:Z.length=34:=by rw[hZ]; simp
 have dZ:Z.drop 34=[]:=List.drop_eq_nil_of_le (by omega)
 have tZ:Z.take 34=Z:=List.take_of_length_le (by omega)
 have kZ:∀ n,clL n Z=Z:=fun n=>by rw[hZ]; simp
 have hRn:∀ n,Option.map (Blk.cl n) (some (.cells Z))=some (.cells Z):=fun n=>by simp[Blk.cl,kZ]
 have h2:Bk (H++[some (.cells Z),some (.cells Z)]) b z m L:=h.app fun n=>by simp[Blk.cl,kZ]
 have hs2:=h2.shut.self
 have hsh:=h.shut.back
 simp at hs2
 simp[←hZ,-List.reduceReplicate]
 refine zai (zfb x h2) ?_
 cases hx:hasI L x with
 | false =>
  have hR:apB L x y=(zae 34,false):=by rw[apB,if_neg (by simp[hx])]
  simp[hR,←hZ,lZ,dZ,tZ,ap0,apk,set0,setk,hs2,hsh,kZ]
 | true =>
  simp[hs2]
  refine zai (zfb y h2) ?_
  cases hy:hasI L y with
  | false =>
   have hR:apB L x y=(zae 34,false):=by rw[apB,if_neg (by simp[hy])]
   simp[hR,←hZ,lZ,dZ,tZ,ap0,apk,set0,setk,hs2,hsh,kZ]
  | true =>
   by_cases hxy:x=y
   ·subst hxy
    have hR:apB L x x=(zae 34,false):=by rw[apB,if_neg (by simp)]
    simp[hR,←hZ,lZ,dZ,tZ,ap0,apk,set0,setk,hs2,hsh,kZ]
   have hbe:(x==y)=false:=beqF hxy
   obtain⟨hx0,hx1⟩:0≤x∧x<L.length:=by simpa[hasI] using hx
   obtain⟨hy0,hy1⟩:0≤y∧y<L.length:=by simpa[hasI] using hy
   obtain⟨xn,rfl⟩:=Int.eq_ofNat_of_zero_le hx0
   obtain⟨yn,rfl⟩:=Int.eq_ofNat_of_zero_le hy0
   obtain⟨a,ha⟩:∃ a,L[xn]?=some a:=⟨_,zal (by omega)⟩
   obtain⟨c,hc⟩:∃ c,L[yn]?=some c:=⟨_,zal (by omega)⟩
   have hga:=hi.good _ _ ha
   have hgc:=hi.good _ _ hc
   have hR:apB L xn yn=apN a c:=zxZ ha hc (fun e=>hxy (by rw[e]))
   have hRl:=zqQ a c
   rw[hR]
   have hd35:(zac .u32 (zae 35)).drop 35=[]:=rfl
   have ta:=zah (k:=.u32) hga.1.1
   have tc:=zah (k:=.u32) hgc.1.1
   have hb':∀ r:Heap,(∀ n,r.map (Option.map (Blk.cl n))=r)→Bk (H++some (.cells Z)::some (.cells Z)::r) b z m L:=fun r hr=>h.app fun n=>by simp[Blk.cl,kZ,hr n]
   have hs':∀ r:Heap,(∀ n,r.map (Option.map (Blk.cl n))=r)→zad (H.length+(r.length+1+1)) (H++some (.cells Z)::some (.cells Z)::r)=H++some (.cells Z)::some (.cells Z)::r:=fun r hr=>by
    have:=(hb' r hr).shut.self
    simpa using this
   simp[hbe,hxy,hs2,-List.reduceReplicate]
   refine zai (zf0 xn a (hb' [none] fun n=>by simp) ha) ?_
   have s1:=hs' [some (.cells (zac .u32 a.f))] fun n=>by simp[Blk.cl]
   simp at s1
   simp[hga.1.1,ta,hd35,ap0,apk,set0,setk,s1]
   refine zai (zf0 yn c (hb' [some (.cells (zac .u32 a.f)),none] fun n=>by simp[Blk.cl]) hc) ?_
   have s2:=hs' [some (.cells (zac .u32 a.f)),some (.cells (zac .u32 c.f))] fun n=>by simp[Blk.cl]
   simp at s2
   simp[hga.1.1,ta,hgc.1.1,tc,hd35,ap0,apk,set0,setk,s2]
   obtain⟨A,hA'⟩:∃ A,A=apN a c:=⟨_,rfl⟩
   rw[←hA'] at hRl ⊢
   have tA:=zah (k:=.u32) hRl.1
   by_cases hk:a.kind=0∧c.kind=0
   ·have hAe:A=zcw a.f c.f:=by rw[hA',apN,if_pos hk]
    have hf:=ztd (G:=G) a.f c.f hga.1.1 hgc.1.1
    rw[←hAe] at hf
    simp[hk.1,hk.2,hga.1.1,ta,hgc.1.1,tc,hd35,ap0,apk,set0,setk,s2]
    refine zab hf ?_
    simp[hRl.1,tA,lZ,dZ,ap0,apk,set0,setk,hsh]
   ·have hkb:(decide (a.kind=0)&&decide (c.kind=0))=false:=by
     rw[Bool.and_eq_false_iff]
     by_cases h1:a.kind=0
     ·right; simpa using fun h2=>hk ⟨h1,h2⟩
     ·left; simpa using h1
    have b1:=hb' [some (.cells (zac .u32 a.f)),some (.cells (zac .u32 c.f)),none] fun n=>by simp[Blk.cl]
    have b2:=hb' [some (.cells (zac .u32 a.f)),some (.cells (zac .u32 c.f)),some (.cells (asBC (asB a))),none] fun n=>by simp[Blk.cl,zgI]
    have s3:=hs' [some (.cells (zac .u32 a.f)),some (.cells (zac .u32 c.f)),some (.cells (asBC (asB a)))] fun n=>by simp[Blk.cl,zgI]
    have s4:=hs' [some (.cells (zac .u32 a.f)),some (.cells (zac .u32 c.f)),some (.cells (asBC (asB a))),some (.cells (asBC (asB c)))] fun n=>by simp[Blk.cl,zgI]
    simp at s3 s4
    have fin:∀(p q:Option (List Int×List Nat)),asB a=p→asB c=q→(p.isSome=true→q.isSome=true→∃ p' q',p=some p'∧q=some q'∧A=zcm p'.1 q'.1 p'.2 q'.2)∧((p.isSome&&q.isSome)=false→A=(zae 34,false)):=fun p q ep eq=>by
     have hAe:=hA'
     rw[apN,if_neg hk,ep,eq] at hAe
     cases p<;>cases q<;>simp at hAe ⊢<;>exact hAe
    by_cases h1:a.kind=0
    ·have h2:¬c.kind=0:=fun h2=>hk ⟨h1,h2⟩
     simp[h1,hga.1.1,ta,hgc.1.1,tc,hd35,ap0,apk,set0,setk,s2]
     simp[h2,ap0,apk,set0,setk]
     refine zai (zcQ xn a b1 ha hga.2.1) ?_
     simp[zgH,zd7,zgJ,ap0,apk,set0,setk,s3]
     refine zai (zcQ yn c b2 hc hgc.2.1) ?_
     simp[zgH,zd7,zgJ,ap0,apk,set0,setk,s4]
     cases ea:asB a with
     | none =>
      have hAe:=(fin _ _ ea rfl).2 rfl
      simp[hAe,←hZ,lZ,dZ,tZ,ap0,apk,set0,setk,hsh,kZ]
     | some p =>
      cases ec:asB c with
      | none =>
       have hAe:=(fin _ _ ea ec).2 rfl
       simp[hAe,←hZ,lZ,dZ,tZ,ap0,apk,set0,setk,hsh,kZ]
      | some q =>
       obtain⟨_,_,e1,e2,hAe⟩:=(fin _ _ ea ec).1 rfl rfl
       cases e1; cases e2
       obtain⟨hp,hpw⟩:=zdm hga.2.1 ea
       obtain⟨hq,hqw⟩:=zdm hgc.2.1 ec
       have l1:=hp.1
       have l2:=hq.1
       have l3:=zb7 l1 hp.2.1
       have l4:=zb7 l2 hq.2.1
       have hap:=zob hA p.1 q.1 p.2 q.2 (by omega) (by omega) (by omega) (by omega) hpw hqw
       rw[←hAe] at hap
       simp only[FV] at hap
       simp[asBC,ap0,apk,set0,setk]
       refine zab hap ?_
       simp[hRl.1,tA,lZ,dZ,ap0,apk,set0,setk,hsh]
    ·simp[h1,hga.1.1,ta,hgc.1.1,tc,hd35,ap0,apk,set0,setk,s2]
     refine zai (zcQ xn a b1 ha hga.2.1) ?_
     simp[zgH,zd7,zgJ,ap0,apk,set0,setk,s3]
     refine zai (zcQ yn c b2 hc hgc.2.1) ?_
     simp[zgH,zd7,zgJ,ap0,apk,set0,setk,s4]
     cases ea:asB a with
     | none =>
      have hAe:=(fin _ _ ea rfl).2 rfl
      simp[hAe,←hZ,lZ,dZ,tZ,ap0,apk,set0,setk,hsh,kZ]
     | some p =>
      cases ec:asB c with
      | none =>
       have hAe:=(fin _ _ ea ec).2 rfl
       simp[hAe,←hZ,lZ,dZ,tZ,ap0,apk,set0,setk,hsh,kZ]
      | some q =>
       obtain⟨_,_,e1,e2,hAe⟩:=(fin _ _ ea ec).1 rfl rfl
       cases e1; cases e2
       obtain⟨hp,hpw⟩:=zdm hga.2.1 ea
       obtain⟨hq,hqw⟩:=zdm hgc.2.1 ec
       have l1:=hp.1
       have l2:=hq.1
       have l3:=zb7 l1 hp.2.1
       have l4:=zb7 l2 hq.2.1
       have hap:=zob hA p.1 q.1 p.2 q.2 (by omega) (by omega) (by omega) (by omega) hpw hqw
       rw[←hAe] at hap
       simp only[FV] at hap
       simp[asBC,ap0,apk,set0,setk]
       refine zab hap ?_
       simp[hRl.1,tA,lZ,dZ,ap0,apk,set0,setk,hsh]
end Go.Ev
/- Values of sums and of bits are told zgC wherever they are not one: plain laws. -/
namespace Go.Ev
open Go Go.RowKit
variable {L L' L'':List Nd}
def Nd.pl(a:Nd):Prop:=(a.kind=0→a=zat a.f)∧(a.kind=1→∃ fv ft,a=zcn fv ft∧Right fv ft∧fv≠[]∧∀ i,fv=[i]→ft≠[0,ones]∧ft≠[ones,0])
def Grow(L L':List Nd):Prop:=∀ a∈L',a∈L∨a.pl
theorem Grow.refl:Grow L L:=fun a h=>.inl h
theorem Grow.trans(h:Grow L L')(k:Grow L' L''):Grow L L'':=fun a ha=>by
 rcases k a ha with h1|h1
 ·exact h a h1
 ·exact .inr h1
def Pl(L:List Nd):Prop:=∀ a∈L,a.pl
theorem Pl.nil:Pl []:=fun a h=>by cases h
theorem Inv.inj(h:Inv L){x y:Nat}{a:Nd}(hx:L[x]?=some a)(hy:L[y]?=some a):x=y:=by
 obtain⟨h1,e1⟩:=List.getElem?_eq_some_iff.1 hx
 obtain⟨h2,e2⟩:=List.getElem?_eq_some_iff.1 hy
 have hp:=List.pairwise_iff_getElem.1 h.one
 rcases Nat.lt_trichotomy x y with hl|hl|hl
 ·exact absurd (e1.trans e2.symm) (hp x y h1 h2 hl)
 ·exact hl
 ·exact absurd (e2.trans e1.symm) (hp y x h2 h1 hl)
/-! Which numbers are sums, and which are bits of some variables. -/
def zhG(L:List Nd)(x:Int):Prop:=∃(n:Nat) (a:Nd),x=n∧L[n]?=some a∧a.kind=0
def ze7(L:List Nd)(x:Int)(P:Int→Prop):Prop:=∃(n:Nat) (a:Nd) (p:List Int×List Nat),x=n∧L[n]?=some a∧asB a=some p∧∀ v∈p.1,P v
theorem zhG.pre{x:Int}(h:zhG L x)(e:L <+: L'):zhG L' x:=by obtain⟨n,a,h1,h2,h3⟩:=h; exact⟨n,a,h1,zgK e h2,h3⟩
theorem ze7.pre{x:Int}{P:Int→Prop}(h:ze7 L x P)(e:L <+: L'):ze7 L' x P:=by obtain⟨n,a,p,h1,h2,h3⟩:=h; exact⟨n,a,p,h1,zgK e h2,h3⟩
theorem ze7.mono{x:Int}{P Q:Int→Prop}(h:ze7 L x P)(k:∀ v,P v→Q v):ze7 L x Q:=by obtain⟨n,a,p,h1,h2,h3,h4⟩:=h; exact⟨n,a,p,h1,h2,h3,fun v hv=>k v (h4 v hv)⟩
theorem zhG.has{x:Int}(h:zhG L x):hasI L x=true:=by obtain⟨n,a,rfl,h2,_⟩:=h; simp[hasI]; exact(List.getElem?_eq_some_iff.1 h2).1
theorem ze7.has{x:Int}{P:Int→Prop}(h:ze7 L x P):hasI L x=true:=by obtain⟨n,a,p,rfl,h2,_⟩:=h; simp[hasI]; exact(List.getElem?_eq_some_iff.1 h2).1
end Go.Ev
/- Where a filter is gone to: splice.targets, hurdleref22.jumps. -/
namespace Go.Ev
open Go Go.RowKit
variable {G:Tbl}
def zd6(x:In4)(j i:Nat):Bool:=if x.op=5 then decide (j+1+x.k=i) else isBr x.op&&(decide (j+1+x.jt.toNat=i)||decide (j+1+x.jf.toNat=i))
def hitB(f:List In4)(m i:Nat):Bool:=(List.range m).any fun j=>zd6 (f.getD j RET) j i
def hits(f:List In4)(m:Nat):List Bool:=(List.range f.length).map (hitB f m)
theorem zi0(f:List In4)(m:Nat):(hits f m).length=f.length:=by simp[hits]
theorem zjV(f:List In4)(m i:Nat):hitB f (m+1) i=(hitB f m i||zd6 (f.getD m RET) m i):=by simp[hitB,List.range_succ,List.any_append]
theorem zfN(f:List In4)(m i:Nat)(h:i<f.length):(hits f m)[i]?=some (hitB f m i):=by simp[hits,h]
theorem zli(f:List In4)(m:Nat)(l:List Bool)(hl:l.length=f.length)(h:∀ i,i<f.length→l[i]?=some (hitB f (m+1) i)):l=hits f (m+1):=by
 refine List.ext_getElem? fun i=>?_
 by_cases hi:i<f.length
 ·rw[h i hi,zfN _ _ _ hi]
 ·rw[List.getElem?_eq_none (by omega),List.getElem?_eq_none (by rw[zi0]; omega)]
theorem zjW:∀ l:List Bool,zbh 1 l.length (cb l)=zbf l
 | []=>rfl
 | x::l=>by
  have:=zjW l
  simp only[cb] at this
  simp[zbh,cb,zbf,this]
theorem zlY[HasIns G][HasSpl G](f:List In4)(hs:zao f=true)(hk:∀ x∈f,x.k<4294967296):FP G 204 [FL f] (.vs (zbf (hits f f.length)) .no):=by
 refine zak HasSpl.h_splice_targets (Nat.le_of_ble_eq_true rfl) ?_
 have hl:f.length≤4096:=by simp only[zao,Bool.and_eq_true,decide_eq_true_eq] at hs; exact hs.1.1
 simp(disch:=omega)[FL,leTn]
 refine W_up f.length (fun m=>[(3,.rs 0 0 f.length 1),(9,FL f),(10,.int .i64 f.length),(11,.int .i64 m)]) (fun m=>[some (.cells (cb (hits f m)))]) (fun _=>True) ?_ ?_
 ·have:hits f 0=List.replicate f.length false:=by
   refine List.ext_getElem? fun i=>?_
   by_cases hi:i<f.length
   ·rw[zfN _ _ _ hi,List.getElem?_replicate_of_lt hi]; rfl
   ·rw[List.getElem?_eq_none (by rw[zi0]; omega),List.getElem?_eq_none (by simp; omega)]
  simp[zaa,zad,FL,this]
 intro m hm _
 have hhl:=zi0 f m
 by_cases hlt:m<f.length
 ·obtain⟨x,hfx⟩:∃ x,x=f[m]:=⟨_,rfl⟩
  have hgg:=zbk hlt
  rw[←hfx] at hgg
  have hfx:=hfx.symm
  have hg:f[m]?=some x:=by rw[List.getElem?_eq_getElem hlt,hfx]
  have hD:f.getD m RET=x:=by rw[List.getD,hg]; rfl
  have hkk:=hk x (hfx▸List.getElem_mem hlt)
  have hbr:=zb9 (G:=G) x
  have hcs:x.cs=[.int .i64 x.op,.int .i64 x.jt,.int .i64 x.jf,.int .u32 (x.k:Int)]:=rfl
  simp[IV,hcs] at hbr
  have hbo:=zhm hs hg
  have hofs:=fun o=>zcs (o:=o) hs hg
  have a3:addI .i64 (m:Int) 1=((m+1:Nat):Int):=zag (by omega)
  have hc:=zdJ x.k hkk
  simp(disch:=omega)[FL,ltT,hgg,hfx,hcs]
  by_cases h5:x.op=5
  ·have b5:(x.op==5)=true:=by simp[h5]
   have hnb:isBr x.op=false:=by rw[h5]; decide
   have hof:=hofs x.k (by simp[offs,h5,show zaz 5=false by decide])
   have a4:addI .i64 ((m+1:Nat):Int) (x.k:Int)=((m+1+x.k:Nat):Int):=addN (by omega)
   have hst:=zlR (hits f m) (m+1+x.k) true (by omega)
   have hnew:(hits f m).set (m+1+x.k) true=hits f (m+1):=by
    refine zli f m _ (by simp[hhl]) fun i hi=>?_
    rw[List.getElem?_set,zfN _ _ _ hi,zjV,hD]
    by_cases he:m+1+x.k=i
    ·subst he; simp[zd6,h5,hhl,hi]
    ·simp[zd6,h5,he]
   rw[hnb] at hbr
   rw[hnew] at hst
   simp(disch:=omega)[b5,a3,a4,hc,hhl,ltTn,leTn,hst,-Int.natCast_add]
   refine zab hbr ?_
   simp(disch:=omega)[hlt,zag,zaa,zad,FL,-Int.natCast_add]
  ·have b5:(x.op==5)=false:=beqF h5
   simp(disch:=omega)[b5,-Int.natCast_add]
   refine zab hbr ?_
   cases hbx:isBr x.op
   ·have hnew:hits f m=hits f (m+1):=by
     refine zli f m _ hhl fun i hi=>?_
     rw[zfN _ _ _ hi,zjV,hD]
     simp[zd6,h5,hbx]
    rw[hnew]
    simp(disch:=omega)[hlt,zag,zaa,zad,FL,-Int.natCast_add]
   ·obtain⟨b1,b2,b3,b4⟩:=hbo hbx
    have hne:zaz x.op=false:=by
     have key:∀ p∈[21,37,53,69,29,45,61,(77:Int)],zaz p=false:=by decide
     exact key _ (by simpa[isBr] using hbx)
    have ho1:=hofs x.jt.toNat (by simp[offs,hne,h5,hbx])
    have ho2:=hofs x.jf.toNat (by simp[offs,hne,h5,hbx])
    have a4:addI .i64 ((m+1:Nat):Int) x.jt=((m+1+x.jt.toNat:Nat):Int):=by rw[zaD]<;>omega
    have a5:addI .i64 ((m+1:Nat):Int) x.jf=((m+1+x.jf.toNat:Nat):Int):=by rw[zaD]<;>omega
    have hst:=zlR (hits f m) (m+1+x.jt.toNat) true (by omega)
    have hst2:=zlR ((hits f m).set (m+1+x.jt.toNat) true) (m+1+x.jf.toNat) true (by rw[List.length_set]; omega)
    have hnew:((hits f m).set (m+1+x.jt.toNat) true).set (m+1+x.jf.toNat) true=hits f (m+1):=by
     refine zli f m _ (by simp[hhl]) fun i hi=>?_
     rw[List.getElem?_set,List.getElem?_set,zfN _ _ _ hi,zjV,hD]
     by_cases he:m+1+x.jt.toNat=i<;>by_cases he2:m+1+x.jf.toNat=i<;>simp[zd6,h5,hbx,he,he2,hhl,hi]
    rw[hnew] at hst2
    simp(maxSteps:=20000) (disch:=omega)[a3,a4,a5,hhl,-Int.natCast_add]
    simp[ho1,ho2,hhl,-Int.natCast_add]
    simp(disch:=omega)[hhl,leTn,hst,hst2,-Int.natCast_add]
    simp[ho2,-Int.natCast_add]
    simp(disch:=omega)[hhl,leTn,hst2,-Int.natCast_add]
    simp(disch:=omega)[hlt,zag,zaa,zad,FL,-Int.natCast_add]
 ·have hne:m=f.length:=by omega
  subst hne
  have hch:zbh 1 f.length (cb (hits f f.length))=zbf (hits f f.length):=by
   have h:=zjW (hits f f.length)
   rw[hhl] at h; exact h
  simp(disch:=omega)[hhl,leTn,hch]
end Go.Ev
/- What was made as a sum, or as bits, is one in the book. -/
namespace Go.Ev
open Go Go.RowKit
variable {G:Tbl}
variable {L L':List Nd} {l:List Md}
inductive How (s:MS) (a:Md):Md→Int×List Nd→Prop
 | none {b p}:b.kind=4→How s a b p
 | con {b}:b.kind=0→b.c=a.c→How s a b (putN s.L (zat (a.c::zae 34)))
 | var {b}:b.kind=1→0≤b.i→b.i<34→How s a b (varN s.L b.i)
 | alu {b}:b.kind=2→(doW b.op 0 1).2=true→zbQ s.made b.x=true→zbQ s.made b.y=true→How s a b (bAlu s.L b.op (atI s.ids b.x) (atI s.ids b.y))
 | neg {b}:b.kind=3→zbQ s.made b.x=true→How s a b (bNeg s.L (atI s.ids b.x))
theorem zhG.back{n:Nat}(h:zhG L' n)(e:L <+: L')(hn:n<L.length):zhG L n:=by
 obtain⟨m,a,h1,h2,h3⟩:=h
 obtain rfl:n=m:=by omega
 have:=zgK e (zal hn)
 rw[h2] at this
 cases this
 exact⟨n,_,rfl,zal hn,h3⟩
theorem ze7.back{n:Nat}{P:Int→Prop}(h:ze7 L' n P)(e:L <+: L')(hn:n<L.length):ze7 L n P:=by
 obtain⟨m,a,p,h1,h2,h3⟩:=h
 obtain rfl:n=m:=by omega
 have:=zgK e (zal hn)
 rw[h2] at this
 cases this
 exact⟨n,_,p,rfl,zal hn,h3⟩
theorem ahead{s f:MS}{i:Nat}{x:Int}(hM:MI (zae 34) s)(e1:s.ids=f.ids.take i)(e2:s.made=f.made.take i)(hx:zbQ s.made x=true) :
  ∃ n m:Nat,∃ c,x=n∧n<i∧f.made[n]?=some c∧c.kind≠4∧f.ids[n]?=some (m:Int)∧atI s.ids x=m∧m<s.L.length:=by
 obtain⟨n,m,h1,h2,h3,h4,_⟩:=hM.there hx
 have hni:n<i:=by rw[e2,List.length_take] at h2; omega
 obtain⟨c,hcc⟩:∃ c,s.made[n]?=some c:=⟨_,zal h2⟩
 obtain⟨y,hy⟩:∃ y,s.ids[n]?=some y:=⟨_,zal (by rw[hM.len]; exact h2)⟩
 have hym:y=m:=by
  rw[atI,h1,if_pos ⟨by omega,by rw[hM.len]; omega⟩,Int.toNat_natCast,hy] at h3
  exact h3
 subst h1
 refine⟨n,m,c,rfl,hni,?_,?_,?_,h3,h4⟩
 ·rw[e2,List.getElem?_take,if_pos hni] at hcc; exact hcc
 ·simp only[zbQ,Int.toNat_natCast,hcc,Bool.and_eq_true,decide_eq_true_eq] at hx; exact hx.2
 ·rw[e1,List.getElem?_take,if_pos hni,hym] at hy; exact hy
end Go.Ev
/- The assignments that may tell two windows zgC: decide.tries. -/
namespace Go.Ev
open Go Go.RowKit
variable {G:Tbl}
def zcx(i:Nat):List Nat:=[0,4294967295,1,2147483648,3+7*i,16843009*(i+1),2,65535,1431655765,2863311530*2^(i%3)%4294967296,i%2,i*2654435769%4294967296]
def rowK(k:Nat):List Nat:=(List.range 34).map fun i=>(zcx i).getD k 0
theorem zep(k:Nat):(rowK k).length=34:=by simp[rowK]
theorem ztg{i:Nat}(hi:i<34):∀ x∈zcx i,x<4294967296:=by
 intro x hx
 simp only[zcx,List.mem_cons,List.not_mem_nil,or_false] at hx
 rcases hx with rfl|rfl|rfl|rfl|rfl|rfl|rfl|rfl|rfl|rfl|rfl|rfl<;>omega
theorem zwL(k:Nat):∀ x∈rowK k,x<4294967296:=by
 intro x hx
 simp only[rowK,List.mem_map,List.mem_range] at hx
 obtain⟨i,hi,rfl⟩:=hx
 rw[List.getD]
 cases hg:(zcx i)[k]? with
 | none=>decide
 | some y=>exact ztg hi y (List.mem_of_getElem? hg)
def zcF(k i:Nat):List Nat:=(rowK k).take i++zae (34-i)
theorem zhH{k i:Nat}(hi:i≤34):(zcF k i).length=34:=by simp[zcF,zep]; omega
theorem zu7(k:Nat):zcF k 34=rowK k:=by rw[zcF,List.take_of_length_le (by rw[zep]; exact Nat.le_refl _)]; simp[zae]
theorem zth{k i:Nat}(hi:i<34):(zcF k i).set i ((zcx i).getD k 0)=zcF k (i+1):=by
 have hg:(rowK k)[i]'(by rw[zep]; omega)=(zcx i).getD k 0:=by simp[rowK]
 rw[zcF,zcF,List.set_append_right _ _ (by rw[List.length_take]; omega),List.length_take,Nat.min_eq_left (by rw[zep]; omega),Nat.sub_self,List.take_succ_eq_append_getElem (by rw[zep]; omega),hg,List.append_assoc]
 congr 1
 rw[show 34-i=(34-(i+1))+1 by omega]
 rfl
theorem zx0{a b:Nat}:mulI .u32 (a:Int) (b:Int)=((a*b%4294967296:Nat):Int):=by
 unfold mulI
 rw[←Int.natCast_mul]
 simp only[IntKind.wrap,IntKind.bits,IntKind.signed]
 simp
section
variable {α:Type} {f:Nat→Option α} {hit:α→Bool} {n i:Nat}
theorem zi1(h:∀ j<n,∀ r,f j=some r→hit r=false):((List.range n).filterMap f).find? hit=none:=by
 rw[List.find?_eq_none]
 intro r hr
 obtain⟨j,hj,hfr⟩:=List.mem_filterMap.1 hr
 rw[h j (List.mem_range.1 hj) r hfr]; decide
theorem zpq(hi:i<n)(h:∀ j<i,∀ r,f j=some r→hit r=false){r:α}(hr:f i=some r)(hh:hit r=true):((List.range n).filterMap f).find? hit=some r:=by
 obtain⟨m,rfl⟩:∃ m,n=i+(m+1):=⟨n-i-1,by omega⟩
 rw[List.range_add,List.filterMap_append,List.find?_append,zi1 h,Option.none_or]
 rw[List.range_succ_eq_map,List.map_cons,List.filterMap_cons]
 simp only[Nat.add_zero,hr,List.find?_cons,hh]
end
noncomputable def trA(L:List Nd)(p q:List Int)(live i:Nat):Option (List Nat):=if zdP live i=true∧(apB L (p.getD i 0) (q.getD i 0)).2=true then some (apB L (p.getD i 0) (q.getD i 0)).1 else none
noncomputable def zbs(L:List Nd)(p q:List Int)(live:Nat):List (List Nat):=(List.range 18).filterMap (trA L p q live)++(List.range 12).filterMap fun k=>some (rowK k)
theorem zhI{L:List Nd}{p q:List Int}{live:Nat}{r:List Nat}(h:r∈zbs L p q live):r.length=34∧∀ x∈r,x<4294967296:=by
 rw[zbs,List.mem_append] at h
 rcases h with h|h
 ·obtain⟨j,hj,hfr⟩:=List.mem_filterMap.1 h
  unfold trA at hfr
  split at hfr
  ·cases hfr; exact zqR _ _ _
  ·cases hfr
 ·obtain⟨j,hj,hfr⟩:=List.mem_filterMap.1 h
  cases hfr
  exact⟨zep _,zwL _⟩
section
variable {H:Heap} {b z m:Nat} {L:List Nd}
theorem zf9{A X:Heap}{n:Nat}(h:zad n A=A)(hl:A.length=n):zad n (A++X)=A:=by
 unfold zad at h ⊢
 rw[List.take_left' hl]
 rwa[List.take_of_length_le (Nat.le_of_eq hl)] at h
theorem zti[HasAffApart G][HasAffine G][hA:HasBitsA G][HasSym G][HasSymApart G][HasDecDf G][HasDec G](h:Bk H b z m L)(hi:Inv L){id i1 i2 i3 i4 live:Nat}{p q s t:List Int}(hlv:live<4294967296)
  (h1:H[i1]?=some (some (.cells [.int .u32 live]))) (h2:H[i2]?=some (some (.cells [.ptr b 0]))) (h3:H[i3]?=some (some (.cells (vcs p s .no)))) (h4:H[i4]?=some (some (.cells (vcs q t .no))))
  (hp:p.length=18) (hq:q.length=18) (hid:id<H.length) {hit:List Nat→Bool} {H':List Nat→Heap}
  (hyes:∀ r∈zbs L p q live,hit r=false→∀ X:Heap,(∀ n,X.map (Option.map (Blk.cl n))=X)→YS G id [.agg (zac .u32 r)] (H++X) true (H++X))
  (hno:∀ r∈zbs L p q live,hit r=true→∀ X:Heap,(∀ n,X.map (Option.map (Blk.cl n))=X)→YS G id [.agg (zac .u32 r)] (H++X) false (H' r++X))
  (hl':∀ r∈zbs L p q live,hit r=true→zad H.length (H' r)=H' r∧(H' r).length=H.length) :
  SF G 310 [.yld id,.ptr i1 0,.ptr i2 0,.ptr i3 0,.ptr i4 0] H (.tup []) (match(zbs L p q live).find? hit with|some r=>H' r|none=>H):=by
 refine zbw HasDec.h_decide_tries_1 (Nat.le_of_ble_eq_true rfl) ?_
 have lt1:i1<H.length:=(List.getElem?_eq_some_iff.1 h1).1
 have lt2:i2<H.length:=(List.getElem?_eq_some_iff.1 h2).1
 have lt3:i3<H.length:=(List.getElem?_eq_some_iff.1 h3).1
 have lt4:i4<H.length:=(List.getElem?_eq_some_iff.1 h4).1
 have hself:=h.shut.self
 have hback:=h.shut.back
 have hbl:=h.lb
 have g1:=(List.getElem?_eq_some_iff.1 h1).2
 have g2:=(List.getElem?_eq_some_iff.1 h2).2
 have g3:=(List.getElem?_eq_some_iff.1 h3).2
 have g4:=(List.getElem?_eq_some_iff.1 h4).2
 have e1:∀ X:Heap,(H++X)[i1]?=some (some (.cells [.int .u32 live])):=fun X=>by rw[List.getElem?_append_left lt1]; exact h1
 have e2:∀ X:Heap,(H++X)[i2]?=some (some (.cells [.ptr b 0])):=fun X=>by rw[List.getElem?_append_left lt2]; exact h2
 have e3:∀ X:Heap,(H++X)[i3]?=some (some (.cells (vcs p s .no))):=fun X=>by rw[List.getElem?_append_left lt3]; exact h3
 have e4:∀ X:Heap,(H++X)[i4]?=some (some (.cells (vcs q t .no))):=fun X=>by rw[List.getElem?_append_left lt4]; exact h4
 have e1':∀(X:Heap) h,(H++X)[i1]'h=some (.cells [.int .u32 live]):=fun X h=>(List.getElem?_eq_some_iff.1 (e1 X)).2
 have e2':∀(X:Heap) h,(H++X)[i2]'h=some (.cells [.ptr b 0]):=fun X h=>(List.getElem?_eq_some_iff.1 (e2 X)).2
 have e3':∀(X:Heap) h,(H++X)[i3]'h=some (.cells (vcs p s .no)):=fun X h=>(List.getElem?_eq_some_iff.1 (e3 X)).2
 have e4':∀(X:Heap) h,(H++X)[i4]'h=some (.cells (vcs q t .no)):=fun X h=>(List.getElem?_eq_some_iff.1 (e4 X)).2
 have k0:∀(r:Heap) x,(H++r).set H.length x=H++r.set 0 x:=fun r x=>zbS rfl x
 have kk:∀ r:Heap,(H++r)[H.length]?=r[0]?:=fun r=>apn0 rfl
 have lp:=zes (st:=s) (tk:=.no) hp
 have lq:=zes (st:=t) (tk:=.no) hq
 have hBn:Bk (H++[none]) b z m L:=h.app fun n=>by simp
 have hmap:H.map (Option.map (Blk.cl H.length))=H:=by
  have:=hself
  unfold zad at this
  rwa[List.take_of_length_le (Nat.le_refl _)] at this
 simp
 refine W_up 18 (fun i=>[(0,.yld id),(1,.ptr i1 0),(2,.ptr i2 0),(3,.ptr i3 0),(4,.ptr i4 0),(12,.int .i64 i)]) (fun _=>H) (fun i=>∀ j<i,∀ r,trA L p q live j=some r→hit r=false) ?_ ?_
 ·simp[zaa,hself,hid,lt1,lt2,lt3,lt4]
 intro i hi' hP
 by_cases hlt:i<18
 ·have hin:=zrF (G:=G) live i hlv (by omega)
  simp(disch:=omega)[ltT,hlt,h1,g1]
  refine zab hin ?_
  cases hb:zdP live i with
  | false =>
   have hP':∀ j<i+1,∀ r,trA L p q live j=some r→hit r=false:=fun j hj r hr=>by
    rcases Nat.lt_succ_iff_lt_or_eq.1 hj with h|rfl
    ·exact hP j h r hr
    ·simp[trA,hb] at hr
   simp(disch:=omega)[ltT,hlt,zag,zaa,hself,hid,lt1,lt2,lt3,lt4,-Int.natCast_add]
   exact hP'
  | true =>
   obtain⟨x,hx⟩:∃ x,x=p.getD i 0:=⟨_,rfl⟩
   obtain⟨y,hy⟩:∃ y,y=q.getD i 0:=⟨_,rfl⟩
   have gx:x=p[i]'(by omega):=by rw[hx]; simp[List.getD,List.getElem?_eq_getElem (show i<p.length by omega)]
   have gy:y=q[i]'(by omega):=by rw[hy]; simp[List.getD,List.getElem?_eq_getElem (show i<q.length by omega)]
   have vx:=zfc (p:=p) (st:=s) (tk:=.no) hp hlt
   have vy:=zfc (p:=q) (st:=t) (tk:=.no) hq hlt
   rw[←gx] at vx
   rw[←gy] at vy
   have hap:=zwK (G:=G) x y hBn hi
   have hal:=zqR L x y
   have hR:trA L p q live i=if(apB L x y).2=true then some (apB L x y).1 else none:=by rw[hx,hy]; simp[trA,hb]
   obtain⟨r,hr⟩:∃ r,r=(apB L x y).1:=⟨_,rfl⟩
   obtain⟨ok,hok⟩:∃ ok,ok=(apB L x y).2:=⟨_,rfl⟩
   rw[←hr,←hok] at hap hR
   rw[←hr] at hal
   have rt:=zah (k:=.u32) hal.1
   have rd:(zac .u32 r).drop 34=[]:=List.drop_eq_nil_of_le (by simp[hal.1])
   simp(disch:=omega)[ltT,leTn,leFn,hlt,zaa,e1,e2,e3,e4,e1',e2',e3',e4',lp,lq,vx,vy,hself,hid,lt1,lt2,lt3,lt4]
   refine zsH hap ⟨?_,?_,rfl⟩ ?_
   ·intro v hv
    simp only[List.mem_cons,List.not_mem_nil,or_false] at hv
    rcases hv with rfl|rfl|rfl<;>simp[V.cl,hbl]
   ·simp only[List.map_append,hmap,List.map_cons,List.map_nil,Option.map_none]
   simp(disch:=omega)[k0,kk,hal.1,rt,rd]
   have htr:ok=true→r∈zbs L p q live:=fun h=>by
    rw[zbs,List.mem_append]
    exact .inl (List.mem_filterMap.2 ⟨i,List.mem_range.2 hlt,by rw[hR,if_pos h]⟩)
   have hP1:(∀ r',trA L p q live i=some r'→hit r'=false)→∀ j<i+1,∀ r,trA L p q live j=some r→hit r=false:=fun h0 j hj r hr=>by
    rcases Nat.lt_succ_iff_lt_or_eq.1 hj with h|rfl
    ·exact hP j h r hr
    ·exact h0 r hr
   cases ok with
   | false =>
    have:=hP1 fun r' h=>by rw[hR] at h; cases h
    simp(disch:=omega)[hlt,zag,zaa,hself,hback,hid,lt1,lt2,lt3,lt4,-Int.natCast_add]
    exact this
   | true =>
    have hXc:∀ n,([some (Blk.cells (zac .u32 r))]:Heap).map (Option.map (Blk.cl n))=[some (Blk.cells (zac .u32 r))]:=fun n=>by simp[Blk.cl]
    simp(disch:=omega)[hlt,zaa,hid,lt1,lt2,lt3,lt4,kk,hal.1,rt]
    cases hh:hit r with
    | false =>
     refine zcA (hyes r (htr rfl) hh _ hXc) ?_
     have:=hP1 fun r' h=>by rw[hR,if_pos rfl] at h; cases h; exact hh
     simp(disch:=omega)[hlt,zag,zaa,hself,hback,hid,lt1,lt2,lt3,lt4,-Int.natCast_add]
     exact this
    | true =>
     refine zcA (hno r (htr rfl) hh _ hXc) ?_
     obtain⟨hl1,hl2⟩:=hl' r (htr rfl) hh
     have hf:=zpq hlt hP (by rw[hR,if_pos rfl]) hh
     have hfin:(zbs L p q live).find? hit=some r:=by rw[zbs,List.find?_append,hf]; rfl
     simp[hfin,zf9 hl1 hl2]
 ·have hne:i=18:=by omega
  subst hne
  have hA:=zi1 hP
  simp
  refine W_up 12 (fun k=>[(0,.yld id),(40,.int .u32 k)]) (fun _=>H) (fun k=>∀ j<k,∀ r,(some (rowK j):Option (List Nat))=some r→hit r=false) ?_ ?_
  ·simp[zaa,hself,hid]
  intro k hk hP2
  by_cases hlt2:k<12
  ·have hz34:[V.int .u32 0,.int .u32 0]=[V.int .u32 0,.int .u32 0]:=rfl
   have hs:∀ i,zad (H.length+1) (H++[some (.cells (zac .u32 (zcF k i)))])=H++[some (.cells (zac .u32 (zcF k i)))]:=fun i=>by
    have:=(h.app (r:=[some (.cells (zac .u32 (zcF k i)))]) fun n=>by simp[Blk.cl]).shut.self
    simpa using this
   simp(disch:=omega)[ltT,hlt2,kk,k0]
   refine W_up 34 (fun i=>[(0,.yld id),(9,.int .u32 k),(10,.ptr H.length 0),(40,.int .u32 k),(43,.int .i64 i)]) (fun i=>H++[some (.cells (zac .u32 (zcF k i)))]) (fun _=>True) ?_ ?_
   ·have:=hs 0
    rw[show zcF k 0=zae 34 by simp[zcF]] at this
    simp[zaa,this,zcF,show id<H.length+1 by omega]
   intro i hi _
   by_cases hlt3:i<34
   ·have r3:remI (i:Int) 3=((i%3:Nat):Int):=zeV (b:=3)
    have r2:remI (i:Int) 2=((i%2:Nat):Int):=zeV (b:=2)
    have r3n:(((i%3:Nat):Int)<0)=False:=eq_false (by omega)
    have s3:shlI .u32 2863311530 ((i%3:Nat):Int)=((2863311530*2^(i%3)%4294967296:Nat):Int):=zn1 (a:=2863311530) (by omega)
    have c1:zaG .u32 (i:Int)=(i:Int):=zaM (by omega)
    have c2:zaG .u32 ((i+1:Nat):Int)=((i+1:Nat):Int):=zaM (by omega)
    have c3:zaG .u32 ((i%2:Nat):Int)=((i%2:Nat):Int):=zaM (by omega)
    have m1:mulI .u32 7 (i:Int)=((7*i:Nat):Int):=zlW (a:=7) (by omega)
    have a1:addI .u32 3 ((7*i:Nat):Int)=((3+7*i:Nat):Int):=by
     unfold addI
     rw[show(3:Int)+((7*i:Nat):Int)=((3+7*i:Nat):Int) by omega]
     exact zaM (by omega)
    have m2:mulI .u32 16843009 ((i+1:Nat):Int)=((16843009*(i+1):Nat):Int):=zlW (a:=16843009) (by omega)
    have m3:mulI .u32 (i:Int) 2654435769=((i*2654435769%4294967296:Nat):Int):=zx0 (b:=2654435769)
    have hc:∀ n9:Nat,n9=2863311530*2^(i%3)%4294967296→∀ n11:Nat,n11=i*2654435769%4294967296→[V.int .u32 0,.int .u32 4294967295,.int .u32 1,.int .u32 2147483648,.int .u32 ((3+7*i:Nat):Int),.int .u32 ((16843009*(i+1):Nat):Int),.int .u32 2,.int .u32 65535,.int .u32 1431655765,.int .u32 (n9:Int),.int .u32 ((i%2:Nat):Int),.int .u32 (n11:Int)]=zac .u32 (zcx i):=by
     rintro n9 rfl n11 rfl
     rfl
    obtain⟨n9,hn9⟩:∃ n9,n9=2863311530*2^(i%3)%4294967296:=⟨_,rfl⟩
    obtain⟨n11,hn11⟩:∃ n11,n11=i*2654435769%4294967296:=⟨_,rfl⟩
    have hc:=hc n9 hn9 n11 hn11
    rw[←hn9] at s3
    rw[←hn11] at m3
    have hz12:zac .u32 (zae 12)=[V.int .u32 0,.int .u32 0,.int .u32 0,.int .u32 0,.int .u32 0,.int .u32 0,.int .u32 0,.int .u32 0,.int .u32 0,.int .u32 0,.int .u32 0,.int .u32 0]:=rfl
    have lc:(zcx i).length=12:=rfl
    have cg:=zaO .u32 (zcx i) k (by rw[lc]; exact hlt2)
    have hce:(zcx i)[k]'(by rw[lc]; exact hlt2)=(zcx i).getD k 0:=by simp[List.getD,List.getElem?_eq_getElem (show k<(zcx i).length from hlt2)]
    rw[hce] at cg
    have hst:=zbc .u32 (zcF k i) i ((zcx i).getD k 0) (by rw[zhH hi]; exact hlt3)
    rw[zth hlt3] at hst
    obtain⟨cv,hcv⟩:∃ cv,cv=(zcx i).getD k 0:=⟨_,rfl⟩
    rw[←hcv] at cg hst
    simp(disch:=omega)[ltT,hlt3,kk,k0,zhH hi,r3,r2,r3n,s3,c1,zag,c2,c3,m1,a1,m2,m3,hz12,-Int.natCast_add,-Int.natCast_mul,-Int.natCast_emod]
    have lr:=zhH hi (k:=k)
    have lr':=zhH (show i+1≤34 from hlt3) (k:=k)
    rw[hc,cg]
    simp(disch:=omega)[ltT,leTn,hlt3,show k≤11 by omega,kk,k0,lr,hst,hs,zaa,zag,show id<H.length+1 by omega,-Int.natCast_add]
   ·have hne:i=34:=by omega
    subst hne
    have hXc:∀ n,([some (Blk.cells (zac .u32 (rowK k)))]:Heap).map (Option.map (Blk.cl n))=[some (Blk.cells (zac .u32 (rowK k)))]:=fun n=>by simp[Blk.cl]
    have hmem:rowK k∈zbs L p q live:=by
     rw[zbs,List.mem_append]
     exact .inr (List.mem_filterMap.2 ⟨k,List.mem_range.2 hlt2,rfl⟩)
    have rl:=zep k
    have rt:=zah (k:=.u32) rl
    have ck:addI .u32 (k:Int) 1=((k+1:Nat):Int):=by
     unfold addI
     rw[show(k:Int)+1=((k+1:Nat):Int) by omega]
     exact zaM (by omega)
    simp[zu7,kk,rl,rt]
    cases hh:hit (rowK k) with
    | false =>
     refine zcA (hyes _ hmem hh _ hXc) ?_
     have hP3:∀ j<k+1,∀ r,(some (rowK j):Option (List Nat))=some r→hit r=false:=fun j hj r hr=>by
      rcases Nat.lt_succ_iff_lt_or_eq.1 hj with h|rfl
      ·exact hP2 j h r hr
      ·cases hr; exact hh
     simp(disch:=omega)[hlt2,ck,zaa,hself,hback,hid,-Int.natCast_add]
     simpa using hP3
    | true =>
     refine zcA (hno _ hmem hh _ hXc) ?_
     obtain⟨hl1,hl2⟩:=hl' _ hmem hh
     have hB:=zpq hlt2 hP2 rfl hh
     have hfin:(zbs L p q live).find? hit=some (rowK k):=by rw[zbs,List.find?_append,hA,hB]; rfl
     simp[hfin,zf9 hl1 hl2]
  ·have hne:k=12:=by omega
   subst hne
   have hB:=zi1 hP2
   have hfin:(zbs L p q live).find? hit=none:=by rw[zbs,List.find?_append,hA,hB]; rfl
   simp[hfin,hself]
end
end Go.Ev
/- Whether values and stops are one: decide.same. -/
namespace Go.Ev
open Go Go.RowKit
variable {G:Tbl}
def zcO(p q:List Int)(live i:Nat):Bool:=zdP live i&&(p.getD i 0 !=q.getD i 0)
def zcy(p q s t:List Int)(live:Nat):Bool:=!((List.range 18).any (zcO p q live))&&decide (s=t)
theorem zjX{p q s t:List Int}{live:Nat}:zcy p q s t live=true↔(∀ i<18,zcO p q live i=false)∧s=t:=by
 simp[zcy]
theorem ztj{p q s t:List Int}{live i:Nat}(hi:i<18)(h:zcO p q live i=true):zcy p q s t live=false:=by
 have:(List.range 18).any (zcO p q live)=true:=List.any_eq_true.2 ⟨i,List.mem_range.2 hi,h⟩
 simp only[zcy,this,Bool.not_true,Bool.false_and]
theorem znF{p q s t:List Int}{live:Nat}(h:s≠t):zcy p q s t live=false:=by simp[zcy,h]
theorem zwM[HasDecDf G][HasDec G](p q s t:List Int)(live:Nat)(hlv:live<4294967296)(hp:p.length=18)(hq:q.length=18)(hs:s.length≤1000000) :
  FP G 309 [.agg (vcs p s .no),.agg (vcs q t .no),.int .u32 live] (.bool (zcy p q s t live)):=by
 refine zak HasDec.h_decide_same (Nat.le_of_ble_eq_true rfl) ?_
 have lp:=zes (st:=s) (tk:=.no) hp
 have lq:=zes (st:=t) (tk:=.no) hq
 have cp:∀ n,clL n (vcs p s .no)=vcs p s .no:=fun n=>by rw[zaw,vcs]; simp[za7,Function.comp_def,V.cl,Tk.cl]
 have cq:∀ n,clL n (vcs q t .no)=vcs q t .no:=fun n=>by rw[zaw,vcs]; simp[za7,Function.comp_def,V.cl,Tk.cl]
 have np:(vcs p s .no).map V.nf1=vcs p s .no:=by simp[vcs,za7,Function.comp_def,V.nf1]
 have nq:(vcs q t .no).map V.nf1=vcs q t .no:=by simp[vcs,za7,Function.comp_def,V.nf1]
 have sp:=zoi (st:=s) (tk:=.no) hp
 have sq:=zoi (st:=t) (tk:=.no) hq
 obtain⟨P,hP⟩:∃ P,P=vcs p s .no:=⟨_,rfl⟩
 obtain⟨Q,hQ⟩:∃ Q,Q=vcs q t .no:=⟨_,rfl⟩
 simp only[←hP,←hQ] at lp lq cp cq np nq sp sq ⊢
 simp[np,nq]
 refine W_up 18 (fun i=>[(2,.int .u32 live),(3,.ptr 0 0),(4,.ptr 1 0),(10,.int .i64 i)]) (fun _=>[some (.cells P),some (.cells Q)]) (fun i=>∀ j<i,zcO p q live j=false) ?_ ?_
 ·simp[zaa,zad,cp,cq]
 intro i hi hP1
 by_cases hlt:i<18
 ·have hin:=zrF (G:=G) live i hlv (by omega)
  obtain⟨x,hx⟩:∃ x,x=p.getD i 0:=⟨_,rfl⟩
  obtain⟨y,hy⟩:∃ y,y=q.getD i 0:=⟨_,rfl⟩
  have gx:x=p[i]'(by omega):=by rw[hx]; simp[List.getD,List.getElem?_eq_getElem (show i<p.length by omega)]
  have gy:y=q[i]'(by omega):=by rw[hy]; simp[List.getD,List.getElem?_eq_getElem (show i<q.length by omega)]
  have vx:=zfc (p:=p) (st:=s) (tk:=.no) hp hlt
  have vy:=zfc (p:=q) (st:=t) (tk:=.no) hq hlt
  rw[←gx,←hP] at vx
  rw[←gy,←hQ] at vy
  have hnd:zcO p q live i=(zdP live i&&(x !=y)):=by rw[hx,hy]; rfl
  have hP2:zcO p q live i=false→∀ j<i+1,zcO p q live j=false:=fun h0 j hj=>by
   rcases Nat.lt_succ_iff_lt_or_eq.1 hj with h|rfl
   ·exact hP1 j h
   ·exact h0
  simp(disch:=omega)[ltT,hlt]
  refine zab hin ?_
  cases hb:zdP live i with
  | false =>
   rw[hb,Bool.false_and] at hnd
   simp(disch:=omega)[ltT,hlt,zag,zaa,zad,cp,cq,-Int.natCast_add]
   exact hP2 hnd
  | true =>
   rw[hb,Bool.true_and] at hnd
   by_cases hxy:x=y
   ·have hn:zcO p q live i=false:=by rw[hnd,hxy]; simp
    simp(disch:=omega)[ltT,leTn,lp,lq,vx,vy,hxy,hlt,zag,zaa,zad,cp,cq,-Int.natCast_add]
    exact hP2 hn
   ·have hn:zcO p q live i=true:=by rw[hnd]; simp[hxy]
    simp(disch:=omega)[ltT,leTn,lp,lq,vx,vy,bneT hxy,hxy,hlt,ztj hlt hn]
 ·have hne:i=18:=by omega
  subst hne
  simp[lp,lq,sp,sq,zaa]
  by_cases hl:s.length=t.length
  ·simp[hl,lp,lq,sp,sq,zaa]
   refine W_up s.length (fun i=>[(4,.ptr 1 0),(36,.vs (ints .i64 s) .no),(37,.int .i64 s.length),(38,.int .i64 i)]) (fun _=>[some (.cells P),some (.cells Q)]) (fun i=>s.take i=t.take i) ?_ ?_
   ·simp[zaa,zad,cp,cq,hl]
   intro i hi hT
   by_cases hlt:i<s.length
   ·have g1:(ints .i64 s)[i]?=some [.int .i64 s[i]]:=by simp[hlt]
    have g2:(ints .i64 t)[i]?=some [.int .i64 (t[i]'(by omega))]:=by simp[show i<t.length by omega]
    obtain⟨x,hx⟩:∃ x,x=s[i]:=⟨_,rfl⟩
    obtain⟨y,hy⟩:∃ y,y=t[i]'(by omega):=⟨_,rfl⟩
    rw[←hx] at g1
    rw[←hy] at g2
    have hx:=hx.symm
    have hy:=hy.symm
    by_cases hxy:x=y
    ·have hT':s.take (i+1)=t.take (i+1):=by
      rw[List.take_add_one,List.take_add_one,hT,List.getElem?_eq_getElem hlt,List.getElem?_eq_getElem (show i<t.length by omega),hx,hy,hxy]
     simp(disch:=omega)[ltT,hlt,hl,lp,lq,sp,sq,g1,g2,hx,hy,hxy,zag,zaa,zad,cp,cq,hT',show i<t.length by omega,-Int.natCast_add]
    ·have hne:s≠t:=by
      rintro rfl
      exact hxy (hx.symm.trans hy)
     simp(disch:=omega)[ltT,hlt,hl,lp,lq,sp,sq,g1,g2,hx,hy,bneT hxy,hxy,znF hne]
   ·have hne:i=s.length:=by omega
    subst hne
    rw[List.take_length,hl,List.take_length] at hT
    simp[zjX.2 ⟨hP1,hT⟩]
  ·have hne:s≠t:=fun h=>hl (by rw[h])
   have hne':((s.length:Int) !=(t.length:Int))=true:=bneT (by omega)
   simp[hl,hne',znF hne]
end Go.Ev
/- Ranges over functions whose contracts speak of memory. -/
namespace Go.Ev
open Go Go.RowKit
variable {G:Tbl}
mutual
theorem V.cl_cl{n m:Nat}(h:n≤m):∀ v:V,(v.cl m).cl n=v.cl n
 | .ptr id off=>by
  by_cases h1:id<m
  ·simp only[V.cl,if_pos h1]
  ·simp only[V.cl,if_neg h1,if_neg (show¬id<n by omega)]
 | .rs id off k sz=>by
  by_cases h1:id<m
  ·simp only[V.cl,if_pos h1]
  ·simp only[V.cl,if_neg h1,if_neg (show¬id<n by omega)]
 | .mp id=>by
  by_cases h1:id<m
  ·simp only[V.cl,if_pos h1]
  ·simp only[V.cl,if_neg h1,if_neg (show¬id<n by omega)]
 | .yld id=>by
  by_cases h1:id<m
  ·simp only[V.cl,if_pos h1]
  ·simp only[V.cl,if_neg h1,if_neg (show¬id<n by omega)]
 | .vs es tk=>by
  simp only[V.cl]
  cases tk with
  | own q =>
   by_cases h1:q<m
   ·simp only[Tk.cl,if_pos h1]
   ·simp only[Tk.cl,if_neg h1,if_neg (show¬q<n by omega)]
  | no=>rfl
  | full=>rfl
 | .fn f cap=>by simp only[V.cl,zgS h cap]
 | .agg cs=>by simp only[V.cl,zgS h cs]
 | .tup cs=>by simp only[V.cl,zgS h cs]
 | .undef=>rfl
 | .skp=>rfl
 | .any=>rfl
 | .int _ _=>rfl
 | .bool _=>rfl
 | .str _=>rfl
 | .nilp=>rfl
 | .cptr _=>rfl
 | .nilf=>rfl
 | .nilm=>rfl
theorem zgS{n m:Nat}(h:n≤m):∀ cs:List V,clL n (clL m cs)=clL n cs
 | []=>rfl
 | c::cs=>by simp only[clL,V.cl_cl h c,zgS h cs]
end
theorem Blk.cl_cl{n m:Nat}(h:n≤m)(b:Blk):(b.cl m).cl n=b.cl n:=by
 cases b with
 | cells cs=>simp only[Blk.cl,zgS h]
 | zone k=>rfl
 | froz cs=>simp only[Blk.cl,zgS h]
 | map es=>simp only[Blk.cl,List.map_map]; congr 1; exact List.map_congr_left fun p _=>by simp only[Function.comp,V.cl_cl h]
 | siter s pos=>rfl
 | loop e0 ps as bo st=>simp only[Blk.cl,List.map_map]; congr 1; exact List.map_congr_left fun p _=>by simp only[Function.comp,V.cl_cl h]
theorem zp1{n m:Nat}(h:n≤m)(H:Heap):zad n (zad m H)=zad n H:=by
 unfold zad
 rw[←List.map_take,List.map_map,List.take_take,Nat.min_eq_left h]
 exact List.map_congr_left fun b _=>by cases b with
  | none=>rfl
  | some b=>simp only[Function.comp,Option.map_some,Blk.cl_cl h]
theorem znS{H1:Heap}{n k:Nat}{e0:List (Nat×V)}{ps:List Nat}{as bo:SCode}{st:LSt}(h:(zad n H1)[k]?=some (some (.loop e0 ps as bo st))):∃ e1,H1[k]?=some (some (.loop e1 ps as bo st)):=by
 unfold zad at h
 rw[List.getElem?_map] at h
 by_cases hk:k<n
 ·rw[List.getElem?_take_of_lt hk] at h
  cases hg:H1[k]? with
  | none=>rw[hg] at h; cases h
  | some b =>
   rw[hg] at h
   cases b with
   | none=>simp at h
   | some b =>
    cases b<;>simp[Blk.cl] at h
    obtain⟨_,rfl,rfl,rfl,rfl⟩:=h
    exact⟨_,rfl⟩
 ·rw[List.getElem?_take_eq_none (by omega)] at h; cases h
theorem ze8{f:Nat}{cap:List V}{l ps:List Nat}{as bo:SCode}{r:V}{H H2:Heap}{e0:List (Nat×V)}{ps':List Nat}{as' bo':SCode}{st:LSt}{x:Ex}{K:List Kt}{e:Env}{Q:Ex→Env→Heap→Prop}
  (h:SF G f (.yld H.length::cap) (H++[some (.loop (look e l) ps as bo .ready)]) r H2)
  (hb:H2[H.length]?=some (some (.loop e0 ps' as' bo' st))) (hst:st=.ready∧x=.nx∨st=.done x∧x≠.nx) (hr:Wr G x K e (zad H.length H2) Q):zoL G (.fn f cap) l ps as bo K e H Q:=by
 obtain⟨r1,H1,hbig,_,ht⟩:=h
 rw[←ht] at hb
 obtain⟨e1,he1⟩:=znS hb
 refine zsq hbig he1 hst ?_
 rw[←ht,zp1 (by simp)] at hr
 exact hr
end Go.Ev
/- One try of decide.Decide. -/
namespace Go.Ev
open Go Go.RowKit
variable {G:Tbl}
def ansC(c:Int):Option (List Nat)→List V
 | some r=>.int .i64 c::((stO r).cs++(ofW (r.drop 18)).cs)
 | none=>.int .i64 c::(zac .u32 (zae 20)++zac .u64 (zae 7))
def zbZ:SCode:=.region 1 [⟨some 13,.alloc 0 (zac .u32 (zae 34)),none⟩,⟨none,.store 34 (.t 13) (.t 46),none⟩]
def zb0:SCode:=.block 1 (.seq (.region 2 [⟨some 48,.load 34 true false (.t 13),none⟩,⟨some 49,.pcall 294 [.t 48],none⟩,⟨some 47,.mv (.t 49),none⟩,⟨some 50,.ext 0 (.t 47),none⟩,⟨some 51,.ext 1 (.t 47),none⟩,⟨some 14,.alloc 0 (zac .u32 (zae 18)),none⟩,
 ⟨some 15,.alloc 1 [.int .u32 0,.int .u32 0,.int .u64 0,.int .u64 0,.int .u64 0,.int .u64 0,.int .u64 0,.int .u64 0,.int .u64 0],none⟩,⟨none,.store 18 (.t 14) (.t 50),none⟩,⟨none,.store 9 (.t 15) (.t 51),none⟩])
 (.seq (.keep [3,4,5,6,7,14,15]) (.seq (.region 0 [⟨some 52,.load 1 false false (.t 3),none⟩,⟨some 53,.load 1 false false (.t 4),none⟩,⟨some 54,.load 1 false false (.t 5),none⟩,⟨some 55,.load 18 true false (.t 14),none⟩,⟨some 56,.load 9 true false (.t 15),none⟩,
  ⟨some 57,.pcall 308 [.t 52,.t 53,.t 54,.t 55,.t 56],none⟩]) (.seq (.keep [6,7,14,15,57]) (.cond (.t 57) (.seq (.region 0 [⟨some 58,.load 18 true false (.t 14),none⟩,⟨some 59,.load 9 true false (.t 15),none⟩,
   ⟨some 60,.build (ansC 0 none) [(0,1,.c (.int .i64 1)),(1,18,.t 58),(19,9,.t 59)],none⟩,⟨none,.store 28 (.t 6) (.t 60),none⟩,⟨none,.store 1 (.t 7) (.c (.int .i64 0)),none⟩]) .ret) .skip)))))
def tryE:List (Nat×V):=[(3,.ptr 0 0),(4,.ptr 1 0),(5,.ptr 2 0),(6,.ptr 3 0),(7,.ptr 4 0)]
structure TryH (N:Heap) (v w:List In4) (live:Nat):Prop where
 b0:N[0]?=some (some (.cells [.vs (IL v) .no]))
 b1:N[1]?=some (some (.cells [.vs (IL w) .no]))
 b2:N[2]?=some (some (.cells [.int .u32 live]))
 b3:N[3]?=some (some (.cells (ansC 0 none)))
 b4:N[4]?=some (some (.cells [.int .i64 0]))
 lo:N[14]?=some (some (.loop tryE [46] zbZ zb0 .ready))
 shut:za1 N
theorem TryH.app{N:Heap}{v w:List In4}{live:Nat}(h:TryH N v w live){X:Heap}(hX:∀ n,X.map (Option.map (Blk.cl n))=X):TryH (N++X) v w live:=by
 have lt:=(List.getElem?_eq_some_iff.1 h.lo).1
 refine⟨?_,?_,?_,?_,?_,?_,h.shut.app hX⟩
 all_goals rw[List.getElem?_append_left (by omega)]
 ·exact h.b0
 ·exact h.b1
 ·exact h.b2
 ·exact h.b3
 ·exact h.b4
 ·exact h.lo
def hitH(N:Heap)(r:List Nat):Heap:=((N.set 3 (some (.cells (ansC 1 (some r))))).set 4 (some (.cells [.int .i64 0]))).set 14 (some (.loop tryE [46] zbZ zb0 (.done .ret)))
theorem zu8{N X:Heap}{r:List Nat}(h:14<N.length):hitH (N++X) r=hitH N r++X:=by
 unfold hitH
 rw[List.set_append_left _ _ (by omega),List.set_append_left _ _ (by simp; omega),List.set_append_left _ _ (by simp; omega)]
theorem zjY{N:Heap}(h:za1 N)(hl:14<N.length)(r:List Nat):za1 (hitH N r):=by
 intro m hm
 have hm':N.length≤m:=by simpa[hitH] using hm
 have ha:clL m (ansC 1 (some r))=ansC 1 (some r):=by simp[ansC,zaw,V.cl,St.cs,Da.cs,zac,Function.comp_def]
 unfold hitH
 rw[List.map_set,List.map_set,List.map_set,h m hm']
 have hle:(Blk.loop tryE [46] zbZ zb0 (.done .ret)).cl m=.loop tryE [46] zbZ zb0 (.done .ret):=by
  simp[Blk.cl,tryE,V.cl,show 0<m by omega,show 1<m by omega,show 2<m by omega,show 3<m by omega,show 4<m by omega]
 have hla:(Blk.cells (ansC 1 (some r))).cl m=.cells (ansC 1 (some r)):=by rw[Blk.cl,ha]
 have hl4:(Blk.cells [V.int .i64 0]).cl m=.cells [.int .i64 0]:=by simp[Blk.cl,clL,V.cl]
 simp only[Option.map_some,hle,hla,hl4]
theorem ztk[HasWd G][HasNeg G][HasIns G][HasCheck G][HasData G][HasWith G][HasStep G][HasWRight G][HasWinRun G][HasWinAsg G][HasWinState G][HasDecDf G]
  {N:Heap} {v w:List In4} {live:Nat} (h:TryH N v w live) (hf:v.length≤maxLen) (hg:w.length≤maxLen) (hk:∀ x∈v,x.k<4294967296) (hkw:∀ x∈w,x.k<4294967296) (hlv:live<4294967296)
  (hv:winB v=true) (hw:winB w=true) {r:List Nat} (hr:r.length=34) (hr':∀ x∈r,x<4294967296) {t:Bool} (ht:zcu v w live (stO r) (ofW (r.drop 18))=t) :
  YS G 14 [.agg (zac .u32 r)] N (!t) (if t=true then hitH N r else N):=by
 have lt:=(List.getElem?_eq_some_iff.1 h.lo).1
 obtain⟨b,H',hy,rfl,rfl⟩:=zvw (R:=fun b H'=>b=(!t)∧H'=if t=true then hitH N r else N) (G:=G) (args:=[.agg (zac .u32 r)]) h.lo rfl (by
  have rt:=zah (k:=.u32) hr
  have rd:(zac .u32 r).drop 34=[]:=List.drop_eq_nil_of_le (by simp[hr])
  have kk:∀ r:Heap,(N++r)[N.length]?=r[0]?:=fun r=>apn0 rfl
  have k0:∀(r:Heap) x,(N++r).set N.length x=N++r.set 0 x:=fun r x=>zbS rfl x
  have l14:∀ r:Heap,(N++r)[14]?=some (some (.loop tryE [46] zbZ zb0 .ready)):=fun r=>by rw[List.getElem?_append_left lt]; exact h.lo
  simp[zbZ,tryE,putP,kk,k0,hr,rt,rd]
  refine⟨_,_,_,_,l14 _,?_⟩
  obtain⟨B,hB⟩:∃ B,B=N.set 14 (some (.loop tryE [46] zbZ zb0 .busy)):=⟨_,rfl⟩
  have nB:B.length=N.length:=by rw[hB]; simp
  rw[List.set_append_left _ _ lt,←hB]
  have bk0:∀ r:Heap,(B++r)[N.length]?=r[0]?:=fun r=>apn0 nB
  have bk1:∀ r:Heap,(B++r)[N.length+1]?=r[1]?:=fun r=>apnk nB 1
  have bk2:∀ r:Heap,(B++r)[N.length+2]?=r[2]?:=fun r=>apnk nB 2
  have bs1:∀(r:Heap) x,(B++r).set (N.length+1) x=B++r.set 1 x:=fun r x=>zcD nB 1 x
  have bs2:∀(r:Heap) x,(B++r).set (N.length+2) x=B++r.set 2 x:=fun r x=>zcD nB 2 x
  have bk2':∀ r:Heap,(B++r)[N.length+1+1]?=r[2]?:=bk2
  have bs2':∀(r:Heap) x,(B++r).set (N.length+1+1) x=B++r.set 2 x:=bs2
  have g2:∀(a b c:Option Blk) (r:Heap) h,(B++a::b::c::r)[N.length+1+1]'h=c:=fun a b c r h=>(List.getElem?_eq_some_iff.1 (bk2 (a::b::c::r))).2
  have look:∀{p:Nat} {c:List V},N[p]?=some (some (.cells c))→p≠14→∀ r:Heap,(B++r)[p]?=some (some (.cells c)):=fun{p c} hp hne r=>by
   rw[List.getElem?_append_left (by rw[nB]; exact(List.getElem?_eq_some_iff.1 hp).1),hB,List.getElem?_set_ne (Ne.symm hne)]; exact hp
  have q0:=look h.b0 (by decide)
  have q1:=look h.b1 (by decide)
  have q2:=look h.b2 (by decide)
  have q3:=look h.b3 (by decide)
  have q0':∀(r:Heap) h,(B++r)[0]'h=some (.cells [.vs (IL v) .no]):=fun r h=>(List.getElem?_eq_some_iff.1 (q0 r)).2
  have q1':∀(r:Heap) h,(B++r)[1]'h=some (.cells [.vs (IL w) .no]):=fun r h=>(List.getElem?_eq_some_iff.1 (q1 r)).2
  have q2':∀(r:Heap) h,(B++r)[2]'h=some (.cells [.int .u32 live]):=fun r h=>(List.getElem?_eq_some_iff.1 (q2 r)).2
  have q3':∀(r:Heap) h,(B++r)[3]'h=some (.cells (ansC 0 none)):=fun r h=>(List.getElem?_eq_some_iff.1 (q3 r)).2
  have hso:=zo9 hr hr'
  have hdo:=zjL (w:=r.drop 18) (by simp[hr]) (fun x hx=>hr' x (List.mem_of_mem_drop hx))
  have hst:=zpZ (G:=G) r hr hr'
  have hdi:=zrG (G:=G) v w live (stO r) (ofW (r.drop 18)) hf hg hk hkw hlv hso hdo
  rw[hv,hw,ht] at hdi
  have sl:=zih hso
  have dl:=zii hdo
  have hans:ansC 1 (some r)=.int .i64 1::((stO r).cs++(ofW (r.drop 18)).cs):=rfl
  obtain⟨S,hS⟩:∃ S,S=(stO r).cs:=⟨_,rfl⟩
  obtain⟨D,hD⟩:∃ D,D=(ofW (r.drop 18)).cs:=⟨_,rfl⟩
  have Sk:∀ n,clL n S=S:=fun n=>by rw[hS]; exact cs_cl _ n
  have Dk:∀ n,clL n D=D:=fun n=>by rw[hD]; exact zdD _ n
  have Sn:S.map V.nf1=S:=by rw[hS]; exact ziS _
  have Dn:D.map V.nf1=D:=by rw[hD]; exact zf8 _
  simp only[FL,SV,DV,Bool.true_and] at hst hdi
  rw[←hS,←hD] at hst hdi hans
  rw[←hS] at sl
  rw[←hD] at dl
  have St:=List.take_of_length_le (i:=18) (l:=S) (by omega)
  have Dt:=List.take_of_length_le (i:=9) (l:=D) (by omega)
  have Sd:S.drop 18=[]:=List.drop_eq_nil_of_le (by omega)
  have Dd:D.drop 9=[]:=List.drop_eq_nil_of_le (by omega)
  obtain⟨A0,hA0⟩:∃ A0,A0=ansC 0 none:=⟨_,rfl⟩
  have lA0:A0.length=28:=by rw[hA0]; rfl
  simp only[←hA0] at q3 q3'
  simp[zb0,nB,bk0,bk1,bk2,bs1,bs2,hr,rt,rd,←hA0]
  refine zab hst ?_
  simp[nB,bk0,bk1,bk2,bs1,bs2,sl,dl,St,Dt,Sd,Dd,Sk,Dk,Sn,Dn,q0,q1,q2,q3,q0',q1',q2',q3',zaa]
  simp[nB,bk0,bk1,bk2,bk2',g2,bs1,bs2,bs2',sl,dl,St,Dt,Sd,Dd,Sk,Dk,Sn,Dn,q0,q1,q2,q3,q0',q1',q2',q3',zaa]
  refine zab hdi ?_
  have B14:∀ r:Heap,(B++r)[14]?=some (some (.loop tryE [46] zbZ zb0 .busy)):=fun r=>by
   rw[List.getElem?_append_left (by omega),hB,List.getElem?_set_self (by omega)]
  cases t with
  | false =>
   have fin0:∀ r:Heap,zad N.length ((B++r).set 14 (some (.loop tryE [46] zbZ zb0 .ready)))=N:=fun r=>by
    rw[List.set_append_left _ _ (by omega),hB,List.set_set,zen h.lo]
    exact h.shut.back r
   simp
   exact⟨_,_,_,_,B14 _,fin0 _⟩
  | true =>
   simp[nB,bk0,bk1,bk2,bk2',g2,bs1,bs2,bs2',sl,dl,St,Dt,Sd,Dd,Sk,Dk,Sn,Dn,q0,q1,q2,q3,q0',q1',q2',q3',zaa]
   have dr:(S++A0.drop 19).drop 27=[]:=List.drop_eq_nil_of_le (by simp; omega)
   have ln:(V.int .i64 1::(S++D)).length=28:=by simp; omega
   have tn:(S++D).take 27=S++D:=List.take_of_length_le (by simp; omega)
   have dn:A0.drop 28=[]:=List.drop_eq_nil_of_le (by omega)
   have q4:=look h.b4 (by decide)
   have ts3:∀(r:Heap) x,(B++r).set 3 x=B.set 3 x++r:=fun r x=>List.set_append_left _ _ (by omega)
   have ts4:∀(r:Heap) y x,(B.set 3 y++r).set 4 x=(B.set 3 y).set 4 x++r:=fun r y x=>List.set_append_left _ _ (by simp; omega)
   have tg4':∀(r:Heap) y,(B.set 3 y++r)[4]?=some (some (.cells [.int .i64 0])):=fun r y=>by
    have:=q4 []
    rw[List.getElem?_append_left (by simp; omega),List.getElem?_set_ne (by decide)]
    simpa using this
   have tg4'':∀(r:Heap) y h,(B.set 3 y++r)[4]'h=some (.cells [.int .i64 0]):=fun r y h=>(List.getElem?_eq_some_iff.1 (tg4' r y)).2
   simp[lA0,dr,dn,tn,nB,sl,dl,q3,q3',ts3,ts4,tg4',tg4'',St,Sd,Dt,Dd]
   refine⟨tryE,[46],zbZ,zb0,?_,?_⟩
   ·have:=B14 []
    rw[List.append_nil] at this
    rw[List.getElem?_append_left (by simp; omega),List.getElem?_set_ne (by decide),List.getElem?_set_ne (by decide)]
    exact this
   ·have he:((B.set 3 (some (Blk.cells (V.int IntKind.i64 1::(S++D))))).set 4 (some (Blk.cells [V.int IntKind.i64 0]))).set 14 (some (.loop tryE [46] zbZ zb0 (.done .ret)))=hitH N r:=by
     rw[hB,←hans,List.set_comm _ _ (show(14:Nat)≠3 by decide),List.set_comm _ _ (show(14:Nat)≠4 by decide),List.set_set]
     rfl
    rw[List.set_append_left _ _ (by simp; omega),he]
    have:=(zjY h.shut lt r).back [some (Blk.cells (zac .u32 r)),some (Blk.cells S),some (Blk.cells D)]
    rwa[show(hitH N r).length=N.length by simp[hitH]] at this)
 exact hy
end Go.Ev
/- decide.Decide. -/
namespace Go.Ev
open Go Go.RowKit
variable {G:Tbl}
noncomputable def decR(v w:List In4)(live:Nat):Int×Option (List Nat) :=
 if(winB v&&winB w)=true then
  if zcy (winV [] v).p (winV (winV [] v).L w).p (winV [] v).st (winV (winV [] v).L w).st live=true then(0,none)
  else match(zbs (winV (winV [] v).L w).L (winV [] v).p (winV (winV [] v).L w).p live).find? fun r=>zcu v w live (stO r) (ofW (r.drop 18)) with
   | some r=>(1,some r)
   | none=>(2,none)
 else(0,none)
def zn7(a b c d e:List V):Heap:=[some (.cells a),some (.cells b),some (.cells c),some (.cells d),some (.cells e),some (.map []),some (.cells [.vs [] (.own 7),.mp 5]),some (.zone 0)]
theorem zu9{a b c d e:List V}(ha:∀ n,clL n a=a)(hb:∀ n,clL n b=b)(hc:∀ n,clL n c=c)(hd:∀ n,clL n d=d)(he:∀ n,clL n e=e):Bk (zn7 a b c d e) 6 7 5 []:=by
 refine⟨rfl,rfl,rfl,fun n hn=>?_,fun a h=>(by cases h),by decide⟩
 simp only[zn7,List.length_cons,List.length_nil] at hn
 simp[zn7,Blk.cl,ha,hb,hc,hd,he,clL,V.cl,Tk.cl,show 7<n by omega,show 5<n by omega]
theorem zwN[HasSymNew G](a b c d e:List V):Big G (.F 256 [] [some (.cells a),some (.cells b),some (.cells c),some (.cells d),some (.cells e)] (.ptr 6 0) [some (.cells a),some (.cells b),some (.cells c),some (.cells d),some (.cells e),some (.map []),some (.cells [.vs [] .full,.mp 5])]):=by
 refine F_of HasSymNew.h_sym_New (Nat.le_of_ble_eq_true rfl) ?_
 simp
section
variable {H:Heap} {b z m:Nat} {L:List Nd}
noncomputable def ofC(L:List Nd)(w:List In4):List V:=if winB w=true then vcs (winV L w).p (winV L w).st .no else vcs (List.replicate 18 0) [] .full
noncomputable def ofL(L:List Nd)(w:List In4):List Nd:=if winB w=true then(winV L w).L else L
theorem zpr[HasWd G][HasNeg G][HasIns G][HasCheck G][HasWRight G][HasAffine G][HasBits G][HasSym G][HasWinOf G](w:List In4)(h:Bk H b z m L)(hi:Inv L)(hs:L.length≤800000)(hf:w.length≤maxLen)(hk:∀ x∈w,x.k<4294967296) :
  SF G 296 [.ptr b 0,FL w] H (.tup [.agg (ofC L w),.bool (winB w)]) (upd H b z m (ofL L w)):=by
 cases hw:winB w with
 | true =>
  have:=zyg (G:=G) w h hi hs hf hk hw
  simpa only[ofC,ofL,hw,if_true] using this
 | false =>
  have:=zyf (G:=G) w h hf hk hw
  simpa only[ofC,ofL,hw,Bool.false_eq_true,if_false,h.upd_self] using this
theorem zmM(hi:Inv L){w:List In4}(hk:∀ x∈w,x.k<4294967296):(ofC L w).length=19:=by
 unfold ofC
 split
 ·exact zes (zcI hi w hk).len
 ·rfl
theorem zps(w:List In4)(n:Nat):clL n (ofC L w)=ofC L w:=by
 unfold ofC
 split<;>(rw[zaw,vcs]; simp[za7,Function.comp_def,V.cl,Tk.cl])
theorem zqS(hi:Inv L){w:List In4}(hk:∀ x∈w,x.k<4294967296):Inv (ofL L w):=by
 unfold ofL
 split
 ·exact(zcI hi w hk).ext.inv
 ·exact hi
theorem zqT(hi:Inv L){w:List In4}(hk:∀ x∈w,x.k<4294967296):(ofL L w).length≤L.length+114:=by
 unfold ofL
 split
 ·rename_i hw
  have hw32:w.length≤32:=by simp only[winB,Bool.and_eq_true,decide_eq_true_eq] at hw; exact hw.1
  have:=(zcI hi w hk).ext.len
  omega
 ·omega
end
theorem zlj(c:Int):(ansC c none).length=28:=rfl
theorem zkt(c:Int)(o:Option (List Nat))(n:Nat):clL n (ansC c o)=ansC c o:=by cases o<;>simp[ansC,zaw,V.cl,St.cs,Da.cs,zac,Function.comp_def]
theorem zqU(c:Int)(o:Option (List Nat)):(ansC c o).map V.nf1=ansC c o:=by cases o<;>simp[ansC,V.nf1,St.cs,Da.cs,zac,Function.comp_def]
theorem ztl(c:Int):(ansC c none).take 28=ansC c none:=List.take_of_length_le (by rw[zlj]; exact Nat.le_refl _)
theorem ztm(c:Int):(ansC c none).drop 28=[]:=List.drop_eq_nil_of_le (by rw[zlj]; exact Nat.le_refl _)
theorem zwO[HasDec G](H:Heap)(b live:Nat)(X1 X2:List V)(k1:∀ n,clL n X1=X1)(k2:∀ n,clL n X2=X2)(m1:X1.map V.nf1=X1)(m2:X2.map V.nf1=X2) :
  Big G (.F 311 [.ptr b 0,.agg X1,.agg X2,.int .u32 live] H (.fn 310 [.ptr (H.length+3) 0,.ptr H.length 0,.ptr (H.length+1) 0,.ptr (H.length+2) 0])
   (H++[some (.cells [.ptr b 0]),some (.cells X1),some (.cells X2),some (.cells [.int .u32 live])])):=by
 refine F_of HasDec.h_decide_tries (Nat.le_of_ble_eq_true rfl) ?_
 simp[m1,m2,ap0,apk,set0,setk]
theorem znG[HasWd G][HasNeg G][HasIns G][HasCheck G][HasData G][HasWith G][HasStep G][HasWRight G][HasWinRun G][HasWinAsg G][HasWinState G][HasWinOf G][HasAffApart G][HasAffine G][hBA:HasBitsA G][HasSymNew G][HasSym G][HasSymApart G][HasDecDf G][HasDec G]
  (v w:List In4) (live:Nat) (hf:v.length≤maxLen) (hg:w.length≤maxLen) (hk:∀ x∈v,x.k<4294967296) (hkw:∀ x∈w,x.k<4294967296) (hlv:live<4294967296) :
  FP G 312 [FL v,FL w,.int .u32 live] (.tup [.agg (ansC (decR v w live).1 (decR v w live).2),.int .i64 (if(winB v&&winB w)=true then 0 else 1)]):=by
 haveI:HasBits G:=hBA.toHasBits
 refine zak HasDec.h_decide_Decide (Nat.le_of_ble_eq_true rfl) ?_
 obtain⟨Z,hZ⟩:∃ Z:List V,Z=vcs (List.replicate 18 0) [] .full:=⟨_,rfl⟩
 have lZ:Z.length=19:=by rw[hZ]; rfl
 have drop19:Z.drop 19=[]:=List.drop_eq_nil_of_le (by omega)
 have hZz:[V.int .i64 0,.int .i64 0,.int .i64 0,.int .i64 0,.int .i64 0,.int .i64 0,.int .i64 0,.int .i64 0,.int .i64 0,.int .i64 0,.int .i64 0,.int .i64 0,.int .i64 0,.int .i64 0,.int .i64 0,.int .i64 0,.int .i64 0,.int .i64 0,.vs [] .full]=Z:=by rw[hZ]; rfl
 obtain⟨A0,hA0⟩:∃ A0:List V,A0=ansC 0 none:=⟨_,rfl⟩
 have hA0z:V.int .i64 0::(zac .u32 (zae 20)++zac .u64 (zae 7))=A0:=by rw[hA0]; rfl
 have lA0:A0.length=28:=by rw[hA0]; rfl
 have kA0:∀ n,clL n A0=A0:=fun n=>by rw[hA0]; simp[ansC,zaw,V.cl,zac,Function.comp_def]
 have hB:=zu9 (a:=[.vs (IL v) .no]) (b:=[.vs (IL w) .no]) (c:=[.int .u32 live]) (d:=A0) (e:=[.int .i64 0]) (fun n=>by simp[clL,V.cl,Tk.cl]) (fun n=>by simp[clL,V.cl,Tk.cl]) (fun n=>by simp[clL,V.cl]) kA0 (fun n=>by simp[clL,V.cl])
 obtain⟨H0,hH0⟩:∃ H0,H0=zn7 [.vs (IL v) .no] [.vs (IL w) .no] [.int .u32 live] A0 [.int .i64 0]:=⟨_,rfl⟩
 rw[←hH0] at hB
 have n0:H0.length=8:=by rw[hH0]; rfl
 have t0:∀ r,zad 8 (H0++r)=H0:=fun r=>by have:=hB.shut.back r; rwa[n0] at this
 have a8:∀ r:Heap,(H0++r)[8]?=r[0]?:=fun r=>apn0 n0
 have a9:∀ r:Heap,(H0++r)[9]?=r[1]?:=fun r=>apnk n0 1
 have b8:∀(r:Heap) x,(H0++r).set 8 x=H0++r.set 0 x:=fun r x=>zbS n0 x
 have b9:∀(r:Heap) x,(H0++r).set 9 x=H0++r.set 1 x:=fun r x=>zcD n0 1 x
 have o0:∀ r:Heap,(H0++r)[0]?=some (some (.cells [.vs (IL v) .no])):=fun r=>by rw[hH0]; rfl
 have o1:∀ r:Heap,(H0++r)[1]?=some (some (.cells [.vs (IL w) .no])):=fun r=>by rw[hH0]; rfl
 have o3:∀ r:Heap,(H0++r)[3]?=some (some (.cells A0)):=fun r=>by rw[hH0]; rfl
 have o4:∀ r:Heap,(H0++r)[4]?=some (some (.cells [.int .i64 0])):=fun r=>by rw[hH0]; rfl
 have hBn:Bk (H0++[none]) 6 7 5 []:=hB.app fun n=>by simp
 simp[FL,hA0z]
 refine zfK (zwN [.vs (IL v) .no] [.vs (IL w) .no] [.int .u32 live] A0 [.int .i64 0]) (by simp) ?_
 simp
 rw[show([some (.cells [.vs (IL v) .no]),some (.cells [.vs (IL w) .no]),some (.cells [.int .u32 live]),some (.cells A0),some (.cells [.int .i64 0]),some (.map []),some (.cells [.vs [] (.own 7),.mp 5]),some (.zone 0),none]:Heap)=H0++[none] from by rw[hH0]; rfl]
 obtain⟨L1,hL1⟩:∃ L1,L1=ofL [] v:=⟨_,rfl⟩
 obtain⟨X1,hX1⟩:∃ X1,X1=ofC [] v:=⟨_,rfl⟩
 have i1:Inv L1:=by rw[hL1]; exact zqS Inv.nil hk
 have z1:L1.length≤114:=by rw[hL1]; simpa using zqT Inv.nil hk
 have x1:X1.length=19:=by rw[hX1]; exact zmM Inv.nil hk
 have c1:∀ n,clL n X1=X1:=fun n=>by rw[hX1]; exact zps v n
 have hof:=zpr (G:=G) v hBn Inv.nil (by decide) hf hk
 rw[←hL1,←hX1,hB.upd_app] at hof
 obtain⟨U,hU⟩:∃ U,U=upd H0 6 7 5 L1:=⟨_,rfl⟩
 have hUB:Bk U 6 7 5 L1:=by rw[hU]; exact hB.to i1 (by omega)
 rw[←hU] at hof
 have nU:U.length=8:=by rw[hU,zba,n0]
 have keepU:∀{p:Nat} {c:List V},(H0++[])[p]?=some (some (.cells c))→p≠6→U[p]?=some (some (.cells c)):=fun{p c} hp hne=>by
  rw[hU]; exact znv hB (by simpa using hp) hne
 obtain⟨L2,hL2⟩:∃ L2,L2=ofL L1 w:=⟨_,rfl⟩
 obtain⟨X2,hX2⟩:∃ X2,X2=ofC L1 w:=⟨_,rfl⟩
 have i2:Inv L2:=by rw[hL2]; exact zqS i1 hkw
 have z2:L2.length≤228:=by rw[hL2]; have:=zqT i1 hkw; omega
 have x2:X2.length=19:=by rw[hX2]; exact zmM i1 hkw
 have c2:∀ n,clL n X2=X2:=fun n=>by rw[hX2]; exact zps w n
 have hUX:Bk (U++[some (.cells X1),none]) 6 7 5 L1:=hUB.app fun n=>by simp[Blk.cl,c1]
 have hof2:=zpr (G:=G) w hUX i1 (by omega) hg hkw
 rw[←hL2,←hX2,hUB.upd_app] at hof2
 obtain⟨T,hT⟩:∃ T,T=upd U 6 7 5 L2:=⟨_,rfl⟩
 have hTB:Bk T 6 7 5 L2:=by rw[hT]; exact hUB.to i2 (by omega)
 rw[←hT] at hof2
 have nT:T.length=8:=by rw[hT,zba,nU]
 have keepT:∀{p:Nat} {c:List V},(H0++[])[p]?=some (some (.cells c))→p≠6→T[p]?=some (some (.cells c)):=fun{p c} hp hne=>by
  rw[hT]; exact znv hUB (keepU hp hne) hne
 have apl:∀{A:Heap} {p:Nat} {c:List V},A[p]?=some (some (.cells c))→∀ r:Heap,(A++r)[p]?=some (some (.cells c)):=fun{A p c} hp r=>by
  rw[List.getElem?_append_left (List.getElem?_eq_some_iff.1 hp).1]; exact hp
 have u1:=apl (keepU (o1 []) (by decide))
 have u1':∀(r:Heap) h,(U++r)[1]'h=some (.cells [.vs (IL w) .no]):=fun r h=>(List.getElem?_eq_some_iff.1 (u1 r)).2
 have q0:=apl (keepT (o0 []) (by decide))
 have q1:=apl (keepT (o1 []) (by decide))
 have q2:=apl (keepT (c:=[.int .u32 live]) (p:=2) (by rw[hH0]; rfl) (by decide))
 have q3:=apl (keepT (o3 []) (by decide))
 have q4:=apl (keepT (o4 []) (by decide))
 have q0':∀(r:Heap) h,(T++r)[0]'h=some (.cells [.vs (IL v) .no]):=fun r h=>(List.getElem?_eq_some_iff.1 (q0 r)).2
 have q1':∀(r:Heap) h,(T++r)[1]'h=some (.cells [.vs (IL w) .no]):=fun r h=>(List.getElem?_eq_some_iff.1 (q1 r)).2
 have q2':∀(r:Heap) h,(T++r)[2]'h=some (.cells [.int .u32 live]):=fun r h=>(List.getElem?_eq_some_iff.1 (q2 r)).2
 have q3':∀(r:Heap) h,(T++r)[3]'h=some (.cells A0):=fun r h=>(List.getElem?_eq_some_iff.1 (q3 r)).2
 have q4':∀(r:Heap) h,(T++r)[4]'h=some (.cells [.int .i64 0]):=fun r h=>(List.getElem?_eq_some_iff.1 (q4 r)).2
 have ua8:∀ r:Heap,(U++r)[8]?=r[0]?:=fun r=>apn0 nU
 have ua9:∀ r:Heap,(U++r)[9]?=r[1]?:=fun r=>apnk nU 1
 have ub8:∀(r:Heap) x,(U++r).set 8 x=U++r.set 0 x:=fun r x=>zbS nU x
 have ub9:∀(r:Heap) x,(U++r).set 9 x=U++r.set 1 x:=fun r x=>zcD nU 1 x
 have ta8:∀ r:Heap,(T++r)[8]?=r[0]?:=fun r=>apn0 nT
 have ta9:∀ r:Heap,(T++r)[9]?=r[1]?:=fun r=>apnk nT 1
 have tb8:∀(r:Heap) x,(T++r).set 8 x=T++r.set 0 x:=fun r x=>zbS nT x
 have tb9:∀(r:Heap) x,(T++r).set 9 x=T++r.set 1 x:=fun r x=>zcD nT 1 x
 have d1:X1.drop 19=[]:=List.drop_eq_nil_of_le (by omega)
 have d2:X2.drop 19=[]:=List.drop_eq_nil_of_le (by omega)
 have e1:X1.take 19=X1:=List.take_of_length_le (by omega)
 have e2:X2.take 19=X2:=List.take_of_length_le (by omega)
 simp only[FL] at hof hof2
 refine zai hof ?_
 simp[nU,ua8,ub8,hZz,lZ,drop19,x1,d1,e1,u1,u1']
 refine zai hof2 ?_
 simp[nT,ta8,ta9,tb8,tb9,hZz,lZ,drop19,x1,d1,e1,x2,d2,e2,zaa]
 have hlt:∀ p,p<8→p<T.length:=fun p hp=>by omega
 have ts3:∀(r:Heap) x,(T++r).set 3 x=T.set 3 x++r:=fun r x=>List.set_append_left _ _ (by omega)
 have ts4:∀(r:Heap) y x,(T.set 3 y++r).set 4 x=(T.set 3 y).set 4 x++r:=fun r y x=>List.set_append_left _ _ (by simp; omega)
 have tg3:∀(r:Heap) y x,((T.set 3 y).set 4 x++r)[3]?=some y:=fun r y x=>by
  rw[List.getElem?_append_left (by simp; omega),List.getElem?_set_ne (by decide),List.getElem?_set_self (by omega)]
 have tg4:∀(r:Heap) y x,((T.set 3 y).set 4 x++r)[4]?=some x:=fun r y x=>by
  rw[List.getElem?_append_left (by simp; omega),List.getElem?_set_self (by simp; omega)]
 have tg4':∀(r:Heap) y,(T.set 3 y++r)[4]?=some (some (.cells [.int .i64 0])):=fun r y=>by
  have:=q4 []
  rw[List.getElem?_append_left (by simp; omega),List.getElem?_set_ne (by decide)]
  simpa using this
 have tg4'':∀(r:Heap) y h,(T.set 3 y++r)[4]'h=some (.cells [.int .i64 0]):=fun r y h=>(List.getElem?_eq_some_iff.1 (tg4' r y)).2
 have tg3n:∀(r:Heap) y x h,((T.set 3 y).set 4 x++r)[3]'h=y:=fun r y x h=>(List.getElem?_eq_some_iff.1 (tg3 r y x)).2
 have tg4n:∀(r:Heap) y x h,((T.set 3 y).set 4 x++r)[4]'h=x:=fun r y x h=>(List.getElem?_eq_some_iff.1 (tg4 r y x)).2
 have A28:A0.take 28=A0:=List.take_of_length_le (by omega)
 have D28:A0.drop 28=[]:=List.drop_eq_nil_of_le (by omega)
 have nA0:A0.map V.nf1=A0:=by rw[hA0]; simp[ansC,zac,Function.comp_def,V.nf1]
 cases hv:winB v with
 | false =>
  have hd:decR v w live=(0,none):=by simp[decR,hv]
  simp[hd,←hA0,nT,q3,q3',lA0,ts3,ts4,A28,D28,tg3,tg4,tg4',tg4'',tg3n,tg4n,zaa,kA0,nA0]
 | true =>
 cases hw:winB w with
 | false =>
  have hd:decR v w live=(0,none):=by simp[decR,hv,hw]
  simp[hd,←hA0,nT,q3,q3',lA0,ts3,ts4,A28,D28,tg3,tg4,tg4',tg4'',tg3n,tg4n,zaa,kA0,nA0]
 | true =>
 have hXv:X1=vcs (winV [] v).p (winV [] v).st .no:=by rw[hX1,ofC,if_pos hv]
 have hLv:L1=(winV [] v).L:=by rw[hL1,ofL,if_pos hv]
 have hXw:X2=vcs (winV L1 w).p (winV L1 w).st .no:=by rw[hX2,ofC,if_pos hw]
 have hLw:L2=(winV L1 w).L:=by rw[hL2,ofL,if_pos hw]
 have k1:=zcI Inv.nil v hk
 have k2:=zcI i1 w hkw
 have hD:decR v w live=decR v w live:=rfl
 conv at hD=>rhs; rw[decR,hv,hw,if_pos (show(true&&true)=true from rfl),←hLv,←hLw]
 obtain⟨P,hP⟩:∃ P,P=(winV [] v).p:=⟨_,rfl⟩
 obtain⟨S,hS⟩:∃ S,S=(winV [] v).st:=⟨_,rfl⟩
 obtain⟨Q,hQ⟩:∃ Q,Q=(winV L1 w).p:=⟨_,rfl⟩
 obtain⟨R,hR⟩:∃ R,R=(winV L1 w).st:=⟨_,rfl⟩
 have pl:P.length=18:=by rw[hP]; exact k1.len
 have ql:Q.length=18:=by rw[hQ]; exact k2.len
 have sl:S.length≤1000000:=by
  have hw32:v.length≤32:=by simp only[winB,Bool.and_eq_true,decide_eq_true_eq] at hv; exact hv.1
  have:=k1.st
  rw[hS]; omega
 rw[←hP,←hQ,←hS,←hR] at hD
 rw[←hP,←hS] at hXv
 rw[←hQ,←hR] at hXw
 have hsa:=zwM (G:=G) P Q S R live hlv pl ql sl
 rw[←hXv,←hXw] at hsa
 have m1:X1.map V.nf1=X1:=by rw[hXv]; simp[vcs,za7,Function.comp_def,V.nf1]
 have m2:X2.map V.nf1=X2:=by rw[hXw]; simp[vcs,za7,Function.comp_def,V.nf1]
 simp[nT,q2,q2',ta8,ta9,x1,x2,e1,e2,zaa,m1,m2,c1,c2]
 refine zab hsa ?_
 cases hsm:zcy P Q S R live with
 | true =>
  rw[hsm,if_pos rfl] at hD
  have At:V.int .i64 0::A0.tail=A0:=by rw[hA0]; rfl
  simp[hD,←hA0,nT,q3,q3',lA0,ts3,ts4,A28,D28,tg3,tg4,tg4',tg4'',tg3n,tg4n,zaa,kA0,nA0,At]
 | false =>
  rw[hsm] at hD
  simp only[Bool.false_eq_true,if_false] at hD
  simp[nT,q2,q2',ta8,ta9,x1,x2,e1,e2,zaa,m1,m2,c1,c2]
  have n10:(T++[some (Blk.cells X1),some (Blk.cells X2)]).length=10:=by simp[nT]
  have htr:=zwO (G:=G) (T++[some (Blk.cells X1),some (Blk.cells X2)]) 6 live X1 X2 c1 c2 m1 m2
  rw[n10,List.append_assoc] at htr
  refine zfK htr (by simp) ?_
  simp
  subst hA0
  obtain⟨E,hE⟩:∃ E,E=T++[some (Blk.cells X1),some (Blk.cells X2),some (.cells [.ptr 6 0]),some (.cells X1),some (.cells X2),some (.cells [.int .u32 live])]:=⟨_,rfl⟩
  have nE:E.length=14:=by rw[hE]; simp[nT]
  obtain⟨HH,hHH⟩:∃ HH,HH=E++[some (Blk.loop tryE [46] zbZ zb0 .ready)]:=⟨_,rfl⟩
  have nHH:HH.length=15:=by rw[hHH]; simp[nE]
  have hHT:HH=T++[some (Blk.cells X1),some (Blk.cells X2),some (.cells [.ptr 6 0]),some (.cells X1),some (.cells X2),some (.cells [.int .u32 live]),some (Blk.loop tryE [46] zbZ zb0 .ready)]:=by rw[hHH,hE]; simp
  have hBE:Bk E 6 7 5 L2:=by
   rw[hE]
   refine hTB.app2 fun n hn=>?_
   simp[nT] at hn
   simp[Blk.cl,c1,c2,clL,V.cl,show 6<n by omega]
  have hBH:Bk HH 6 7 5 L2:=by
   rw[hHH]
   refine hBE.app2 fun n hn=>?_
   simp[nE] at hn
   simp[Blk.cl,tryE,V.cl,show 0<n by omega,show 1<n by omega,show 2<n by omega,show 3<n by omega,show 4<n by omega]
  have h14:HH[14]?=some (some (.loop tryE [46] zbZ zb0 .ready)):=by rw[hHH]; exact apn0 nE
  have hTH:TryH HH v w live:=⟨by rw[hHT]; exact q0 _,by rw[hHT]; exact q1 _,by rw[hHT]; exact q2 _,by rw[hHT]; exact q3 _,by rw[hHT]; exact q4 _,h14,hBH.shut⟩
  have h10:HH[10]?=some (some (.cells [.ptr 6 0])):=by rw[hHT]; exact apnk nT 2
  have h11:HH[11]?=some (some (.cells (vcs P S .no))):=by rw[hHT,←hXv]; exact apnk nT 3
  have h12:HH[12]?=some (some (.cells (vcs Q R .no))):=by rw[hHT,←hXw]; exact apnk nT 4
  have h13:HH[13]?=some (some (.cells [.int .u32 live])):=by rw[hHT]; exact apnk nT 5
  have htt:=zti (G:=G) hBH i2 (id:=14) (i1:=13) (i2:=10) (i3:=11) (i4:=12) (live:=live) hlv h13 h10 h11 h12 pl ql (by omega) (hit:=fun r=>zcu v w live (stO r) (ofW (r.drop 18))) (H':=hitH HH)
   (fun r hr hh X hX=>by
    obtain⟨hr1,hr2⟩:=zhI hr
    have:=ztk (G:=G) (hTH.app hX) hf hg hk hkw hlv hv hw hr1 hr2 hh
    simpa using this)
   (fun r hr hh X hX=>by
    obtain⟨hr1,hr2⟩:=zhI hr
    have:=ztk (G:=G) (hTH.app hX) hf hg hk hkw hlv hv hw hr1 hr2 hh
    rw[zu8 (by omega)] at this
    simpa using this)
   (fun r hr hh=>⟨by
    have:=(zjY hBH.shut (by omega) r).self
    rwa[show(hitH HH r).length=HH.length by simp[hitH]] at this,by simp[hitH]⟩)
  rw[←hE]
  have hbE:=hBE.shut.self
  rw[nE] at hbE
  have hlk:look (mkE [(3,V.ptr 0 0),(4,V.ptr 1 0),(5,V.ptr 2 0),(6,V.ptr 3 0),(7,V.ptr 4 0),(45,V.fn 310 [V.ptr 13 0,V.ptr 10 0,V.ptr 11 0,V.ptr 12 0])]) [3,4,5,6,7]=tryE:=by simp[tryE]
  cases hfd:(zbs L2 P Q live).find? (fun r=>zcu v w live (stO r) (ofW (r.drop 18))) with
  | none =>
   rw[hfd] at htt hD
   have htE:zad 14 HH=E:=by rw[hHH]; have:=hBE.shut.back [some (Blk.loop tryE [46] zbZ zb0 .ready)]; rwa[nE] at this
   refine ze8 (as:=zbZ) (bo:=zb0) (x:=.nx) (H2:=HH) (r:=.tup []) ?_ (by rw[nE]; exact h14) (.inl ⟨rfl,rfl⟩) ?_
   ·rw[nE]
    rw[hHH] at htt
    rw[hHH,hlk]
    exact htt
   rw[nE,htE,hE]
   simp only[] at hD
   have At:∀ c,V.int .i64 c::(ansC 0 none).tail=ansC c none:=fun c=>rfl
   simp[hD,nT,q3,q3',lA0,ts3,ts4,A28,D28,tg3,tg4,tg4',tg4'',tg3n,tg4n,zaa,kA0,nA0,At,zlj,zkt,zqU,ztl,ztm]
  | some r =>
   rw[hfd] at htt hD
   obtain⟨hr1,hr2⟩:=zhI (List.mem_of_find?_eq_some hfd)
   have lA:(ansC 1 (some r)).length=28:=by
    have h1:=zih (zo9 hr1 hr2)
    have h2:=zii (zjL (w:=r.drop 18) (by simp[hr1]) (fun x hx=>hr2 x (List.mem_of_mem_drop hx)))
    simp only[ansC,List.length_cons,List.length_append,h1,h2]
   obtain⟨A1,hA1⟩:∃ A1,A1=ansC 1 (some r):=⟨_,rfl⟩
   have kA1:∀ n,clL n A1=A1:=fun n=>by rw[hA1]; exact zkt _ _ n
   have nA1:A1.map V.nf1=A1:=by rw[hA1]; exact zqU _ _
   rw[←hA1] at lA
   have tA1:A1.take 28=A1:=List.take_of_length_le (by omega)
   have hEE:hitH HH r=((T.set 3 (some (.cells A1))).set 4 (some (.cells [.int .i64 0])))++[some (Blk.cells X1),some (Blk.cells X2),some (.cells [.ptr 6 0]),some (.cells X1),some (.cells X2),some (.cells [.int .u32 live]),some (.loop tryE [46] zbZ zb0 (.done .ret))]:=by
    rw[hHT,hitH,←hA1,ts3,ts4]
    rw[List.set_append_right _ _ (by simp; omega)]
    simp[nT]
   have hsh:=zjY hBH.shut (by omega) r
   have hl14:(hitH HH r)[14]?=some (some (.loop tryE [46] zbZ zb0 (.done .ret))):=by
    unfold hitH
    exact List.getElem?_set_self (by simp; omega)
   have hsh14:zad 14 (hitH HH r)=((T.set 3 (some (.cells A1))).set 4 (some (.cells [.int .i64 0])))++[some (Blk.cells X1),some (Blk.cells X2),some (.cells [.ptr 6 0]),some (.cells X1),some (.cells X2),some (.cells [.int .u32 live])]:=by
    have hmE:E.map (Option.map (Blk.cl 14))=E:=by
     have:=hbE
     unfold zad at this
     rwa[List.take_of_length_le (by omega)] at this
    have hE1:zad 14 ((E.set 3 (some (.cells A1))).set 4 (some (.cells [.int .i64 0])))=(E.set 3 (some (.cells A1))).set 4 (some (.cells [.int .i64 0])):=by
     unfold zad
     rw[List.take_of_length_le (by simp; omega),List.map_set,List.map_set,hmE]
     simp[Blk.cl,kA1,clL,V.cl]
    have hEs:(E.set 3 (some (.cells A1))).set 4 (some (.cells [.int .i64 0]))=((T.set 3 (some (.cells A1))).set 4 (some (.cells [.int .i64 0])))++[some (Blk.cells X1),some (Blk.cells X2),some (.cells [.ptr 6 0]),some (.cells X1),some (.cells X2),some (.cells [.int .u32 live])]:=by rw[hE,ts3,ts4]
    have hcut:hitH HH r=((E.set 3 (some (.cells A1))).set 4 (some (.cells [.int .i64 0])))++[some (.loop tryE [46] zbZ zb0 (.done .ret))]:=by rw[hEs,hEE]; simp
    rw[hcut,zf9 hE1 (by simp; exact nE),hEs]
   refine ze8 (as:=zbZ) (bo:=zb0) (x:=.ret) (H2:=hitH HH r) (r:=.tup []) ?_ (by rw[nE]; exact hl14) (.inr ⟨rfl,by decide⟩) ?_
   ·rw[nE]
    rw[hlk,←hHH]
    exact htt
   rw[nE,hsh14]
   simp only[] at hD
   simp[hD,nT,lA,tA1,kA1,nA1,tg3,tg4,tg3n,tg4n,←hA1]
end Go.Ev
/- The examples of layer 18. -/
namespace Go.Ev
open Go Go.RowKit
variable {G:Tbl}
theorem ztn{v w:List In4}{live:Nat}{s:St}{d:Da}(hk:∀ x∈v,x.k<4294967296)(hkw:∀ x∈w,x.k<4294967296)(hs:s.ok)(hd:d.ok)(hv:winB v=true)(hw:winB w=true)
  (h:zcy (winV [] v).p (winV (winV [] v).L w).p (winV [] v).st (winV (winV [] v).L w).st live=true):zcu v w live s d=false:=by
 have k1:=zcI Inv.nil v hk
 have k2:=zcI k1.ext.inv w hkw
 have V1:=(ziR Inv.nil hs hd hk hv).ext k2.ext
 have V2:=ziR k1.ext.inv hs hd hkw hw
 obtain⟨hp,hst⟩:=zjX.1 h
 have hn1:=zeB d v s
 have hn2:=zeB d w s
 rw[←hst] at V2
 have one:∀{p q:List Int} {st:List Int} {a b:List In4} {L:List Nd},WV (asgL s d) L p st a d s→WV (asgL s d) L q st b d s→(runW d a s).2<a.length→(runW d b s).2≤b.length→(runW d b s).2<b.length:=fun{p q st a b L} A B hlt hle=>by
  rcases Nat.lt_or_ge (runW d b s).2 b.length with h|h
  ·exact h
  ·exfalso
   have he:(runW d b s).2=b.length:=Nat.le_antisymm hle h
   obtain⟨x,hx,_,hx0⟩:=A.stop hlt
   have hlt2:=(List.getElem?_eq_some_iff.1 hx).1
   rw[B.num,←he] at hlt2
   obtain⟨y,n,hy,_,hyn,hn0⟩:=B.ahead _ hlt2
   rw[hx] at hy
   cases hy
   rw[hx0] at hyn
   cases hyn
   exact hn0 rfl
 unfold zcu
 by_cases e1:(runW d v s).2<v.length
 ·have e2:=one V1 V2 e1 hn2
  simp[e1,e2]
 ·have e2:¬(runW d w s).2<w.length:=fun h=>e1 (one V2 V1 h hn1)
  rw[if_neg (by simp[e1,e2])]
  have d1:=V1.done (by omega)
  have d2:=V2.done (by omega)
  refine znu fun j hj=>?_
  unfold zct
  cases hb:zdP live j with
  | false=>rfl
  | true =>
   have hpq:=hp j hj
   simp only[zcO,hb,Bool.true_and,bne_eq_false_iff_eq] at hpq
   have o1:=zeC hd v s hs hk
   have o2:=zeC hd w s hs hkw
   rw[Bool.true_and,bne_eq_false_iff_eq,zpd o1 hj,zpd o2 hj]
   have h1:=(d1.val j hj).2
   have h2:=(d2.val j hj).2
   rw[hpq,h2] at h1
   exact(Option.some.inj h1).symm
theorem dec_tells{v w:List In4}{live:Nat}(hv:winB v=true)(hw:winB w=true) :
  decR v w live=(0,none)∧zcy (winV [] v).p (winV (winV [] v).L w).p (winV [] v).st (winV (winV [] v).L w).st live=true ∨
  (∃ r,decR v w live=(1,some r)∧r∈zbs (winV (winV [] v).L w).L (winV [] v).p (winV (winV [] v).L w).p live∧zcu v w live (stO r) (ofW (r.drop 18))=true∧zcy (winV [] v).p (winV (winV [] v).L w).p (winV [] v).st (winV (winV [] v).L w).st live=false) ∨
  decR v w live=(2,none)∧(∀ r∈zbs (winV (winV [] v).L w).L (winV [] v).p (winV (winV [] v).L w).p live,zcu v w live (stO r) (ofW (r.drop 18))=false)∧zcy (winV [] v).p (winV (winV [] v).L w).p (winV [] v).st (winV (winV [] v).L w).st live=false:=by
 have hD:decR v w live=decR v w live:=rfl
 conv at hD=>rhs; rw[decR,hv,hw,if_pos (show(true&&true)=true from rfl)]
 cases hs:zcy (winV [] v).p (winV (winV [] v).L w).p (winV [] v).st (winV (winV [] v).L w).st live with
 | true =>
  rw[hs,if_pos rfl] at hD
  exact .inl ⟨hD,rfl⟩
 | false =>
  rw[hs] at hD
  simp only[Bool.false_eq_true,if_false] at hD
  cases hfd:(zbs (winV (winV [] v).L w).L (winV [] v).p (winV (winV [] v).L w).p live).find? (fun r=>zcu v w live (stO r) (ofW (r.drop 18))) with
  | none =>
   rw[hfd] at hD
   refine .inr (.inr ⟨hD,fun r hr=>?_,rfl⟩)
   have:=List.find?_eq_none.1 hfd r hr
   simpa using this
  | some r =>
   rw[hfd] at hD
   have hh:=List.find?_some hfd
   exact .inr (.inl ⟨r,hD,List.mem_of_find?_eq_some hfd,hh,rfl⟩)
end Go.Ev
/- knows of layer 18. -/
namespace Go.Ev
open Go Go.RowKit
variable {G:Tbl}
theorem zrL{r:List Nat}(hr:r.length=34)(hr':∀ x∈r,x<4294967296)(c:Int):(ansC c (some r)).length=28∧(ansC c (some r)).tail.take 18=(stO r).cs∧(ansC c (some r)).drop 19=(ofW (r.drop 18)).cs:=by
 have h1:=zih (zo9 hr hr')
 have h2:=zii (zjL (w:=r.drop 18) (by simp[hr]) (fun x hx=>hr' x (List.mem_of_mem_drop hx)))
 refine⟨by simp only[ansC,List.length_cons,List.length_append,h1,h2],?_,?_⟩
 ·simp only[ansC,List.tail_cons]
  rw[List.take_left' h1]
 ·simp only[ansC]
  rw[List.drop_succ_cons,List.drop_left' h1]
end Go.Ev
/- The laws DecideEqual, DecideDiffer. -/
namespace Go.Ev
open Go Go.RowKit
variable {G:Tbl}
theorem zqV(c:Int)(o:Option (List Nat)):(ansC c o).take 1=[.int .i64 c]:=by cases o<;>rfl
theorem zpt(v w:List In4)(live:Nat):(ansC (decR v w live).1 (decR v w live).2).length=28:=by
 cases hww:winB v&&winB w with
 | false =>
  have hd0:decR v w live=(0,none):=by simp[decR,hww]
  rw[hd0]; rfl
 | true =>
  simp only[Bool.and_eq_true] at hww
  rcases dec_tells (live:=live) hww.1 hww.2 with⟨e,_⟩|⟨r,e,hr,_,_⟩|⟨e,_,_⟩
  ·rw[e]; rfl
  ·obtain⟨h1,h2⟩:=zhI hr
   rw[e]; exact(zrL h1 h2 1).1
  ·rw[e]; rfl
end Go.Ev
/- Which pieces are free: splice.free, splice.Free, hurdleref22.Free. -/
namespace Go.Ev
open Go Go.RowKit
variable {G:Tbl}
def ze9(f:List In4)(a m:Nat):Bool:=(List.range m).all fun j=>!hitB f f.length (a+1+j)
theorem zrM(f:List In4)(a m:Nat):ze9 f a (m+1)=(ze9 f a m&&!hitB f f.length (a+1+m)):=by simp[ze9,List.range_succ,List.all_append]
theorem zp2{f:List In4}{a m n:Nat}(h:hitB f f.length (a+1+m)=true)(hm:m<n):ze9 f a n=false:=by
 rw[←Bool.not_eq_true,ze9,List.all_eq_true]
 intro h2
 have:=h2 m (List.mem_range.2 hm)
 rw[h] at this; cases this
def zb6(f:List In4)(a n:Nat):Bool:=winB ((f.drop a).take n)&&ze9 f a (n-1)
def inB(f:List In4)(a n:Int):Bool:=decide (0≤a∧1≤n∧a<f.length∧n≤f.length-a)
def zcz(f:List In4)(a n:Int):Bool:=inB f a n&&zb6 f a.toNat n.toNat
def zfZ(f:List In4)(a n:Int):Bool:=zao f&&zcz f a n
theorem zfO{f:List In4}(hs:zao f=true):f.length≤4096:=by simp only[zao,Bool.and_eq_true,decide_eq_true_eq] at hs; exact hs.1.1
theorem zku{f:List In4}(hk:∀ x∈f,x.k<4294967296)(a n:Nat):∀ x∈(f.drop a).take n,x.k<4294967296:=fun x hx=>hk x (List.mem_of_mem_drop (List.mem_of_mem_take hx))
theorem zqW[HasIns G][HasCheck G][HasWRight G][HasSpl G](f:List In4)(a n:Int)(hs:zao f=true)(hk:∀ x∈f,x.k<4294967296) :
  FP G 205 [FL f,.vs (zbf (hits f f.length)) .no,.int .i64 a,.int .i64 n] (.bool (zcz f a n)):=by
 refine zak HasSpl.h_splice_free (Nat.le_of_ble_eq_true rfl) ?_
 have hl:=zfO hs
 have hml:maxLen=9223372036854775807:=by decide
 by_cases h1:a<0
 ·have:zcz f a n=false:=by simp[zcz,inB,show¬0≤a by omega]
  simp[h1,this]
 by_cases h2:n<1
 ·have:zcz f a n=false:=by simp[zcz,inB,show¬1≤n by omega]
  simp[h1,h2,this]
 by_cases h3:(f.length:Int)≤a
 ·have:zcz f a n=false:=by simp[zcz,inB,show¬a<f.length by omega]
  simp[h1,h2,h3,FL,this]
 have s1:subI .i64 (f.length:Int) a=(f.length:Int)-a:=by rw[zcc]<;>omega
 by_cases h4:(f.length:Int)-a<n
 ·have:zcz f a n=false:=by simp[zcz,inB,show¬n≤f.length-a by omega]
  simp[h1,h2,h3,h4,s1,FL,this]
 have hin:inB f a n=true:=by simp only[inB,decide_eq_true_eq]; omega
 obtain⟨a,rfl⟩:=Int.eq_ofNat_of_zero_le (show 0≤a by omega)
 obtain⟨n,rfl⟩:=Int.eq_ofNat_of_zero_le (show 0≤n by omega)
 have hfr:zcz f (a:Int) (n:Int)=zb6 f a n:=by simp[zcz,hin]
 rw[hfr]
 have h1:((a:Int)<0)=False:=eq_false h1
 have h2':((n:Int)<1)=False:=eq_false h2
 have h2:(n=0)=False:=eq_false (by omega)
 have h3:((f.length:Int)≤(a:Int))=False:=eq_false h3
 have h4:((f.length:Int)-(a:Int)<(n:Int))=False:=eq_false h4
 have hbd:a+n≤f.length:=by omega
 have aa:addI .i64 (a:Int) (n:Int)=((a+n:Nat):Int):=addN (by omega)
 have a1:addI .i64 (a:Int) 1=((a+1:Nat):Int):=zag (by omega)
 have hw:=zbV (G:=G) ((f.drop a).take n) (by rw[List.length_take]; omega) (zku hk a n)
 have hsl:List.take n (List.drop a (IL f))=IL ((f.drop a).take n):=by rw[zl9,zma]
 have hhl:=zi0 f f.length
 simp only[FL] at hw
 simp(disch:=omega)[h1,h2,h2',h3,h4,s1,FL,aa,leTn,hsl,-Int.natCast_add]
 refine zab hw ?_
 cases hwb:winB ((f.drop a).take n)
 ·simp[zb6,hwb]
 have hfn:zb6 f a n=ze9 f a (n-1):=by simp[zb6,hwb]
 rw[hfn]
 simp[a1,-Int.natCast_add]
 refine W_up (n-1) (fun j=>[(1,.vs (zbf (hits f f.length)) .no),(2,.int .i64 a),(3,.int .i64 n),(9,.int .i64 ((a+1+j:Nat):Int))]) (fun _=>[]) (fun j=>ze9 f a j=true) ?_ ?_
 ·simp[zaa,zad,ze9]
 intro j hj hp
 by_cases hlt:j<n-1
 ·have hF:((a+1+j:Nat):Int)<((a+n:Nat):Int):=by omega
  have hg:=zfN f f.length (a+1+j) (by omega)
  obtain⟨_,hgv⟩:=List.getElem?_eq_some_iff.1 hg
  have a2:addI .i64 ((a+1+j:Nat):Int) 1=((a+1+(j+1):Nat):Int):=zag (by omega)
  cases hh:hitB f f.length (a+1+j)
  ·rw[hh] at hg hgv
   have hp':ze9 f a (j+1)=true:=by rw[zrM,hp,hh]; rfl
   simp(disch:=omega)[aa,ltT hF,hg,hgv,hhl,hlt,a2,hp',zaa,zad,-Int.natCast_add]
  ·rw[hh] at hg hgv
   have:=zp2 hh hlt
   simp(disch:=omega)[aa,ltT hF,hg,hgv,hhl,this,-Int.natCast_add]
 ·have hne:j=n-1:=by omega
  subst hne
  have hF:¬((a+1+(n-1):Nat):Int)<((a+n:Nat):Int):=by omega
  simp[aa,ltF hF,hp,-Int.natCast_add]
theorem zwP[HasIns G][HasCheck G][HasWRight G][HasSpl G](f:List In4)(a n:Int)(hf:f.length≤maxLen)(hk:∀ x∈f,x.k<4294967296) :
  FP G 206 [FL f,.int .i64 a,.int .i64 n] (.bool (zfZ f a n)):=by
 refine zak HasSpl.h_splice_Free (Nat.le_of_ble_eq_true rfl) ?_
 have hso:=zgW (G:=G) f hf hk
 simp
 refine zab hso ?_
 cases hs:zao f
 ·simp[zfZ,hs]
 ·simp
  refine zab (zlY f hs hk) ?_
  simp
  refine zab (zqW f a n hs hk) ?_
  simp[zfZ,hs]
end Go.Ev
/- A filter with another window: splice.Put. -/
namespace Go.Ev
open Go Go.RowKit
variable {G:Tbl}
def adjN(a e less i d:Nat):Nat:=if i<a∧e≤i+1+d then d-less else d
def putI(a e less i:Nat)(x:In4):In4:=if x.op=5 then{ x with k:=adjN a e less i x.k } else if isBr x.op then{ x with jt:=(adjN a e less i x.jt.toNat:Nat),jf:=(adjN a e less i x.jf.toNat:Nat) } else x
def pre(f:List In4)(a e less m:Nat):List In4:=(List.range m).map fun i=>putI a e less i (f.getD i RET)
def putL(f:List In4)(a n:Nat)(w:List In4):List In4:=pre f a (a+n) (n-w.length) a++w++f.drop (a+n)
def zn8(f:List In4)(a n:Int)(w:List In4):Bool:=zfZ f a n&&winB w&&decide ((w.length:Int)≤n)
def zdl(f:List In4)(a n:Nat)(w:List In4)(i:Nat):List In4 :=
 if i≤a then pre f a (a+n) (n-w.length) i else pre f a (a+n) (n-w.length) a++w++(f.take i).drop (a+n)
theorem zva(f:List In4)(a e less m:Nat):pre f a e less (m+1)=pre f a e less m++[putI a e less m (f.getD m RET)]:=by simp[pre,List.range_succ]
theorem zeI(f:List In4)(a e less m:Nat):(pre f a e less m).length=m:=by simp[pre]
theorem zto{f:List In4}{a n:Nat}{w:List In4}{i:Nat}(hi:i≤f.length)(hw:w.length≤32):(zdl f a n w i).length≤i+32:=by
 unfold zdl
 split
 ·rw[zeI]; omega
 ·simp only[List.length_append,zeI,List.length_drop,List.length_take]; omega
theorem ztp{f:List In4}{a n:Nat}{w:List In4}(h:a+n≤f.length)(hn:0<n):zdl f a n w f.length=putL f a n w:=by
 rw[zdl,if_neg (by omega),List.take_length,putL]
theorem zwQ[HasSpl G](a e less i d:Nat)(z:Blk)(y:List V)(hi:i≤5000)(hd:d<4294967296)(hl:less≤d+5000)(hle:i<a→e≤i+1+d→less≤d) :
  Big G (.F 207 [.int .i64 i,.int .i64 d,.ptr 0 0,.ptr 1 0,.ptr 2 0] [some (.cells [.int .i64 a]),some (.cells [.int .i64 e]),some (.cells [.int .i64 less]),some z,some (.cells y)] (.int .i64 (adjN a e less i d:Nat))
   [some (.cells [.int .i64 a]),some (.cells [.int .i64 e]),some (.cells [.int .i64 less]),some z,some (.cells y)]):=by
 refine F_of HasSpl.h_splice_Put_1 (Nat.le_of_ble_eq_true rfl) ?_
 have a1:addI .i64 (i:Int) 1=((i+1:Nat):Int):=zag (by omega)
 have a2:addI .i64 ((i+1:Nat):Int) (d:Int)=((i+1+d:Nat):Int):=addN (by omega)
 by_cases h1:i<a
 ·by_cases h2:e≤i+1+d
  ·have s1:subI .i64 (d:Int) (less:Int)=((adjN a e less i d:Nat):Int):=by
    have:=hle h1 h2
    rw[adjN,if_pos ⟨h1,h2⟩,zcc]<;>omega
   have h2':((e:Int)≤((i+1+d:Nat):Int))=True:=eq_true (by omega)
   simp[h1,a1,a2,h2',s1,-Int.natCast_add]
  ·have s1:adjN a e less i d=d:=by rw[adjN,if_neg (by omega)]
   have h2':((e:Int)≤((i+1+d:Nat):Int))=False:=eq_false (by omega)
   simp[h1,a1,a2,h2',s1,-Int.natCast_add]
 ·have s1:adjN a e less i d=d:=by rw[adjN,if_neg (by omega)]
  simp[h1,s1]
theorem zx1[HasIns G][HasCheck G][HasWRight G][HasSpl G](f w:List In4)(a n:Nat)(hf:f.length≤maxLen)(hw:w.length≤maxLen)(hk:∀ x∈f,x.k<4294967296)(hkw:∀ x∈w,x.k<4294967296)(h:zn8 f a n w=true) :
  FP G 208 [FL f,.int .i64 a,.int .i64 n,FL w] (.tup [.vs (IL (putL f a n w)) .no,.int .i64 0]):=by
 refine zak HasSpl.h_splice_Put (Nat.le_of_ble_eq_true rfl) ?_
 have hfr:=zwP (G:=G) f a n hf hk
 have hwr:=zbV (G:=G) w hw hkw
 simp only[zn8,Bool.and_eq_true,decide_eq_true_eq] at h
 obtain⟨⟨h1,h2⟩,h3⟩:=h
 rw[h1] at hfr
 rw[h2] at hwr
 simp only[zfZ,zcz,inB,Bool.and_eq_true,decide_eq_true_eq] at h1
 obtain⟨hs,⟨_,i2,i3,i4⟩,hfn⟩:=h1
 simp only[Int.toNat_natCast] at hfn
 have hlen:=zfO hs
 have hw32:w.length≤32:=by simp only[winB,Bool.and_eq_true,decide_eq_true_eq] at h2; exact h2.1
 have hbd:a+n≤f.length:=by omega
 have h3':((n:Int)<(w.length:Int))=False:=eq_false (by omega)
 have aa:addI .i64 (a:Int) (n:Int)=((a+n:Nat):Int):=addN (by omega)
 have ss:subI .i64 (n:Int) (w.length:Int)=((n-w.length:Nat):Int):=by rw[zcc]<;>omega
 simp only[FL] at hfr hwr
 simp[FL]
 refine zab hfr ?_
 simp
 refine zab hwr ?_
 simp[h3',aa,ss,-Int.natCast_add]
 obtain⟨T,hT⟩:∃ T:Nat→List In4,∀ j,T j=zdl f a n w j:=⟨_,fun _=>rfl⟩
 have hT0:T 0=[]:=by rw[hT,zdl,if_pos (by omega)]; rfl
 refine W_up f.length (fun i=>[(3,FL w),(5,.ptr 0 0),(10,.ptr 1 0),(12,.fn 207 [.ptr 0 0,.ptr 1 0,.ptr 2 0]),(13,.vs (IL (T i)) (.own 3)),(40,FL f),(41,.int .i64 f.length),(42,.int .i64 i)])
  (fun i=>[some (.cells [.int .i64 a]),some (.cells [.int .i64 ((a+n:Nat):Int)]),some (.cells [.int .i64 ((n-w.length:Nat):Int)]),some (.zone (T i).length)]) (fun _=>True) ?_ ?_
 ·simp[zaa,zad,FL,hT0]
 intro i hi _
 by_cases hlt:i<f.length
 ·have hTl:(T i).length≤i+32:=by rw[hT]; exact zto hi hw32
  obtain⟨x,hfx⟩:∃ x,x=f[i]:=⟨_,rfl⟩
  have hgg:=zbk hlt
  rw[←hfx] at hgg
  have hfx:=hfx.symm
  have hg:f[i]?=some x:=by rw[List.getElem?_eq_getElem hlt,hfx]
  have hD:f.getD i RET=x:=by rw[List.getD,hg]; rfl
  have hxm:x∈f:=hfx▸List.getElem_mem hlt
  have hkk:=hk x hxm
  have hbo:=zhm hs hg
  have hcs:x.cs=[.int .i64 x.op,.int .i64 x.jt,.int .i64 x.jf,.int .u32 (x.k:Int)]:=rfl
  have hbr:=zb9 (G:=G) x
  simp[IV,hcs] at hbr
  have hend:((a:Int)≤(i:Int))=(a≤i):=propext (by omega)
  by_cases hia:i=a
  ·have e1:((i:Int)==(a:Int))=true:=by simp[hia]
   have hTs:T (i+1)=T i++w:=by
    rw[hT,hT,zdl,zdl,if_neg (by omega),if_pos (by omega),hia]
    rw[List.drop_eq_nil_of_le (by rw[List.length_take]; omega)]; simp
   have hTl2:(T (i+1)).length=(T i).length+w.length:=by rw[hTs]; simp
   have hE:((i:Int)<((a+n:Nat):Int))=True:=eq_true (by omega)
   have hG:((a:Int)≤(i:Int))=True:=eq_true (by omega)
   have hap:IL (T i)++IL w=IL (T (i+1)):=by rw[zs9,hTs]
   by_cases hw0:w=[]
   ·subst hw0
    have hTe:T (i+1)=T i:=by rw[hTs]; simp
    simp(disch:=omega)[ltT,FL,hgg,hfx,hcs,e1,hE,hG,hTe,hlt,zag,zaa,zad,-Int.natCast_add]
   ·simp(disch:=omega)[ltT,FL,hgg,hfx,hcs,e1,hE,hG,zjU,hw0,leTn,hap,hTl2,hlt,zag,zaa,zad,-Int.natCast_add]
  have e1:((i:Int)==(a:Int))=false:=beqF (by omega)
  by_cases hmid:a≤i∧i<a+n
  ·have hTe:T (i+1)=T i:=by
    rw[hT,hT,zdl,zdl,if_neg (by omega),if_neg (by omega)]
    rw[List.drop_eq_nil_of_le (by rw[List.length_take]; omega),List.drop_eq_nil_of_le (by rw[List.length_take]; omega)]
   have hE:((i:Int)<((a+n:Nat):Int))=True:=eq_true (by omega)
   have hG:((a:Int)≤(i:Int))=True:=eq_true (by omega)
   simp(disch:=omega)[ltT,FL,hgg,hfx,hcs,e1,hE,hG,hTe,hlt,zag,zaa,zad,-Int.natCast_add]
  have hTs:T (i+1)=T i++[putI a (a+n) (n-w.length) i x]:=by
   rw[hT,hT]
   by_cases hlo:i<a
   ·rw[zdl,zdl,if_pos (by omega),if_pos (by omega),zva,hD]
   ·have hadj:∀ d,adjN a (a+n) (n-w.length) i d=d:=fun d=>by rw[adjN,if_neg (by omega)]
    have hpx:putI a (a+n) (n-w.length) i x=x:=by
     unfold putI
     simp only[hadj]
     obtain⟨op,jt,jf,k⟩:=x
     by_cases h5:op=5
     ·simp[h5]
     ·cases hbx:isBr op
      ·simp[h5]
      ·obtain⟨b1,b2,b3,b4⟩:=hbo hbx
       simp only at b1 b2 b3 b4
       simp[h5]; omega
    have hdr:(f.take (i+1)).drop (a+n)=(f.take i).drop (a+n)++[x]:=by
     rw[List.take_add_one,hg,Option.toList_some,List.drop_append_of_le_length (by rw[List.length_take]; omega)]
    rw[hpx,zdl,zdl,if_neg (by omega),hdr]
    by_cases hia2:i≤a
    ·omega
    ·rw[if_neg hia2,←List.append_assoc]
  have hTl2:(T (i+1)).length=(T i).length+1:=by rw[hTs]; simp
  have ho:∀ d:Nat,d<4294967296→_:=fun d hd=>zwQ (G:=G) a (a+n) (n-w.length) i d (.zone (T i).length) x.cs (by omega) hd (by omega) (fun h1 h2=>by omega)
  have hadl:∀ d:Nat,adjN a (a+n) (n-w.length) i d≤d:=fun d=>by unfold adjN; split<;>omega
  have hsn:∀ y:In4,y=putI a (a+n) (n-w.length) i x→IL (T i)++[y.cs]=IL (T (i+1)):=fun y hy=>by rw[hTs,hy]; exact zmJ _ _
  by_cases hai:a≤i
  ·have hG:((a:Int)≤(i:Int))=True:=eq_true (by omega)
   have hE:((i:Int)<((a+n:Nat):Int))=False:=eq_false (by omega)
   by_cases h5:x.op=5
   ·have b5:(x.op==5)=true:=by simp[h5]
    have hc:=zdJ x.k hkk
    have hov:=ho x.k hkk
    have hc2:zaG .u32 ((adjN a (a+n) (n-w.length) i x.k:Nat):Int)=((adjN a (a+n) (n-w.length) i x.k:Nat):Int):=by unfold zaG; exact zaM (by have:=hadl x.k; omega)
    have hap:=hsn ⟨x.op,x.jt,x.jf,adjN a (a+n) (n-w.length) i x.k⟩ (by simp[putI,h5])
    simp only[In4.cs] at hov hap
    simp(disch:=omega)[ltT,FL,hgg,hfx,hcs,e1,hG,hE,b5,hc,-Int.natCast_add]
    refine zaI hov (by simp) ?_
    simp(disch:=omega)[zad,hc2,leTn,hap,hTl2,hlt,zag,zaa,-Int.natCast_add]
   have b5:(x.op==5)=false:=beqF h5
   simp(disch:=omega)[ltT,FL,hgg,hfx,hcs,e1,hG,hE,b5,-Int.natCast_add]
   refine zab hbr ?_
   cases hbx:isBr x.op
   ·have hap:=hsn x (by simp[putI,h5,hbx])
    simp only[In4.cs] at hap
    simp(disch:=omega)[leTn,hap,hTl2,hlt,zag,zaa,zad,-Int.natCast_add]
   ·obtain⟨b1,b2,b3,b4⟩:=hbo hbx
    have hov:=ho x.jt.toNat (by omega)
    have hov2:=ho x.jf.toNat (by omega)
    have hap:=hsn ⟨x.op,(adjN a (a+n) (n-w.length) i x.jt.toNat:Nat),(adjN a (a+n) (n-w.length) i x.jf.toNat:Nat),x.k⟩ (by simp[putI,h5,hbx])
    have j1:((x.jt.toNat:Nat):Int)=x.jt:=by omega
    have j2:((x.jf.toNat:Nat):Int)=x.jf:=by omega
    simp only[In4.cs,j1,j2] at hov hov2 hap
    simp
    refine zaI hov (by simp[zad]) ?_
    simp[zad]
    refine zaI hov2 (by simp[zad]) ?_
    simp(disch:=omega)[zad,leTn,hap,hTl2,hlt,zag,zaa,-Int.natCast_add]
    omega
  ·have hG:((a:Int)≤(i:Int))=False:=eq_false (by omega)
   by_cases h5:x.op=5
   ·have b5:(x.op==5)=true:=by simp[h5]
    have hc:=zdJ x.k hkk
    have hov:=ho x.k hkk
    have hc2:zaG .u32 ((adjN a (a+n) (n-w.length) i x.k:Nat):Int)=((adjN a (a+n) (n-w.length) i x.k:Nat):Int):=by unfold zaG; exact zaM (by have:=hadl x.k; omega)
    have hap:=hsn ⟨x.op,x.jt,x.jf,adjN a (a+n) (n-w.length) i x.k⟩ (by simp[putI,h5])
    simp only[In4.cs] at hov hap
    simp(disch:=omega)[ltT,FL,hgg,hfx,hcs,e1,hG,b5,hc,-Int.natCast_add]
    refine zaI hov (by simp) ?_
    simp(disch:=omega)[zad,hc2,leTn,hap,hTl2,hlt,zag,zaa,-Int.natCast_add]
   have b5:(x.op==5)=false:=beqF h5
   simp(disch:=omega)[ltT,FL,hgg,hfx,hcs,e1,hG,b5,-Int.natCast_add]
   refine zab hbr ?_
   cases hbx:isBr x.op
   ·have hap:=hsn x (by simp[putI,h5,hbx])
    simp only[In4.cs] at hap
    simp(disch:=omega)[leTn,hap,hTl2,hlt,zag,zaa,zad,-Int.natCast_add]
   ·obtain⟨b1,b2,b3,b4⟩:=hbo hbx
    have hov:=ho x.jt.toNat (by omega)
    have hov2:=ho x.jf.toNat (by omega)
    have hap:=hsn ⟨x.op,(adjN a (a+n) (n-w.length) i x.jt.toNat:Nat),(adjN a (a+n) (n-w.length) i x.jf.toNat:Nat),x.k⟩ (by simp[putI,h5,hbx])
    have j1:((x.jt.toNat:Nat):Int)=x.jt:=by omega
    have j2:((x.jf.toNat:Nat):Int)=x.jf:=by omega
    simp only[In4.cs,j1,j2] at hov hov2 hap
    simp
    refine zaI hov (by simp[zad]) ?_
    simp[zad]
    refine zaI hov2 (by simp[zad]) ?_
    simp(disch:=omega)[zad,leTn,hap,hTl2,hlt,zag,zaa,-Int.natCast_add]
    omega
 ·have hne:i=f.length:=by omega
  subst hne
  have hTe:T f.length=putL f a n w:=by rw[hT,ztp hbd (by omega)]
  simp[hTe]
end Go.Ev
/- A filter's free pieces: splice.Pieces, hurdleref22.Pieces. -/
namespace Go.Ev
open Go Go.RowKit
variable {G:Tbl}
abbrev Pc:=Nat×Nat
def pr(c:Nat→Bool)(a k j:Nat):List Pc:=(List.range j).flatMap fun i=>if c (k-i) then [(a,k-i)] else []
theorem zgT(c:Nat→Bool)(a k j:Nat):pr c a k (j+1)=pr c a k j++(if c (k-j)=true then [(a,k-j)] else []):=by
 simp[pr,List.range_succ,List.flatMap_append]
theorem zkv(c:Nat→Bool)(a:Nat):∀(d k:Nat),(∀ m,k<m→m≤k+d→c m=false)→∀ j,pr c a (k+d) (d+j)=pr c a k j
 | 0,k,_,j=>by simp
 | d+1,k,h,0=>by
  have:=zkv c a d (k+1) (fun m h1 h2=>h m (by omega) (by omega)) 1
  rw[show k+(d+1)=k+1+d by omega,show d+1+0=d+1 by omega,this]
  simp[pr,h (k+1) (by omega) (by omega)]
 | d+1,k,h,j+1=>by
  have ih:=zkv c a (d+1) k h j
  rw[show d+1+(j+1)=(d+1+j)+1 by omega,zgT,ih,zgT]
  rw[show k+(d+1)-(d+1+j)=k-j by omega]
theorem zpu(c:Nat→Bool)(a k:Nat):∀ j,(pr c a k j).length≤j
 | 0=>by simp[pr]
 | j+1=>by
  rw[zgT,List.length_append]
  have:=zpu c a k j
  split<;>simp<;>omega
def cnd(f:List In4)(most:Int)(a m:Nat):Bool:=decide ((m:Int)≤most)&&decide ((m:Int)≤f.length-a)&&zfZ f a m
def rows(f:List In4)(most:Int)(a:Nat):List Pc:=(List.range a).flatMap fun b=>pr (cnd f most b) b 32 31
theorem zhJ(f:List In4)(most:Int)(a:Nat):rows f most (a+1)=rows f most a++pr (cnd f most a) a 32 31:=by
 simp[rows,List.range_succ,List.flatMap_append]
theorem zlk(f:List In4)(most:Int):∀ a,(rows f most a).length≤31*a
 | 0=>by simp[rows]
 | a+1=>by
  rw[zhJ,List.length_append]
  have:=zlk f most a
  have:=zpu (cnd f most a) a 32 31
  omega
theorem zqX{c:Nat→Bool}(h:∀ m,c m=false)(a k:Nat):∀ j,pr c a k j=[]
 | 0=>rfl
 | j+1=>by rw[zgT,zqX h a k j,h]; rfl
theorem znH{f:List In4}(h:zao f=false)(most:Int):∀ a,rows f most a=[]
 | 0=>rfl
 | a+1=>by rw[zhJ,znH h most a,zqX (fun m=>by simp[cnd,zfZ,h])]; rfl
theorem zx2{f:List In4}{most:Int}{a:Nat}(k:Int)(hk:k=min most (min ((f.length:Int)-a) 32)):pr (cnd f most a) a 32 31=pr (cnd f most a) a k.toNat (k.toNat-1):=by
 by_cases h2:k<1
 ·have:∀ m,1≤m→m≤32→cnd f most a m=false:=by
   intro m h1 h3
   by_cases hm:(m:Int)≤most
   ·have:¬(m:Int)≤f.length-a:=by omega
    simp[cnd,this]
   ·simp[cnd,hm]
  have h3:=zkv (cnd f most a) a 31 1 (fun m h1 h2=>this m (by omega) (by omega)) 0
  simp only[Nat.add_zero] at h3
  rw[show k.toNat-1=0 by omega,h3]
  rfl
 ·have h3:=zkv (cnd f most a) a (32-k.toNat) k.toNat (fun m h1 h3=>by
   by_cases hm:(m:Int)≤most
   ·have:¬(m:Int)≤f.length-a:=by omega
    simp[cnd,this]
   ·simp[cnd,hm]) (k.toNat-1)
  rw[show k.toNat+(32-k.toNat)=32 by omega,show 32-k.toNat+(k.toNat-1)=31 by omega] at h3
  exact h3
def zcG(l:List Pc):List (List V):=l.map fun p=>[.int .i64 (p.1:Int),.int .i64 (p.2:Int)]
@[simp] theorem zx3 (l:List Pc):(zcG l).length=l.length:=by simp[zcG]
@[simp] theorem zBI:zcG []=[]:=rfl
@[simp] theorem zlZ (l:List Pc) (a m:Nat):zcG l++[[V.int .i64 (a:Int),.int .i64 (m:Int)]]=zcG (l++[(a,m)]):=by simp[zcG]
@[simp] theorem zBJ (l:List Pc) (i:Nat):(zcG l)[i]?=(l[i]?).map fun p=>[.int .i64 (p.1:Int),.int .i64 (p.2:Int)]:=by simp[zcG]
@[simp] theorem zBY (l:List Pc):(∀ f∈zcG l,f.length=2)=True:=by
 simp only[eq_iff_iff,iff_true]
 intro f hf
 simp only[zcG,List.mem_map] at hf
 obtain⟨x,_,rfl⟩:=hf
 rfl
theorem ztq[HasIns G][HasCheck G][HasWRight G][HasSpl G](f:List In4)(most:Int)(hf:f.length≤maxLen)(hk:∀ x∈f,x.k<4294967296)(hm:-9223372036854775808≤most∧most≤9223372036854775807) :
  FP G 209 [FL f,.int .i64 most] (.vs (zcG (rows f most f.length)) .no):=by
 refine zak HasSpl.h_splice_Pieces (Nat.le_of_ble_eq_true rfl) ?_
 have hso:=zgW (G:=G) f hf hk
 simp
 refine zab hso ?_
 cases hs:zao f
 ·rw[znH hs]; simp
 have hl:=zfO hs
 simp
 refine zab (zlY f hs hk) ?_
 simp[FL]
 refine W_up f.length (fun a=>[(0,FL f),(1,.int .i64 most),(5,.vs (zbf (hits f f.length)) .no),(6,.vs (zcG (rows f most a)) (.own 0)),(15,.int .i64 f.length),(16,.int .i64 a)]) (fun a=>[some (.zone (rows f most a).length)]) (fun _=>True) ?_ ?_
 ·simp[zaa,zad,FL,rows]
 intro a ha _
 have hrl:=zlk f most a
 by_cases hlt:a<f.length
 ·obtain⟨k,hkk⟩:∃ k,k=min most (min ((f.length:Int)-a) 32):=⟨_,rfl⟩
  have hpm:=zx2 k hkk
  have s1:subI .i64 (f.length:Int) (a:Int)=(f.length:Int)-a:=by rw[zcc]<;>omega
  have hkm:(if 32<if(f.length:Int)-(a:Int)<most then(f.length:Int)-(a:Int) else most then 32 else if(f.length:Int)-(a:Int)<most then(f.length:Int)-(a:Int) else most)=k:=by omega
  simp(disch:=omega)[ltT,FL,s1,mmGo,mmI,hkm,-Int.natCast_add]
  obtain⟨T,hT⟩:∃ T:Nat→List Pc,∀ j,T j=rows f most a++pr (cnd f most a) a k.toNat j:=⟨_,fun _=>rfl⟩
  have hT0:T 0=rows f most a:=by rw[hT]; simp[pr]
  refine W_up (k.toNat-1) (fun j=>[(0,FL f),(1,.int .i64 most),(5,.vs (zbf (hits f f.length)) .no),(6,.vs (zcG (T j)) (.own 0)),(7,.int .i64 a),(8,.int .i64 (k-j)),(15,.int .i64 f.length),(16,.int .i64 a)])
   (fun j=>[some (.zone (T j).length)]) (fun _=>True) ?_ ?_
  ·simp[zaa,zad,FL,hT0]
  intro j hj _
  have hpl:=zpu (cnd f most a) a k.toNat j
  have hll:(T j).length≤31*a+j:=by rw[hT,List.length_append]; omega
  have hps:=zgT (cnd f most a) a k.toNat j
  by_cases hjl:j<k.toNat-1
  ·have hge:(2:Int)≤k-j:=by omega
   have e1:k-(j:Int)=((k.toNat-j:Nat):Int):=by omega
   have hfr:=zqW (G:=G) f a ((k.toNat-j:Nat):Int) hs hk
   have s2:subI .i64 ((k.toNat-j:Nat):Int) 1=k-((j+1:Nat):Int):=by rw[zcc]<;>omega
   have hle:((2:Int)≤((k.toNat-j:Nat):Int))=True:=eq_true (by omega)
   have hcn:cnd f most a (k.toNat-j)=zcz f a ((k.toNat-j:Nat):Int):=by
    have h1:((k.toNat-j:Nat):Int)≤most:=by omega
    have h2:((k.toNat-j:Nat):Int)≤f.length-a:=by omega
    simp[cnd,h1,h2,zfZ,hs]
   simp only[FL] at hfr
   rw[hcn] at hps
   rw[e1]
   simp(disch:=omega)[hle,FL,-Int.natCast_add]
   refine zab hfr ?_
   cases hfb:zcz f a ((k.toNat-j:Nat):Int)
   ·rw[hfb] at hps
    have hsame:T (j+1)=T j:=by rw[hT,hT,hps]; simp
    simp(disch:=omega)[s2,hjl,hsame,zaa,zad,FL,-Int.natCast_add]
   ·rw[hfb] at hps
    simp only[if_true] at hps
    have hsn:T (j+1)=T j++[(a,k.toNat-j)]:=by rw[hT,hT,hps,List.append_assoc]
    have hll2:(T (j+1)).length=(T j).length+1:=by rw[hsn]; simp
    have hsn2:zcG (T j)++[[V.int .i64 (a:Int),.int .i64 ((k.toNat-j:Nat):Int)]]=zcG (T (j+1)):=by rw[zlZ,hsn]
    simp(disch:=omega)[leTn,hsn2,hll2,s2,hjl,zaa,zad,FL,-Int.natCast_add,-zlZ]
  ·have hne:j=k.toNat-1:=by omega
   subst hne
   have hF:((2:Int)≤k-((k.toNat-1:Nat):Int))=False:=eq_false (by omega)
   have hTe:T (k.toNat-1)=rows f most (a+1):=by rw[hT,←hpm,←zhJ]
   rw[hTe]
   simp(disch:=omega)[hF,hlt,zag,zaa,zad,FL,-Int.natCast_add]
 ·have hne:a=f.length:=by omega
  subst hne
  simp
def zi2(t:Tk)(l:List Pc):List (List V):=l.map fun p=>[.vs [[.int .i64 (p.1:Int)],[.int .i64 (p.2:Int)]] t]
@[simp] theorem zx4 (t:Tk) (l:List Pc):(zi2 t l).length=l.length:=by simp[zi2]
@[simp] theorem zBK (t:Tk):zi2 t []=[]:=rfl
@[simp] theorem zBL (t:Tk) (l:List Pc) (i:Nat):(zi2 t l)[i]?=(l[i]?).map fun p=>[.vs [[.int .i64 (p.1:Int)],[.int .i64 (p.2:Int)]] t]:=by simp[zi2]
@[simp] theorem zBZ (t:Tk) (l:List Pc):(∀ f∈zi2 t l,f.length=1)=True:=by
 simp only[eq_iff_iff,iff_true]
 intro f hf
 simp only[zi2,List.mem_map] at hf
 obtain⟨x,_,rfl⟩:=hf
 rfl
theorem ztr{c:Nat→Bool}{a k:Nat}{p:Pc}:∀{j:Nat},p∈pr c a k j→p.1=a∧c p.2=true∧p.2≤k∧k<p.2+j
 | 0,h=>by simp[pr] at h
 | j+1,h=>by
  rw[zgT,List.mem_append] at h
  rcases h with h|h
  ·obtain⟨h1,h2,h3,h4⟩:=ztr h; exact⟨h1,h2,h3,by omega⟩
  ·split at h
   ·rename_i hc
    simp only[List.mem_singleton] at h
    subst h
    exact⟨rfl,hc,by simp,by simp only; omega⟩
   ·cases h
theorem zll{f:List In4}{most:Int}{p:Pc}:∀{n:Nat},p∈rows f most n→p.1<n∧cnd f most p.1 p.2=true∧2≤p.2∧p.2≤32
 | 0,h=>by simp[rows] at h
 | n+1,h=>by
  rw[zhJ,List.mem_append] at h
  rcases h with h|h
  ·obtain⟨h1,h2⟩:=zll h; exact⟨by omega,h2⟩
  ·obtain⟨h1,h2,h3,h4⟩:=ztr h
   exact⟨by omega,by rw[h1]; exact h2,by omega,h3⟩
end Go.Ev
