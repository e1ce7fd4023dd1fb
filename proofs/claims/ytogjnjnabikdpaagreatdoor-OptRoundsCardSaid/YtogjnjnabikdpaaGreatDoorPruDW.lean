/- Which places are come to: a walk, plain. -/
import Derived.Test.YtogjnjnabikdpaaGreatDoorSrcCW
import Derived.Test.YtogjnjnabikdpaaGreatDoorDecFW
import Derived.Test.YtogjnjnabikdpaaGreatDoorLiveCW
import Derived.Test.YtogjnjnabikdpaaGreatDoorEvSrcCW
import Derived.Test.YtogjnjnabikdpaaGreatDoorCheckBW
set_option linter.unusedSimpArgs false
set_option linter.unusedVariables false
set_option maxHeartbeats 8000000
set_option maxRecDepth 10000
namespace Go.Ev
open Go Go.RowKit
def zca(f:List In4)(a:Nat)(m:List Bool):List Bool :=
 if h:a<f.length then
  if m.getD a false=true then m
  else if zaB (f[a]'h).op=true then m.set a true
  else if(f[a]'h).op=5 then zca f (a+1+(f[a]'h).k) (m.set a true)
  else if isBr (f[a]'h).op=true then zca f (a+1+(f[a]'h).jf.toNat) (zca f (a+1+(f[a]'h).jt.toNat) (m.set a true))
  else zca f (a+1) (m.set a true)
 else m
termination_by f.length-a
def isT(m:List Bool)(i:Nat):Prop:=m[i]?=some true
structure Mt (f:List In4) (a:Nat) (m m':List Bool):Prop where
 len:m'.length=m.length
 mono:∀ i,isT m i→isT m' i
 at':isT m' a
 cls:∀ i x,isT m' i→¬isT m i→f[i]?=some x→∀ o∈offs x,isT m' (i+1+o)
 min:∀ i,isT m' i→¬isT m i→i=a∨∃ j x o,f[j]?=some x∧isT m' j∧o∈offs x∧j+1+o=i
theorem zgX{m:List Bool}{a i:Nat}(ha:a<m.length):isT (m.set a true) i↔i=a∨isT m i:=by
 unfold isT
 by_cases e:a=i
 ·subst e; rw[List.getElem?_set_self ha]; simp
 ·rw[List.getElem?_set_ne e]
  constructor
  ·exact .inr
  ·rintro(h|h)
   ·exact absurd h.symm e
   ·exact h
theorem Mt.refl{f:List In4}{a:Nat}{m:List Bool}(h:isT m a):Mt f a m m:=⟨rfl,fun _ h=>h,h,fun i x h1 h2=>absurd h1 h2,fun i h1 h2=>absurd h1 h2⟩
theorem Mt.one{f:List In4}{a:Nat}{m m':List Bool}{x:In4}(ha:a<m.length)(hx:f[a]?=some x)(hl:m'.length=m.length)(mono:∀ i,isT (m.set a true) i→isT m' i)
  (nx:∀ o∈offs x,isT m' (a+1+o)) (cls:∀ i y,isT m' i→¬isT (m.set a true) i→f[i]?=some y→∀ o∈offs y,isT m' (i+1+o))
  (min:∀ i,isT m' i→¬isT (m.set a true) i→∃ j y o,f[j]?=some y∧isT m' j∧o∈offs y∧j+1+o=i):Mt f a m m':=by
 have h1:isT m' a:=mono a ((zgX ha).2 (.inl rfl))
 refine⟨hl,fun i hi=>mono i ((zgX ha).2 (.inr hi)),h1,fun i y hi hn hy=>?_,fun i hi hn=>?_⟩
 ·by_cases e:i=a
  ·subst e
   rw[hx] at hy; cases hy
   exact nx
  ·exact cls i y hi (fun h=>((zgX ha).1 h).elim e hn) hy
 ·by_cases e:i=a
  ·exact .inl e
  ·exact .inr (min i hi fun h=>((zgX ha).1 h).elim e hn)
theorem zit{f:List In4}(hs:zap f=true):∀(n a:Nat) (m:List Bool),f.length-a≤n→a<f.length→m.length=f.length→Mt f a m (zca f a m)
 | 0,a,m,h1,h2,_=>by omega
 | n+1,a,m,h1,h2,h3=>by
  have hx:f[a]?=some f[a]:=List.getElem?_eq_getElem h2
  have ho:=fun o h=>zdU (o:=o) hs hx h
  obtain⟨x,hxe⟩:∃ x,x=f[a]:=⟨_,rfl⟩
  rw[←hxe] at hx ho
  rw[zca,dif_pos h2,←hxe]
  by_cases hm:m.getD a false=true
  ·rw[if_pos hm]
   refine .refl ?_
   rw[List.getD_eq_getElem?_getD] at hm
   unfold isT
   cases hg:m[a]? with
   | none=>rw[hg] at hm; cases hm
   | some b=>rw[hg] at hm; simp at hm; rw[hm]
  rw[if_neg hm]
  have hal:a<m.length:=by omega
  have hl:(m.set a true).length=f.length:=by rw[List.length_set,h3]
  by_cases he:zaB x.op=true
  ·rw[if_pos he]
   refine Mt.one hal hx (by simp) (fun _ h=>h) (fun o h=>?_) (fun i y h1 h2=>absurd h1 h2) (fun i h1 h2=>absurd h1 h2)
   simp[offs,he] at h
  rw[if_neg he]
  have he':zaB x.op=false:=by simpa using he
  -- one walk on
  have one:∀ o,offs x=[o]→Mt f a m (zca f (a+1+o) (m.set a true)):=fun o e=>by
   have hlt:=ho o (by rw[e]; simp)
   have k:=zit hs n (a+1+o) (m.set a true) (by omega) hlt hl
   refine Mt.one hal hx (by rw[k.len]; simp) k.mono (fun q h=>?_) k.cls (fun i h1 h2=>?_)
   ·rw[e,List.mem_singleton] at h
    subst h; exact k.at'
   ·rcases k.min i h1 h2 with rfl|h
    ·exact⟨a,x,o,hx,k.mono a ((zgX hal).2 (.inl rfl)),by rw[e]; simp,rfl⟩
    ·exact h
  by_cases h5:x.op=5
  ·rw[if_pos h5]
   have h5e:zaB (5:Int)=false:=by decide
   exact one x.k (by simp[offs,h5,h5e])
  rw[if_neg h5]
  by_cases hb:isBr x.op=true
  ·rw[if_pos hb]
   have hof:offs x=[x.jt.toNat,x.jf.toNat]:=by simp[offs,he',h5,hb]
   have k1:=zit hs n (a+1+x.jt.toNat) (m.set a true) (by omega) (ho _ (by rw[hof]; simp)) hl
   have k2:=zit hs n (a+1+x.jf.toNat) (zca f (a+1+x.jt.toNat) (m.set a true)) (by omega) (ho _ (by rw[hof]; simp)) (by rw[k1.len,hl])
   refine Mt.one hal hx (by rw[k2.len,k1.len]; simp) (fun i h=>k2.mono i (k1.mono i h)) (fun q h=>?_) (fun i y h1 h2 hy o ho=>?_) (fun i h1 h2=>?_)
   ·rw[hof] at h
    simp only[List.mem_cons,List.not_mem_nil,or_false] at h
    rcases h with rfl|rfl
    ·exact k2.mono _ k1.at'
    ·exact k2.at'
   ·by_cases hi:isT (zca f (a+1+x.jt.toNat) (m.set a true)) i
    ·exact k2.mono _ (k1.cls i y hi h2 hy o ho)
    ·exact k2.cls i y h1 hi hy o ho
   ·have ha':isT (zca f (a+1+x.jf.toNat) (zca f (a+1+x.jt.toNat) (m.set a true))) a:=k2.mono _ (k1.mono a ((zgX hal).2 (.inl rfl)))
    by_cases hi:isT (zca f (a+1+x.jt.toNat) (m.set a true)) i
    ·rcases k1.min i hi h2 with rfl|⟨j,y,o,g1,g2,g3,g4⟩
     ·exact⟨a,x,_,hx,ha',by rw[hof]; simp,rfl⟩
     ·exact⟨j,y,o,g1,k2.mono _ g2,g3,g4⟩
    ·rcases k2.min i h1 hi with rfl|h
     ·exact⟨a,x,_,hx,ha',by rw[hof]; simp,rfl⟩
     ·exact h
  ·rw[if_neg hb]
   have:=one 0 (by simp[offs,he',h5,hb])
   simpa using this
def metR(f:List In4):List Bool:=zca f 0 (List.replicate f.length false)
theorem zqp:∀{f:List In4} {m:List Bool},f.length=m.length→(∀ i x,isT m i→f[i]?=some x→∀ o∈offs x,isT m (i+1+o))→clsB f m
 | [],[],_,_=>trivial
 | [],_::_,h,_=>by simp at h
 | _::_,[],h,_=>by simp at h
 | x::f,b::m,h,hc=>by
  refine⟨fun hb o ho=>?_,zqp (by simpa using h) fun i y hi hy o ho=>?_⟩
  ·have:=hc 0 x (by rw[hb]; rfl) rfl o ho
   rw[show 0+1+o=o+1 by omega] at this
   exact this
  ·have:=hc (i+1) y hi (by simpa using hy) o ho
   rw[show i+1+1+o=(i+1+o)+1 by omega] at this
   exact this
theorem zl1{f:List In4}(hs:zap f=true):(metR f).length=f.length∧clsB f (metR f)∧(metR f)[0]?=some true∧MinM f (metR f):=by
 have h0:0<f.length:=by
  have:=zoX hs
  cases f with
  | nil=>exact absurd rfl this
  | cons x f=>simp
 have k:=zit hs f.length 0 (List.replicate f.length false) (by omega) h0 (by simp)
 have no:∀ i,¬isT (List.replicate f.length false) i:=fun i h=>by
  have:=List.mem_of_getElem? h
  rw[List.mem_replicate] at this
  cases this.2
 have hl:(metR f).length=f.length:=by rw[metR,k.len]; simp
 refine⟨hl,zqp hl.symm fun i x hi hx=>k.cls i x hi (no i) hx,k.at',fun i hi hp=>?_⟩
 rcases k.min i hi (no i) with rfl|⟨j,x,o,h1,h2,h3,h4⟩
 ·omega
 ·exact⟨j,x,o,h1,h2,h3,h4⟩
def prune(f:List In4):List In4:=pruR f (metR f)
theorem zui{f:List In4}(hs:zap f=true):zap (prune f)=true∧(prune f).length≤f.length∧AllP (prune f)∧∀ d s,run d (prune f) s=run d f s:=by
 obtain⟨h1,h2,h3,h4⟩:=zl1 hs
 refine⟨zrY hs h2 h3,?_,zuy h2 h4,fun d s=>zp2 d _ f _ s (Nat.le_refl _) h2 h3⟩
 have:=List.countP_le_length (p:=id) (l:=metR f)
 rw[prune,zfk f _ h1.symm]; omega
theorem zrh{f:List In4}(hs:zap f=true)(ha:AllP f):prune f=f:=by
 obtain⟨h1,h2,h3,h4⟩:=zl1 hs
 exact zsX hs h2 h3 ha
theorem zmA:∀{f:List In4} {m:List Bool} {y:In4},y∈pruR f m→∃ x∈f,y.op=x.op∧(y.k=x.k∨y.k≤x.k)
 | x::f,true::m,y,h=>by
  rw[pruR,List.mem_cons] at h
  rcases h with rfl|h
  ·refine⟨x,by simp,zg0 m x,?_⟩
   unfold prX
   split
   ·exact .inr (zgR _ _)
   ·split<;>exact .inl rfl
  ·obtain⟨z,h1,h2⟩:=zmA h
   exact⟨z,by simp[h1],h2⟩
 | x::f,false::m,y,h=>by
  rw[pruR] at h
  obtain⟨z,h1,h2⟩:=zmA h
  exact⟨z,by simp[h1],h2⟩
 | [],_,_,h=>by simp[pruR] at h
 | _::_,[],_,h=>by simp[pruR] at h
end Go.Ev
/- What is come to: the walk, by a closure that calls itself. -/
namespace Go.Ev
open Go Go.RowKit
variable {G:Tbl}
def HM(f:List In4)(m:List Bool):Heap:=[some (.cells [FL f]),some (.cells (cb m)),some (.cells [.rs 1 0 f.length 1]),some (.cells [.fn 346 [.ptr 2 0,.ptr 0 0,.ptr 3 0]])]
theorem zv7(f:List In4)(m:List Bool):za7 (HM f m):=by
 intro n hn
 simp only[HM,List.length_cons,List.length_nil] at hn
 simp[HM,FL,Blk.cl,clL,V.cl,Tk.cl,show 0<n by omega,show 1<n by omega,show 2<n by omega,show 3<n by omega]
theorem zqq[HasIns G][HasPru G]{f:List In4}(hs:zap f=true)(hk:∀ x∈f,x.k<4294967296)(hf:f.length≤maxLen):∀(n a:Nat) (m:List Bool) (r:Heap),(∀ n,r.map (Option.map (Blk.cl n))=r)→f.length-a≤n→a<f.length→m.length=f.length →
  SF G 346 [.int .i64 a,.ptr 2 0,.ptr 0 0,.ptr 3 0] (HM f m++r) (.tup []) (HM f (zca f a m)++r)
 | 0,a,m,r,_,h1,h2,_=>by omega
 | n+1,a,m,r,hr,h1,h2,h3=>by
  refine zby HasPru.h_prune_Met_1 (Nat.le_of_ble_eq_true rfl) ?_
  have nB:∀ m,(HM f m).length=4:=fun m=>rfl
  have g0:∀ m (s:Heap),(HM f m++s)[0]?=some (some (.cells [FL f])):=fun m s=>rfl
  have g1:∀ m (s:Heap),(HM f m++s)[1]?=some (some (.cells (cb m))):=fun m s=>rfl
  have g2:∀ m (s:Heap),(HM f m++s)[2]?=some (some (.cells [.rs 1 0 f.length 1])):=fun m s=>rfl
  have g3:∀ m (s:Heap),(HM f m++s)[3]?=some (some (.cells [.fn 346 [.ptr 2 0,.ptr 0 0,.ptr 3 0]])):=fun m s=>rfl
  have s1:∀ m m' (s:Heap),(HM f m++s).set 1 (some (.cells (cb m')))=HM f m'++s:=fun m m' s=>rfl
  have kk:∀ m (s:Heap),(HM f m++(r++s))[4+r.length]?=s[0]?:=fun m s=>by
   rw[←List.append_assoc]; exact apn0 (by simp[nB])
  have k0:∀ m (s:Heap) y,(HM f m++(r++s)).set (4+r.length) y=HM f m++(r++s.set 0 y):=fun m s y=>by
   rw[←List.append_assoc,zbU (by simp[nB]),List.append_assoc]
  have bk:∀ m (s:Heap),zac (4+r.length) (HM f m++(r++s))=HM f m++r:=fun m s=>by
   have:=((zv7 f m).app hr).back s
   rw[List.append_assoc,List.length_append,nB] at this
   exact this
  have l0:0<4+r.length:=by omega
  have l2:2<4+r.length:=by omega
  have l3:3<4+r.length:=by omega
  obtain⟨R,hR⟩:∃ R,R=zca f a m:=⟨_,rfl⟩
  rw[←hR]
  simp[nB]
  refine zgU (S:=Nat×List Bool) (fun s=>f.length-s.1) (fun s=>[(0,.int .i64 s.1),(1,.ptr 2 0),(2,.ptr 0 0),(3,.ptr 3 0)]) (fun s=>HM f s.2++r) (fun s=>zca f s.1 s.2=R∧s.1<f.length∧s.2.length=f.length∧a≤s.1) (a,m) ?_ ?_
  ·have:=bk m []
   simp at this
   simp[zaa,nB,this,hR,h2,h3,l0,l2,l3]
  rintro⟨b,u⟩ ⟨hm,hb,hu,hab⟩
  simp only at hm hb hu hab ⊢
  have hx:f[b]?=some f[b]:=List.getElem?_eq_getElem hb
  have ho:=fun o h=>zdU (o:=o) hs hx h
  have hbo:=zfQ hs hx
  obtain⟨x,hxe⟩:∃ x,x=f[b]:=⟨_,rfl⟩
  rw[←hxe] at hx ho hbo
  have hxl:x.cs.length=4:=rfl
  have hxt:x.cs.take 4=x.cs:=rfl
  have hgg:=za2 hb
  rw[←hxe] at hgg
  have hub:u[b]?=some u[b]:=List.getElem?_eq_getElem (by omega)
  obtain⟨t,ht⟩:∃ t,t=u[b]'(by omega):=⟨_,rfl⟩
  rw[←ht] at hub
  have hbu:=zxd u b t hub
  have hset:=zlW u b true (by omega)
  rw[zca,dif_pos hb,←hxe] at hm
  have hgd:u.getD b false=t:=by rw[List.getD_eq_getElem?_getD,hub]; rfl
  rw[hgd] at hm
  have bu:=bk u []
  simp at bu
  have l5:=hf
  simp only[maxLen] at l5
  cases t with
  | true =>
   rw[if_pos rfl] at hm
   subst hm
   simp(disch:=omega)[nB,g0,g1,g2,g3,hbu,leTn,ltTn,bu]
  | false =>
   rw[if_neg (by simp)] at hm
   simp(disch:=omega)[nB,g0,g1,g2,g3,hbu,leTn,ltTn,hset,s1,FL,hgg,hxl,hxt,kk,k0]
   refine zab (zix x) ?_
   have x0:(x.cs.drop 0).take 1=[.int .i64 x.op]:=rfl
   have x1:x.cs.tail.take 1=[.int .i64 x.jt]:=rfl
   have x2:(x.cs.drop 2).take 1=[.int .i64 x.jf]:=rfl
   have x3:(x.cs.drop 3).take 1=[.int .u32 (x.k:Int)]:=rfl
   have x0':x.cs.take 1=[.int .i64 x.op]:=rfl
   have kx:∀ n,clL n x.cs=x.cs:=fun n=>by simp[In4.cs,clL,V.cl]
   have hxk:x.k<4294967296:=hk x (by rw[hxe]; exact List.getElem_mem hb)
   have hul:(u.set b true).length=f.length:=by simp[hu]
   obtain⟨U,hU⟩:∃ U,U=u.set b true:=⟨_,rfl⟩
   rw[←hU] at hm hul ⊢
   by_cases he:zaB x.op=true
   ·rw[if_pos he] at hm
    subst hm
    simp[he,bk]
   rw[if_neg he] at hm
   have he':zaB x.op=false:=by simpa using he
   have nx1:∀{c:Nat},b<c→c<f.length→f.length-c<f.length-b:=fun h1 h2=>by omega
   by_cases h5:x.op=5
   ·rw[if_pos h5] at hm
    have h5e:zaB (5:Int)=false:=by decide
    have hlt:=ho x.k (by simp[offs,h5,h5e])
    have c1:zaU .i64 (x.k:Int)=(x.k:Int):=by rw[zdZ]<;>omega
    have a1:addI .i64 (b:Int) (x.k:Int)=((b+x.k:Nat):Int):=by rw[zav]<;>omega
    have a2:addI .i64 ((b+x.k:Nat):Int) 1=((b+1+x.k:Nat):Int):=by rw[zav]<;>omega
    simp(disch:=omega)[he',h5,h5e,kk,x0,x0',x3,hxl,c1,a1,a2,zaa,nB,bk,hm,hlt,hul,l0,l2,l3,-Int.natCast_add]
    exact⟨(b+1+x.k,U),nx1 (by omega) hlt,⟨hm,hlt,hul,by simp only; omega⟩,by simp[zaa,nB,l0,l2,l3,-Int.natCast_add],bk U _⟩
   rw[if_neg h5] at hm
   by_cases hbr:isBr x.op=true
   ·rw[if_pos hbr] at hm
    obtain⟨b1,b2,b3,b4⟩:=hbo hbr
    have hof:offs x=[x.jt.toNat,x.jf.toNat]:=by simp[offs,he',h5,hbr]
    have hlt1:=ho x.jt.toNat (by rw[hof]; simp)
    have hlt2:=ho x.jf.toNat (by rw[hof]; simp)
    have a0:addI .i64 (b:Int) 1=((b+1:Nat):Int):=by rw[zav]<;>omega
    have a1:addI .i64 ((b+1:Nat):Int) x.jt=((b+1+x.jt.toNat:Nat):Int):=by rw[zav]<;>omega
    have a2:addI .i64 (b:Int) x.jf=((b+x.jf.toNat:Nat):Int):=by rw[zav]<;>omega
    have a3:addI .i64 ((b+x.jf.toNat:Nat):Int) 1=((b+1+x.jf.toNat:Nat):Int):=by rw[zav]<;>omega
    have h5b:=beqF h5
    have ih:=zqq hs hk hf n (b+1+x.jt.toNat) U (r++[some (.cells x.cs)]) (fun n=>by simp[hr,Blk.cl,kx]) (by omega) hlt1 hul
    have k:=zit hs n (b+1+x.jt.toNat) U (by omega) hlt1 hul
    simp(disch:=omega)[he',h5b,kk,x0,x0',hxl,hxt,zaa,nB,l0,l2,l3,-Int.natCast_add]
    refine zab (zcd x) ?_
    simp(disch:=omega)[hbr,kk,x1,g3,a0,a1,hxl,nB,zaa,l0,l2,l3,-Int.natCast_add]
    refine zeF (args:=[.int .i64 ((b+1+x.jt.toNat:Nat):Int)]) (cap:=[.ptr 2 0,.ptr 0 0,.ptr 3 0]) ih ?_
    simp(disch:=omega)[kk,x2,a2,a3,hxl,nB,zaa,l0,l2,l3,-Int.natCast_add]
    exact⟨(b+1+x.jf.toNat,zca f (b+1+x.jt.toNat) U),nx1 (by omega) hlt2,⟨hm,hlt2,by simp only[k.len,hul],by simp only; omega⟩,by simp[zaa,nB,l0,l2,l3,-Int.natCast_add],bk _ _⟩
   ·rw[if_neg hbr] at hm
    have hbr':isBr x.op=false:=by simpa using hbr
    have hlt:=ho 0 (by simp[offs,he',h5,hbr'])
    have h5b:=beqF h5
    have a0:addI .i64 (b:Int) 1=((b+1:Nat):Int):=by rw[zav]<;>omega
    simp(disch:=omega)[he',h5b,kk,x0,x0',hxl,hxt,zaa,nB,l0,l2,l3,-Int.natCast_add]
    refine zab (zcd x) ?_
    simp(disch:=omega)[hbr',kk,a0,hxl,nB,zaa,l0,l2,l3,-Int.natCast_add]
    exact⟨(b+1,U),nx1 (by omega) hlt,⟨hm,hlt,hul,by simp only; omega⟩,by simp[zaa,nB,l0,l2,l3,-Int.natCast_add],bk U _⟩
end Go.Ev
/- What is come to: the whole. -/
namespace Go.Ev
open Go Go.RowKit
variable {G:Tbl}
theorem zxm[HasIns G][HasCheck G][HasPru G]{f:List In4}(hs:zap f=true)(hk:∀ x∈f,x.k<4294967296)(hf:f.length≤4096) :
  FP G 347 [FL f] (.tup [.vs (zbi (metR f)) .no,.int .i64 0]):=by
 refine zak HasPru.h_prune_Met (Nat.le_of_ble_eq_true rfl) ?_
 have hm:f.length≤maxLen:=Nat.le_trans hf (by decide)
 have hso:=zef (G:=G) f hm hk
 rw[hs] at hso
 simp[FL]
 refine zab hso ?_
 have h0:0<f.length:=by
  have:=zoX hs
  cases f with
  | nil=>exact absurd rfl this
  | cons x f=>simp
 have k:=zqq (G:=G) hs hk hm f.length 0 (List.replicate f.length false) [] (fun n=>rfl) (by omega) h0 (by simp)
 simp(disch:=omega)[FL,zaa,leTn]
 refine zeF (args:=[.int .i64 ((0:Nat):Int)]) (cap:=[.ptr 2 0,.ptr 0 0,.ptr 3 0]) k ?_
 have hl:(metR f).length=f.length:=(zl1 hs).1
 have hc:=zj0 (metR f)
 rw[hl] at hc
 rw[show zca f 0 (List.replicate f.length false)=metR f from rfl]
 simp[HM,hl,hc]
end Go.Ev
/- A filter without what is never come to: the code. -/
namespace Go.Ev
open Go Go.RowKit
variable {G:Tbl}
theorem zkD{m:List Bool}{i:Nat}{t:Bool}(h:m[i]?=some t):cntB m (i+1)=cntB m i+(if t=true then 1 else 0):=by
 rw[cntB,cntB,List.take_add_one,h,Option.toList_some,List.countP_append]
 cases t<;>simp
theorem zv8{m:List Bool}{i:Nat}(h:m[i]?=some true)(o:Nat):cntB m (i+1+o)=cntB m i+1+cntB (m.drop (i+1)) o:=by
 rw[zlm,zkD h]; simp
def outP(f:List In4)(m:List Bool)(i:Nat):List In4:=(pruR f m).take (cntB m i)
theorem zv9{f:List In4}{m:List Bool}{i:Nat}(h:m[i]?=some false):outP f m (i+1)=outP f m i:=by
 rw[outP,outP,zkD h]; rfl
theorem zuj{f:List In4}{m:List Bool}{i:Nat}{x:In4}(hl:f.length=m.length)(hx:f[i]?=some x)(h:m[i]?=some true):outP f m (i+1)=outP f m i++[prX (m.drop (i+1)) x]:=by
 have h1:=ziH f m i hl
 obtain⟨hf,rfl⟩:=List.getElem?_eq_some_iff.1 hx
 obtain⟨hm,e⟩:=List.getElem?_eq_some_iff.1 h
 rw[List.drop_eq_getElem_cons hf,List.drop_eq_getElem_cons hm,e,pruR] at h1
 have h2:(pruR f m)[cntB m i]?=some (prX (m.drop (i+1)) f[i]):=by
  rw[←List.head?_drop,h1]; rfl
 rw[outP,outP,zkD h,if_pos rfl,List.take_add_one,h2]; rfl
theorem zuk{f:List In4}{m:List Bool}(hl:f.length=m.length):outP f m f.length=pruR f m:=by
 rw[outP,List.take_of_length_le]
 rw[zfk f m hl,hl,cntB,List.take_length]; exact Nat.le_refl _
theorem zul(f:List In4)(m:List Bool)(i:Nat):(outP f m i).length≤i:=by
 rw[outP,List.length_take]
 have:=zgR m i
 omega
def nowP(m:List Bool)(i:Nat):List Nat:=(List.range m.length).map fun j=>if j<i then cntB m j else 0
theorem zo3(m:List Bool)(i:Nat):(nowP m i).length=m.length:=by simp[nowP]
theorem zum{m:List Bool}{i:Nat}(h:i<m.length):(nowP m i).set i (cntB m i)=nowP m (i+1):=by
 apply List.ext_getElem
 ·simp[nowP]
 intro j h1 h2
 simp only[nowP,List.length_set,List.length_map,List.length_range] at h1 h2
 rw[List.getElem_set]
 simp only[nowP,List.getElem_map,List.getElem_range]
 by_cases e:i=j
 ·subst e; simp
 ·rw[if_neg e]
  by_cases h3:j<i
  ·rw[if_pos h3,if_pos (by omega)]
  ·rw[if_neg h3,if_neg (by omega)]
theorem zo4{m:List Bool}{j:Nat}(h:j<m.length):(nowP m m.length)[j]?=some (cntB m j):=by
 rw[nowP,List.getElem?_map,List.getElem?_range h]
 simp[h]
theorem zxn[HasPru G]{m:List Bool}{i o:Nat}(hm:m.length≤4096)(hi:m[i]?=some true)(ho:i+1+o<m.length)(z:Blk)(y:List V) :
  Big G (.F 348 [.int .i64 i,.int .i64 o,.ptr 1 0] [some (.cells (zad .i64 (nowP m m.length))),some (.cells [.rs 0 0 m.length 1]),some z,some (.cells y)] (.int .i64 (cntB (m.drop (i+1)) o:Nat))
   [some (.cells (zad .i64 (nowP m m.length))),some (.cells [.rs 0 0 m.length 1]),some z,some (.cells y)]):=by
 refine F_of HasPru.h_prune_Prune_1 (Nat.le_of_ble_eq_true rfl) ?_
 have a1:addI .i64 (i:Int) 1=((i+1:Nat):Int):=zag (by omega)
 have a2:addI .i64 ((i+1:Nat):Int) (o:Int)=((i+1+o:Nat):Int):=addN (by omega)
 have l1:=zgR m (i+1+o)
 have e1:=zv8 hi o
 have r1:=zdS .i64 (zo4 (m:=m) (j:=i+1+o) ho)
 have r2:=zdS .i64 (zo4 (m:=m) (j:=i) (by omega))
 have s1:subI .i64 (cntB m (i+1+o):Int) (cntB m i:Int)=((cntB m (i+1+o)-cntB m i:Nat):Int):=by rw[zaP]<;>omega
 have s2:subI .i64 ((cntB m (i+1+o)-cntB m i:Nat):Int) 1=((cntB (m.drop (i+1)) o:Nat):Int):=by rw[zaP]<;>omega
 obtain⟨N,hN⟩:∃ N,N=nowP m m.length:=⟨_,rfl⟩
 have hNl:N.length=m.length:=by rw[hN,zo3]
 rw[←hN] at r1 r2 ⊢
 simp(disch:=omega)[a1,a2,r1,r2,s1,s2,ltTn,leTn,hNl,-Int.natCast_add]
end Go.Ev
/- A filter without what is never come to: the whole. -/
namespace Go.Ev
open Go Go.RowKit
variable {G:Tbl}
theorem zxo{o:Int}(h:isBr o=true):zaB o=false:=by
 cases e:zaB o with
 | false=>rfl
 | true =>
  simp only[zaB,Bool.or_eq_true,beq_iff_eq,decide_eq_true_eq] at e
  rcases e with e|e<;>(rw[e] at h; revert h; decide)
theorem zun[HasIns G][HasCheck G][HasPru G]{f:List In4}(hs:zap f=true)(hk:∀ x∈f,x.k<4294967296)(hf:f.length≤4096) :
  FP G 349 [FL f] (.tup [.vs (IL (prune f)) .no,.int .i64 0]):=by
 refine zak HasPru.h_prune_Prune (Nat.le_of_ble_eq_true rfl) ?_
 obtain⟨hml,hcl,h00,_⟩:=zl1 hs
 simp[FL]
 refine zab (zxm hs hk hf) ?_
 obtain⟨m,hm⟩:∃ m,m=metR f:=⟨_,rfl⟩
 have hpr:prune f=pruR f m:=by rw[prune,hm]
 rw[←hm] at hml hcl h00 ⊢
 have hl:f.length=m.length:=hml.symm
 have hm4:m.length≤4096:=by omega
 have hbl:(zbi m).length=m.length:=by simp[zbi]
 simp(disch:=omega)[FL,leTn,hbl]
 obtain⟨N,hN⟩:∃ N:Nat→List Nat,∀ j,N j=nowP m j:=⟨_,fun _=>rfl⟩
 have hNl:∀ j,(N j).length=m.length:=fun j=>by rw[hN,zo3]
 have hN0:zae m.length=N 0:=by
  rw[hN,nowP,zae]
  apply List.ext_getElem<;>simp
 refine W_up m.length (fun i=>[(0,FL f),(4,.vs (zbi m) .no),(6,.ptr 1 0),(7,.int .i64 (cntB m i:Nat)),(25,.vs (zbi m) .no),(26,.int .i64 m.length),(27,.int .i64 i)])
  (fun i=>[some (.cells (zad .i64 (N i))),some (.cells [.rs 0 0 m.length 1])]) (fun _=>True) ?_ ?_
 ·simp[zaa,zac,FL,hN0,hl,zdu]
 intro i hi _
 by_cases hlt:i<m.length
 ·obtain⟨t,ht⟩:∃ t,t=m[i]:=⟨_,rfl⟩
  have hg:m[i]?=some t:=by rw[List.getElem?_eq_getElem hlt,ht]
  have hbg:(zbi m)[i]?=some [.bool t]:=by simp[hg]
  have hbe:(zbi m)[i]'(by omega)=[.bool t]:=by simp[zbi,ht]
  have hst:=zbr .i64 (N i) i (cntB m i) (by rw[hNl]; exact hlt)
  rw[hN i,zum hlt,←hN (i+1),←hN i] at hst
  have hc:=zkD hg
  have hle:=zgR m i
  have a1:addI .i64 (cntB m i:Int) 1=((cntB m i+1:Nat):Int):=zag (by omega)
  cases t with
  | true =>
   simp(disch:=omega)[ltT,leTn,ltTn,hbg,hbe,hst,hNl,hlt,zag,a1,hc,zaa,zac,FL,-Int.natCast_add]
  | false =>
   simp(disch:=omega)[ltT,leTn,ltTn,hbg,hbe,hst,hNl,hlt,zag,hc,zaa,zac,FL,-Int.natCast_add]
 have hne:i=m.length:=by omega
 subst hne
 obtain⟨T,hT⟩:∃ T:Nat→List In4,∀ j,T j=outP f m j:=⟨_,fun _=>rfl⟩
 have hT0:T 0=[]:=by rw[hT,outP,zdu,List.take_zero]
 have hTL:∀ j,(T j).length≤j:=fun j=>by rw[hT]; exact zul f m j
 simp(disch:=omega)[zaa,zac,FL,-Int.natCast_add]
 refine W_up m.length (fun i=>[(4,.vs (zbi m) .no),(10,.fn 348 [.ptr 1 0]),(11,.vs (IL (T i)) (.own 2)),(41,FL f),(42,.int .i64 m.length),(43,.int .i64 i)])
  (fun i=>[some (.cells (zad .i64 (N m.length))),some (.cells [.rs 0 0 m.length 1]),some (.zone (T i).length)]) (fun _=>True) ?_ ?_
 ·simp[zaa,zac,FL,hT0,hl]
 intro i hi _
 by_cases hlt:i<m.length
 ·obtain⟨t,ht⟩:∃ t,t=m[i]:=⟨_,rfl⟩
  have hg:m[i]?=some t:=by rw[List.getElem?_eq_getElem hlt,ht]
  have hbe:(zbi m)[i]'(by omega)=[.bool t]:=by simp[zbi,ht]
  obtain⟨x,hfx⟩:∃ x,x=f[i]'(by omega):=⟨_,rfl⟩
  have hgg:=za2 (f:=f) (i:=i) (by omega)
  rw[←hfx] at hgg
  have hfx:=hfx.symm
  have hgx:f[i]?=some x:=by rw[List.getElem?_eq_getElem (by omega),hfx]
  have hxm:x∈f:=hfx▸List.getElem_mem _
  have hkk:=hk x hxm
  have hbo:=zfQ hs hgx
  have ho:=fun o h=>zdU (o:=o) hs hgx h
  have hcs:x.cs=[.int .i64 x.op,.int .i64 x.jt,.int .i64 x.jf,.int .u32 (x.k:Int)]:=rfl
  have hbr:=zcd (G:=G) x
  simp[IV,hcs] at hbr
  have hTl:=hTL i
  cases t with
  | false =>
   have hTe:T (i+1)=T i:=by rw[hT,hT]; exact zv9 hg
   simp(disch:=omega)[ltT,leTn,ltTn,hbe,hgg,hfx,hcs,hTe,hlt,zag,zaa,zac,FL,-Int.natCast_add]
  | true =>
   have hTs:T (i+1)=T i++[prX (m.drop (i+1)) x]:=by rw[hT,hT]; exact zuj hl hgx hg
   have hTl2:(T (i+1)).length=(T i).length+1:=by rw[hTs]; simp
   have hsn:∀ y:In4,y=prX (m.drop (i+1)) x→IL (T i)++[y.cs]=IL (T (i+1)):=fun y hy=>by rw[hTs,hy]; exact zmL _ _
   have hov:∀ o:Nat,i+1+o<m.length→_:=fun o h=>zxn (G:=G) hm4 hg h (.zone (T i).length) x.cs
   rw[←hN] at hov
   by_cases h5:x.op=5
   ·have b5:(x.op==5)=true:=by simp[h5]
    have h5e:zaB (5:Int)=false:=by decide
    have hc:=zdZ x.k hkk
    have hlk:i+1+x.k<m.length:=by
     have:=ho x.k (by simp[offs,h5,h5e])
     omega
    have hv:=hov x.k hlk
    have hle:=zgR (m.drop (i+1)) x.k
    have hc2:zaU .u32 ((cntB (m.drop (i+1)) x.k:Nat):Int)=((cntB (m.drop (i+1)) x.k:Nat):Int):=by unfold zaU; exact zaW (by omega)
    have hap:=hsn ⟨x.op,x.jt,x.jf,cntB (m.drop (i+1)) x.k⟩ (by simp[prX,h5])
    simp only[In4.cs] at hv hap
    obtain⟨q,hq⟩:∃ q,q=cntB (m.drop (i+1)) x.k:=⟨_,rfl⟩
    rw[←hq] at hv hap hc2 hle
    simp(disch:=omega)[ltT,leTn,ltTn,hbe,hgg,hfx,hcs,b5,hc,FL,-Int.natCast_add]
    refine zaF hv (by simp) ?_
    simp(disch:=omega)[zac,hc2,leTn,hap,hTl2,hlt,zag,zaa,-Int.natCast_add]
   have b5:(x.op==5)=false:=beqF h5
   simp(disch:=omega)[ltT,leTn,ltTn,hbe,hgg,hfx,hcs,b5,FL,-Int.natCast_add]
   refine zab hbr ?_
   cases hbx:isBr x.op
   ·have hap:=hsn x (by simp[prX,h5,hbx])
    simp only[In4.cs] at hap
    simp(disch:=omega)[leTn,hap,hTl2,hlt,zag,zaa,zac,-Int.natCast_add]
   ·obtain⟨b1,b2,b3,b4⟩:=hbo hbx
    have he':zaB x.op=false:=zxo hbx
    have hof:offs x=[x.jt.toNat,x.jf.toNat]:=by simp[offs,he',h5,hbx]
    have hl1:=ho x.jt.toNat (by rw[hof]; simp)
    have hl2:=ho x.jf.toNat (by rw[hof]; simp)
    have hv:=hov x.jt.toNat (by omega)
    have hv2:=hov x.jf.toNat (by omega)
    have hap:=hsn ⟨x.op,(cntB (m.drop (i+1)) x.jt.toNat:Nat),(cntB (m.drop (i+1)) x.jf.toNat:Nat),x.k⟩ (by simp[prX,h5,hbx])
    have j1:((x.jt.toNat:Nat):Int)=x.jt:=by omega
    have j2:((x.jf.toNat:Nat):Int)=x.jf:=by omega
    simp only[In4.cs,j1,j2] at hv hv2 hap
    obtain⟨q,hq⟩:∃ q,q=cntB (m.drop (i+1)) x.jt.toNat:=⟨_,rfl⟩
    obtain⟨q2,hq2⟩:∃ q,q=cntB (m.drop (i+1)) x.jf.toNat:=⟨_,rfl⟩
    rw[←hq] at hv hap
    rw[←hq2] at hv2 hap
    simp
    refine zaF hv (by simp[zac]) ?_
    simp[zac]
    refine zaF hv2 (by simp[zac]) ?_
    simp(disch:=omega)[zac,leTn,hap,hTl2,hlt,zag,zaa,-Int.natCast_add]
 ·have hne:i=m.length:=by omega
  subst hne
  have hTe:T m.length=prune f:=by rw[hT,←hl,zuk hl,hpr]
  simp[hTe]
end Go.Ev
/- Filters made shorter: all rounds. -/
namespace Go.Ev
open Go Go.RowKit
variable {G:Tbl}
noncomputable def optR(f:List In4)(t:List TR)(rnds tries most:Int):(List In4×List TR)×Nat×Bool :=
 zco (zaH tries 0 1000) (zaH most 0 32) (zaH rnds 0 1000).toNat (prune f) (goodT t)
theorem zno(t:List TR):tblB (goodT t)=true:=by
 unfold goodT
 split
 ·assumption
 ·rfl
theorem zo5{t:List TR}(h:tblB t=true)(hk:TblK t):zhM t:=by
 refine⟨by have:=(zmD h).2; omega,fun r hr=>?_⟩
 have hm:r.may=true:=by
  simp only[tblB,Bool.and_eq_true] at h
  exact List.all_eq_true.1 h.1.1 r hr
 obtain⟨h1,h2⟩:=zdW hm
 obtain⟨k1,k2,k3⟩:=hk r hr
 exact⟨Nat.le_trans h1 (by decide),Nat.le_trans h2 (by decide),k1,k2,k3⟩
theorem zwa{f:List In4}(hk:∀ x∈f,x.k<4294967296):∀ x∈prune f,x.k<4294967296:=by
 intro x hx
 obtain⟨y,h1,_,h2⟩:=zmA hx
 have:=hk y h1
 omega
theorem zpI[HasWd G][HasNeg G][HasIns G][HasCheck G][HasData G][HasWith G][HasStep G][HasWRight G][HasWinRun G][HasWinAsg G][HasWinState G][HasWinOf G][HasAffApart G][HasAffine G][hBA:HasBitsA G][HasSymNew G][HasSym G][HasSymEval G][HasSymApart G][HasDecDf G][HasDec G][HasSrcN G][HasSrcL G][HasSrcC G][HasSrcF G][HasTells G][HasLive G][HasSpl G][HasEnc G][HasTbl G][HasPru G][HasOpt G]
  (f:List In4) (t:List TR) (rnds tries most:Int) (hs:zap f=true) (hk:∀ x∈f,x.k<4294967296) (ht:zhM t) (htk:TblK (goodT t)) :
  FP G 365 [FL f,TF t,.agg [.int .i64 rnds,.int .i64 tries,.int .i64 most]] (.tup [.agg (ResC (optR f t rnds tries most).1.1 (optR f t rnds tries most).1.2 (optR f t rnds tries most).2.1 (optR f t rnds tries most).2.2),.int .i64 0]):=by
 refine zak HasOpt.h_opt_Optimize (Nat.le_of_ble_eq_true rfl) ?_
 have hL4:=zcy hs
 have hpr:=zun (G:=G) hs hk hL4
 obtain⟨p1,p2,_,_⟩:=zui hs
 have p3:=zwa hk
 have hfa:=zpi (G:=G) rnds tries most
 have hgd:=zqw (G:=G) t ht.1 ht.2
 have g1:=zno t
 obtain⟨tr,htr⟩:∃ tr,tr=zaH tries 0 1000:=⟨_,rfl⟩
 obtain⟨mo,hmo⟩:∃ mo,mo=zaH most 0 32:=⟨_,rfl⟩
 have hmo':0≤mo∧mo≤32:=by rw[hmo]; unfold zaH; omega
 obtain⟨R,hR⟩:∃ R:Nat,zaH rnds 0 1000=R:=⟨(zaH rnds 0 1000).toNat,by unfold zaH; omega⟩
 have hR1:R≤1000:=by
  have:zaH rnds 0 1000≤1000:=by unfold zaH; omega
  omega
 rw[optR,←htr,←hmo,hR,Int.toNat_natCast]
 rw[←htr,←hmo,hR] at hfa
 generalize prune f=F at *
 generalize goodT t=T at *
 obtain⟨Q,hQ⟩:∃ Q,Q=zco tr mo R F T:=⟨_,rfl⟩
 rw[←hQ]
 simp only[FL,TF] at hpr hgd
 simp[FL,TF]
 refine zab hpr ?_
 simp
 refine zab hfa ?_
 simp
 refine zab hgd ?_
 simp[zaa]
 refine zgU (S:=Nat×List In4×List TR) (fun s=>R-s.1) (fun s=>[(5,.ptr 0 0),(6,.ptr 1 0),(9,.ptr 2 0),(27,.int .i64 R),(28,.int .i64 s.1)])
  (fun s=>[some (.cells [.int .i64 R,.int .i64 tr,.int .i64 mo]),some (.cells [.vs [] .full,.vs [] .full,.int .i64 0,.bool false]),some (.cells (ResC s.2.1 s.2.2 s.1 false))])
  (fun s=>s.1≤R∧(zco tr mo (R-s.1) s.2.1 s.2.2).1=Q.1∧s.1+(zco tr mo (R-s.1) s.2.1 s.2.2).2.1=Q.2.1∧(zco tr mo (R-s.1) s.2.1 s.2.2).2.2=Q.2.2∧zap s.2.1=true∧(∀ x∈s.2.1,x.k<4294967296)∧TblK s.2.2∧tblB s.2.2=true) (0,F,T) ?_ ?_
 ·simp[zaa,zac,ResC,FL,TF,hQ,p1,htk,g1]
  exact p3
 rintro⟨i,f',t'⟩ ⟨hi,q1,q2,q3,s1,s2,s3,s4⟩
 simp only at hi q1 q2 q3 s1 s2 s3 s4 ⊢
 have hrd:=zl9 (G:=G) f' t' R tr mo s1 s2 (zo5 s4 s3) hmo'
 simp only[FL,TF] at hrd
 by_cases hlt:i<R
 ·obtain⟨k,hk'⟩:∃ k,R-i=k+1:=⟨R-i-1,by omega⟩
  rw[hk',zco] at q1 q2 q3
  have hlt':((i:Int)<(R:Int))=True:=eq_true (by omega)
  simp[hlt',ResC,FL,TF]
  refine zab hrd ?_
  cases hro:roundR f' t' tr mo with
  | none =>
   rw[hro] at q1 q2 q3
   simp only at q1 q2 q3
   simp[rndV,ResC,FL,TF,←q1,←q2,←q3]
  | some q =>
   rw[hro] at q1 q2 q3
   simp only at q1 q2 q3
   have kk:=zpc s1 s2 s3 hro
   simp[rndV,ResC,FL,TF]
   have a1:addI .i64 (i:Int) 1=((i+1:Nat):Int):=zag (by omega)
   have hRk:R-(i+1)=k:=by omega
   refine⟨(i+1,q.1,q.2),by simp only; omega,⟨by simp only; omega,by simp only[hRk]; exact q1,by simp only[hRk]; omega,by simp only[hRk]; exact q3,kk.sound,kk.k,kk.tk,kk.tbl s4⟩,?_,?_⟩
   ·rw[a1]; simp[zaa,-Int.natCast_add]
   ·rw[a1]; simp[zac,-Int.natCast_add]
 ·have hne:i=R:=by omega
  subst hne
  rw[Nat.sub_self,zco] at q1 q2 q3
  simp only at q1 q2 q3
  simp[ResC,FL,TF,←q1,←q2,←q3]
end Go.Ev
/- Layer 24: the smaller functions of its statements. -/
namespace Go.Ev
open Go Go.RowKit
variable {G:Tbl}
def zeN(t:List TR):Bool:=t.any (fun r=>decide (100<r.fr.length)||decide (100<r.to.length))||decide (100<t.length)
theorem zri[HasL21 G](t:List TR)(hl:t.length≤maxLen)(hk:∀ r∈t,r.fr.length≤maxLen∧r.to.length≤maxLen):FP G 375 [TF t] (.bool (zeN t)):=by
 refine zak HasL21.h_hurdlelaw21_Great (Nat.le_of_ble_eq_true rfl) ?_
 have hm:=hl
 simp only[maxLen] at hm
 simp[TF]
 refine W_up t.length (fun i=>[(0,TF t),(3,.int .i64 i)]) (fun _=>[]) (fun i=>∀ j<i,∀ r,t[j]?=some r→(decide (100<r.fr.length)||decide (100<r.to.length))=false) ?_ ?_
 ·simp[zaa,zac,TF]
 intro i hi hP
 by_cases hlt:i<t.length
 ·obtain⟨x,hfx⟩:∃ x,x=t[i]:=⟨_,rfl⟩
  have hg:t[i]?=some x:=by rw[hfx]; exact List.getElem?_eq_getElem hlt
  have hgg:=zdK hg
  have hte:(TL t)[i]'(by simpa using hlt)=x.cs:=by simp[TL,hfx]
  have hlt':((i:Int)<(t.length:Int))=True:=eq_true (by omega)
  have yes:(decide (100<x.fr.length)||decide (100<x.to.length))=true→zeN t=true:=fun h=>by
   rw[zeN,List.any_eq_true.2 ⟨x,List.mem_of_getElem? hg,h⟩]; rfl
  have next:(decide (100<x.fr.length)||decide (100<x.to.length))=false→∀ j<i+1,∀ r,t[j]?=some r→(decide (100<r.fr.length)||decide (100<r.to.length))=false:=fun hx j hj r hr=>by
   rcases Nat.lt_succ_iff_lt_or_eq.1 hj with h|rfl
   ·exact hP j h r hr
   ·rw[hg] at hr; cases hr; exact hx
  by_cases c1:100<x.fr.length
  ·have c1':((100:Int)<(x.fr.length:Int))=True:=eq_true (by omega)
   have hy:=yes (by simp[c1])
   simp(disch:=omega)[TF,hlt',hgg,hte,TR.cs,c1',hy]
  ·have c1':((100:Int)<(x.fr.length:Int))=False:=eq_false (by omega)
   by_cases c2:100<x.to.length
   ·have c2':((100:Int)<(x.to.length:Int))=True:=eq_true (by omega)
    have hy:=yes (by simp[c2])
    simp(disch:=omega)[TF,hlt',hgg,hte,TR.cs,c1',c2',hy]
   ·have c2':((100:Int)<(x.to.length:Int))=False:=eq_false (by omega)
    have hn:=next (by simp[c1,c2])
    simp(disch:=omega)[TF,hlt',hgg,hte,TR.cs,c1',c2',hlt,zag,zaa,zac,-Int.natCast_add]
    intro j hj r hr
    have:=hn j hj r hr
    simp only[Bool.or_eq_false_iff,decide_eq_false_iff_not] at this
    omega
 ·have hne:i=t.length:=by omega
  subst hne
  have hany:t.any (fun r=>decide (100<r.fr.length)||decide (100<r.to.length))=false:=by
   rw[List.any_eq_false]
   intro r hr
   obtain⟨j,hj⟩:=List.getElem?_of_mem hr
   rw[hP j (List.getElem?_eq_some_iff.1 hj).1 r hj]
   simp
  by_cases c:100<t.length
  ·have c':((100:Int)<(t.length:Int))=True:=eq_true (by omega)
   simp[TF,zeN,hany,c,c']
  ·have c':((100:Int)<(t.length:Int))=False:=eq_false (by omega)
   simp[TF,zeN,hany,c,c']
def zdV(f:List In4)(t:List TR)(a b c:Int):Bool:=decide (60<f.length)||zeN t||decide (8<a)||decide (40<b)||decide (5<c)
theorem zrj[HasL21 G][HasL24k G](f:List In4)(t:List TR)(a b c:Int)(hl:t.length≤maxLen)(hk:∀ r∈t,r.fr.length≤maxLen∧r.to.length≤maxLen) :
  FP G 378 [FL f,TF t,.agg [.int .i64 a,.int .i64 b,.int .i64 c]] (.bool (zdV f t a b c)):=by
 refine zak HasL24k.h_hurdlelaw24_Great (Nat.le_of_ble_eq_true rfl) ?_
 have hg:=zri (G:=G) t hl hk
 simp only[TF] at hg
 by_cases c1:60<f.length
 ·have c1':((60:Int)<(f.length:Int))=True:=eq_true (by omega)
  simp[FL,TF,c1,c1',zdV]
 ·have c1':((60:Int)<(f.length:Int))=False:=eq_false (by omega)
  simp[FL,TF,c1']
  refine zab hg ?_
  cases h2:zeN t with
  | true=>simp[zdV,c1,h2]
  | false =>
   by_cases c3:8<a
   ·simp[zdV,c1,h2,c3]
   ·by_cases c4:40<b
    ·simp[zdV,c1,h2,c3,c4]
    ·by_cases c5:5<c<;>simp[zdV,c1,h2,c3,c4,c5]
end Go.Ev
/- Layer 24: the law OptMeans. -/
namespace Go.Ev
open Go Go.RowKit
variable {G:Tbl}
theorem zwb{t:List TR}(h:∀ r∈t,r.ok):TblK t:=fun r hr=>⟨(h r hr).2.2.1,(h r hr).2.2.2.1,(h r hr).2.2.2.2⟩
theorem zsN{t:List TR}(h:TblK t):TblK (goodT t):=by
 unfold goodT
 split
 ·exact h
 ·intro r hr; cases hr
theorem zsO{f:List In4}{t:List TR}{a b c:Int}(h:zdV f t a b c=false):f.length≤60∧t.length≤100∧∀ r∈t,r.fr.length≤100∧r.to.length≤100:=by
 simp only[zdV,zeN,Bool.or_eq_false_iff,decide_eq_false_iff_not,List.any_eq_false] at h
 obtain⟨⟨⟨⟨h1,h2,h3⟩,_⟩,_⟩,_⟩:=h
 refine⟨by omega,by omega,fun r hr=>?_⟩
 have:=h2 r hr
 simp only[Bool.or_eq_true,decide_eq_true_eq,not_or] at this
 omega
end Go.Ev
/- Layer 24: the examples. -/
namespace Go.Ev
open Go Go.RowKit
variable {G:Tbl}
def nn:List In4:=[⟨132,0,0,0⟩,⟨132,0,0,0⟩]
def RA:In4:=⟨22,0,0,0⟩
def ex24:List In4:=nn++[RA]
theorem zsP:zap ex24=true:=by decide +kernel
theorem zxp:∀ x∈ex24,x.k<4294967296:=by decide
theorem nn_w:winB nn=true:=by decide +kernel
theorem zuo:AllP ex24:=by
 intro i h0 hi
 have:i=1∨i=2:=by simp[ex24,nn] at hi; omega
 rcases this with rfl|rfl
 ·exact⟨0,⟨132,0,0,0⟩,0,rfl,by decide,rfl⟩
 ·exact⟨1,⟨132,0,0,0⟩,0,rfl,by decide,rfl⟩
theorem zsQ:rows ex24 4 3=[(0,2)]:=by kernel_rfl
theorem zwc:rows [RA] 4 1=[]:=by kernel_rfl
theorem zsR:zkG ex24 0 2=1:=by kernel_rfl
theorem zup:putL ex24 0 2 []=[RA]:=by kernel_rfl
theorem zsS:zcX (winV [] nn).p (winV (winV [] nn).L []).p (winV [] nn).st (winV (winV [] nn).L []).st 1=true:=by kernel_rfl
theorem zsT:findR nn 1 9=some []:=by
 refine zxq (k:=0) (zu3 (by decide)) (by decide) ?_ fun j hj=>by omega
 have:=zuv (v:=nn) (w:=[]) (live:=1) nn_w (by decide +kernel)
 rw[zsS] at this
 simpa using this
def r24:TR:=⟨nn,[],1⟩
theorem zrk:zaD [] r24=([r24],0):=by kernel_rfl
theorem zuq:optR ex24 [] 9 9 4=(([RA],[r24]),1,true):=by
 have h1:roundR ex24 [] 9 4=some ([RA],[r24]):=by
  rw[roundR,show ex24.length=3 from rfl,zsQ]
  have hp:zb7 ex24 0 2=nn:=rfl
  have hf:zbk nn [] 1 9=some []:=by
   rw[zbk,show zed [] nn 1=none from rfl]
   exact zsT
  have ht:tryP ex24 [] 9 (0,2)=some ([RA],[r24]):=by
   rw[tryP,hp,zsR,hf,Option.map_some,zup]
   rw[show(⟨nn,[],1⟩:TR)=r24 from rfl,zrk]
  rw[List.findSome?_cons,ht]
 have h2:roundR [RA] [r24] 9 4=none:=by
  rw[roundR,show [RA].length=1 from rfl,zwc]; rfl
 rw[optR,zrh zsP zuo,show goodT []=[] from rfl,show zaH 9 0 1000=9 from rfl,show zaH 4 0 32=4 from rfl,show Int.toNat 9=8+1 from rfl,zco,h1]
 simp only[]
 rw[zco,h2]
theorem zrl[HasWd G][HasNeg G][HasIns G][HasCheck G][HasData G][HasWith G][HasStep G][HasWRight G][HasWinRun G][HasWinAsg G][HasWinState G][HasWinOf G][HasAffApart G][HasAffine G][hBA:HasBitsA G][HasSymNew G][HasSym G][HasSymEval G][HasSymApart G][HasDecDf G][HasDec G][HasSrcN G][HasSrcL G][HasSrcC G][HasSrcF G][HasTells G][HasLive G][HasSpl G][HasEnc G][HasTbl G][HasPru G][HasOpt G][HasL24k G]
  (p1:FP G 148 [.str [110,101,103,10,110,101,103,10,114,101,116,97,10]] (.tup [FL ex24,.int .i64 0,.int .i64 0])):FP G 379 [] (.bool true):=by
 refine zak HasL24k.h_hurdlelaw24_knows (Nat.le_of_ble_eq_true rfl) ?_
 have hop:=zpI (G:=G) ex24 [] 9 9 4 zsP zxp ⟨by decide,fun r hr=>by cases hr⟩ (fun r hr=>by cases hr)
 rw[zuq] at hop
 have hex:IL [RA]=[[.int .i64 22,.int .i64 0,.int .i64 0,.int .u32 0]]:=rfl
 have hae:=aeq4 RA RA
 simp only[decide_true,In4.cs,RA] at hae
 simp only[FL,TF,ResC,hex,show TL []=[] from rfl] at p1 hop
 simp
 refine zab p1 ?_
 simp
 refine zab hop ?_
 simp[zaa]
end Go.Ev
