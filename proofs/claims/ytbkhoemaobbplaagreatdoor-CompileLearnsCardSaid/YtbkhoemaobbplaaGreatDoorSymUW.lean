/- Values as they were made, and in the book. -/
import Derived.Test.YtbkhoemaobbplaaGreatDoorBitsEW
set_option linter.defProp false
set_option linter.unusedSimpArgs false
set_option linter.unusedVariables false
set_option maxHeartbeats 4000000
set_option maxRecDepth 10000
open List renaming getElem?_eq_some_iff->aab,reduceReplicate->aad,getElem?_append_left->aaf,getD_cons_succ->aah,getElem?_append_right->aai,getD_eq_getElem?_getD->aaj,mem_range->aan
open Int renaming toNat_natCast->aae,eq_ofNat_of_zero_le->aag
open Nat renaming le_of_ble_eq_true->aal,sub_self->aao
open Option renaming map->aam
namespace Go.Ev
open Go Go.RowKit
variable {L L':List Nd} {v:List Nat}
structure MI (v:List Nat) (s:MS):Prop where
 inv:Inv s.L
 len:s.ids.length=s.made.length
 ok:VM s.made
 rel:∀(i:Nat) (x:Int) (a:Md) (o:Option Nat),s.ids[i]?=some x->s.made[i]?=some a->(refs v s.made)[i]?=some o ->
  a.kind=4/\x=-1/\o=none\/a.kind≠4/\∃n:Nat,x=n/\n<s.L.length/\de v s.L n=o
def MI.there{s:MS}(h:MI v s){x:Int}(d:uk s.made x=true):∃n m:Nat,x=n/\n<s.made.length/\uo s.ids x=m/\m<s.L.length/\de v s.L m=(refs v s.made)[n]?.join:=by
 simp only[uk,Bool.and_eq_true,decide_eq_true_eq] at d;obtain⟨⟨e,j⟩,c⟩:=d;obtain⟨n,rfl⟩:=aag e
 have b:n<s.made.length:=an
 obtain⟨a,f⟩:∃a,s.made[n]?=some a:=⟨_,iX b⟩;obtain⟨y,g⟩:∃y,s.ids[n]?=some y:=⟨_,iX (by rw[h.len];exact b)⟩;obtain⟨o,i⟩:∃o,(refs v s.made)[n]?=some o:=⟨_,iX (by rw[VL];exact b)⟩;rw[aae,f] at c;simp at c
 rcases h.rel n y a o g f i with⟨k,_⟩|⟨_,m,l,p,q⟩
 .exact absurd k c
 .refine⟨n,m,rfl,b,?_,p,?_⟩
  .rw[uo,if_pos ⟨e,by rw[h.len];exact j⟩,aae,g,l];rfl
  .rw[q,i];rfl
def MI.pa{s:MS}(h:MI v s){x:Int}(e:uk s.made x=false):bO s.L (uo s.ids x)=false:=by
 rw[uo];split
 .rename_i i;obtain⟨n,rfl⟩:=aag i.1
  have b:n<s.made.length:=by rw[<-h.len];omega
  obtain⟨a,f⟩:∃a,s.made[n]?=some a:=⟨_,iX b⟩;obtain⟨y,g⟩:∃y,s.ids[n]?=some y:=⟨_,iX (by rw[h.len];exact b)⟩;obtain⟨o,j⟩:∃o,(refs v s.made)[n]?=some o:=⟨_,iX (by rw[VL];exact b)⟩
  have k:a.kind=4:=by
   have:a.kind≠4->uk s.made n=true:=λc=>by simp only[uk,aae,f];simp[c,b]
   by_cases c:a.kind=4
   .exact c
   .rw[this c] at e;cases e
  rcases h.rel n y a o g f j with⟨_,d,_⟩|⟨d,_⟩
  .rw[aae,g,d];rfl
  .exact absurd k d
 .rfl
def zE0{kind x y:Int}(h:¬((dg kind 0 1).2=true/\bO L x=true/\bO L y=true)):fN L kind x y=(-1,L):=by rw[fN,if_neg h]
def MI.step{s:MS}(h:MI v s)(B:v.length=34)(F:∀c∈v,c<4294967296){a:Md}(G:a.c<4294967296):MI v (E1 s a):=by
 have e:=zBu (s:=s) (a:=a) h.inv G;have Q:=h.len;have V:=VL (v:=v) s.made
 have g:∀o:Option Nat,Dh v (refs v s.made) (mP s.made a)=o ->
   ((mP s.made a).kind=4/\(vW s a).1=-1/\o=none\/(mP s.made a).kind≠4/\vX v (vW s a) o) ->
   ((mP s.made a).c<4294967296/\((mP s.made a).kind=0\/(mP s.made a).kind=1/\0<=(mP s.made a).i/\(mP s.made a).i<34\/(mP s.made a).kind=2/\0<=(mP s.made a).x/\(mP s.made a).x<s.made.length/\0<=(mP s.made a).y/\(mP s.made a).y<s.made.length\/(mP s.made a).kind=3/\0<=(mP s.made a).x/\(mP s.made a).x<s.made.length\/(mP s.made a).kind=4)) ->
   MI v (E1 s a):=λo W X Y=>by
  refine⟨e.inv,by simp[E1,Q],λi b k=>?_,λi x b w j k t=>?_⟩
  .simp only[E1] at k
   by_cases hi:i<s.made.length
   .rw[aaf hi] at k;exact h.ok i b k
   .have H:=(aab.1 k).1;simp at H
    obtain rfl:i=s.made.length:=by omega
    simp at k;subst k;exact Y
  .simp only[E1] at j k t |-;rw[zyW,W] at t
   by_cases hi:i<s.made.length
   .rw[aaf hi] at k;rw[aaf an] at j;rw[aaf an] at t
    rcases h.rel i x b w j k t with m|⟨m,n,A,C,I⟩
    .exact .inl m
    .exact .inr ⟨m,n,A,Nat.lt_of_lt_of_le C e.pre.length_le,by rw[<-I];exact Hg e C⟩
   .have H:=(aab.1 k).1;simp at H
    obtain rfl:i=s.made.length:=by omega
    simp at k;rw[aai an,Q,aao] at j;rw[aai an,V,aao] at t;simp at j t;subst k;subst j;subst t
    rcases X with m|⟨m,n,A,C,I⟩
    .exact .inl m
    .exact .inr ⟨m,n,A,C,I⟩
 have D:mP s.made a=Me->(vW s a).1=-1->MI v (E1 s a):=λm A=>by
  refine g none (by rw[m];rfl) (.inl ⟨by rw[m];rfl,A,rfl⟩) ⟨by rw[m];exact(by decide:(0:Nat)<4294967296),by rw[m];exact .inr (.inr (.inr (.inr rfl)))⟩
 by_cases l:a.kind=0
 .have f:mP s.made a=⟨0,0,0,0,0,a.c⟩:=by rw[mP,if_pos l]
  have p:vW s a=bc s.L (eP (a.c::aR 34)):=by rw[vW,if_pos l]
  refine g (some a.c) (by rw[f];rfl) (.inr ⟨by rw[f];simp,by rw[p];exact zsH h.inv B G⟩) ⟨by rw[f];exact G,by rw[f];exact .inl rfl⟩
 by_cases q:a.kind=1
 .have p:vW s a=j5 s.L a.i:=by rw[vW,if_neg l,if_pos q]
  by_cases hi:0<=a.i/\a.i<34
  .have f:mP s.made a=⟨1,a.i,0,0,0,0⟩:=by rw[mP,if_neg l,if_pos ⟨q,hi⟩]
   refine g (some (v[a.i.toNat]?.getD 0)) (by rw[f];rfl) (.inr ⟨by rw[f];simp,by rw[p];exact zD8 h.inv B F hi.1 hi.2⟩) ⟨by rw[f];exact(by decide:(0:Nat)<4294967296),by rw[f];exact .inr (.inl ⟨rfl,hi⟩)⟩
  .refine D ?_ (by rw[p,j5,if_neg hi]);rw[mP,if_neg l,if_neg (λd=>hi d.2),if_neg an,if_neg an]
 by_cases u:a.kind=2
 .have p:vW s a=fN s.L a.op (uo s.ids a.x) (uo s.ids a.y):=by rw[vW,if_neg l,if_neg q,if_pos u]
  by_cases J:(dg a.op 0 1).2=true/\uk s.made a.x=true/\uk s.made a.y=true
  .obtain⟨R,j,S⟩:=J
   have f:mP s.made a=⟨2,0,a.op,a.x,a.y,0⟩:=by rw[mP,if_neg l,if_neg (λd=>q d.1),if_pos ⟨u,R,j,S⟩]
   obtain⟨nx,Z,K,lx,z,M,N⟩:=h.there j;obtain⟨ny,my,ey,ly,O,P,vy⟩:=h.there S;have r:=zwQ (v:=v) (kind:=a.op) (x:=uo s.ids a.x) (y:=uo s.ids a.y) h.inv B F R (by rw[z];simp[bO];exact M) (by rw[O];simp[bO];exact P);rw[z,O,N,vy] at r;refine g (fT a.op (refs v s.made)[nx]?.join (refs v s.made)[ny]?.join) ?_ (.inr ⟨by rw[f];simp,by rw[p,z,O];exact r⟩) ⟨by rw[f];exact(by decide:(0:Nat)<4294967296),by rw[f];exact .inr (.inr (.inl ⟨rfl,by simp;omega,by simp;omega,by simp;omega,by simp;omega⟩))⟩
   rw[f,K,ey];rfl
  .refine D ?_ ?_
   .rw[mP,if_neg l,if_neg (λd=>q d.1),if_neg (λd=>J d.2),if_neg an]
   .rw[p,zE0];rintro⟨g1,T,U⟩;refine J ⟨g1,?_,?_⟩
    .cases e:uk s.made a.x with
     | true=>rfl
     | false=>rw[h.pa e] at T;cases T
    .cases e:uk s.made a.y with
     | true=>rfl
     | false=>rw[h.pa e] at U;cases U
 by_cases E:a.kind=3
 .have p:vW s a=kX s.L (uo s.ids a.x):=by rw[vW,if_neg l,if_neg q,if_neg u,if_pos E]
  cases j:uk s.made a.x with
  | true =>
   have f:mP s.made a=⟨3,0,0,a.x,0,0⟩:=by rw[mP,if_neg l,if_neg (λd=>q d.1),if_neg (λd=>u d.1),if_pos ⟨E,j⟩]
   obtain⟨nx,Z,K,lx,z,M,N⟩:=h.there j;have r:=zD9 (v:=v) (x:=uo s.ids a.x) h.inv B F (by rw[z];simp[bO];exact M);rw[z,N] at r;refine g (((refs v s.made)[nx]?.join).map rY) ?_ (.inr ⟨by rw[f];simp,by rw[p,z];exact r⟩) ⟨by rw[f];exact(by decide:(0:Nat)<4294967296),by rw[f];exact .inr (.inr (.inr (.inl ⟨rfl,by simp;omega,by simp;omega⟩)))⟩
   rw[f,K];rfl
  | false =>
   refine D ?_ ?_
   .rw[mP,if_neg l,if_neg (λd=>q d.1),if_neg (λd=>u d.1),if_neg (by simp[j])]
   .rw[p,kX,if_neg (by simp[h.pa j])]
 .refine D ?_ ?_
  .rw[mP,if_neg l,if_neg (λd=>q d.1),if_neg (λd=>u d.1),if_neg (λd=>E d.1)]
  .rw[vW,if_neg l,if_neg q,if_neg u,if_neg E]
def MI.zero:MI v ⟨[],[],[]⟩:=⟨Inv.nil,rfl,λi a h=>by simp at h,λi x a o h=>by simp at h⟩
def MI.all(b:v.length=34)(d:∀c∈v,c<4294967296):∀(l:List Md) {s:MS},MI v s->(∀a∈l,a.c<4294967296)->MI v (zD6 s l)
 | [],_,h,_=>h
 | a::l,s,h,e=>MI.all b d l (h.step b d (e a ir)) λx f=>e x (by simp[f])
variable {G:aP}
variable {H:ae} {b z m:Nat} {L:List Nd}
def O6(f g:List Nat):Option Nat:=(List.range 34).find? λi=>decide (f.getD (i+1) 0≠g.getD (i+1) 0)
def yo(f g:List Nat):List Nat×Bool:=if f.headD 0≠g.headD 0 then(aR 34,true) else match O6 f g with
 | some i=>((aR 34).set i 1,true)
 | none=>(aR 34,false)
def zyz(f g:List Nat):(yo f g).1.length=34:=by
 rw[yo];split
 .simp
 .split<;>simp
def zAE(f g:List Nat):∀x∈(yo f g).1,x<4294967296:=by
 rw[yo];split
 .exact wQ 34
 .split
  .intro x a
   rcases List.mem_or_eq_of_mem_set a with h|rfl
   .exact wQ 34 x h
   .decide
  .exact wQ 34
def zAF[bP G](f g:List Nat)(y:f.length=35)(z:g.length=35):FP G 255 [.agg (av .u32 f),.agg (av .u32 g)] (.bf [.agg (av .u32 (yo f g).1),.bool (yo f g).2]):=by
 refine bA bP.adQ (aal rfl) ?_
 obtain⟨c,t,rfl⟩:∃c t,f=c::t:=by cases f with|nil=>simp at y|cons c t=>exact⟨c,t,rfl⟩
 obtain⟨d,u,rfl⟩:∃c t,g=c::t:=by cases g with|nil=>simp at z|cons c t=>exact⟨c,t,rfl⟩
 have a:t.length=34:=by simpa using y
 have b:u.length=34:=by simpa using z
 have A:av .u32 (c::t)=.int .u32 (c:Int)::av .u32 t:=rfl;have hd:av .u32 (d::u)=.int .u32 (d:Int)::av .u32 u:=rfl;have F:=e_ (k:=.u32) a;have H:=e_ (k:=.u32) b
 have h:∀(i:Nat) (x:V) (l:List V),(x::l).drop (1+i)=l.drop i:=λi x l=>by rw[Nat.add_comm,List.drop_succ_cons]
 have o:(av .u32 (aR 34)).drop 34=[]:=rfl
 by_cases p:c=d
 case neg =>
  have K:((c:Int)==(d:Int))=false:=aL an
  have m:yo (c::t) (d::u)=(aR 34,true):=by simp[yo,p]
  simp[-aad,A,hd,a,b,o,m,jY,p]
 subst p
 have bne:((c:Int) !=(c:Int))=false:=by simp
 simp[-aad,A,hd,a,b,F]
 refine aN 34 (λi=>[(3,.ptr 1 0),(4,.ptr 2 0),(6,.ptr 3 0),(16,.agg (av .u32 t)),(17,.int .i64 i)])
  (λi=>[some (.cells (.int .u32 (c:Int)::av .u32 t)),some (.cells (.int .u32 (c:Int)::av .u32 u)),some (.cells (av .u32 (aR 34))),some (.cells (av .u32 (aR 34)))]) (λi=>∀j,j<i->t.getD j 0=u.getD j 0) ?_ ?_
 .simp[au,ak,a_,V.cl]
 intro i hi q
 by_cases r:i<34
 .have q1:=CR .u32 (iX (show i<t.length by omega));have B:=CR .u32 (iX (show i<u.length by omega))
  have C:t.getD i 0=t[i]'(by omega):=by rw[aaj,iX an];rfl
  have D:u.getD i 0=u[i]'(by omega):=by rw[aaj,iX an];rfl
  by_cases s:t[i]' an=u[i]' an
  .have I:∀j,j<i+1->t.getD j 0=u.getD j 0:=λj n=>by
    by_cases e:j=i
    .subst e;rw[C,D,s]
    .exact q j an
   simp(disch:=omega)[bC,leFn,aA,r,a,b,q1,B,h,s,bF,-Int.natCast_add,au,ak,a_,V.cl];simpa using I
  .have J:((t[i]'(by omega):Nat):Int)≠((u[i]'(by omega):Nat):Int):=an
   have v:O6 (c::t) (c::u)=some i:=by
    rw[O6,List.find?_range_eq_some];refine⟨?_,aan.2 r,λj n=>?_⟩
    .simp only[aah,C,D];simpa using s
    .have:=q j n;simp only[aah];simpa using this
   have m:yo (c::t) (c::u)=((aR 34).set i 1,true):=by simp[yo,v]
   have E:=xJ .u32 (aR 34) i 1 (by simpa using r);have w:(av .u32 ((aR 34).set i 1)).take 34=av .u32 ((aR 34).set i 1):=e_ ir;simp(disch:=omega)[-aad,bC,leFn,aA,a,b,q1,B,h,jY J,m,o];simp at E;simp(disch:=omega)[-aad,E,w]
 .obtain rfl:i=34:=by omega
  have v:O6 (c::t) (c::u)=none:=by rw[O6,List.find?_eq_none];intro j n;have:=q j (aan.1 n);simp only[aah];simpa using this
  have m:yo (c::t) (c::u)=(aR 34,false):=by simp[yo,v]
  simp[-aad,m,o]
def zAG(M:List Int)(p:Int->Bool):∀w∈iV M p,w<4294967296:=by
 intro w a;simp only[iV,List.mem_map] at a;obtain⟨i,_,rfl⟩:=a
 split<;>omega
def zyA(fv gv:List Int)(ft gt:List Nat):(xP fv gv ft gt).1.length=34:=by
 simp only[xP];split
 .split<;>simp[iV]
 .simp
def zAH(fv gv:List Int)(ft gt:List Nat):∀x∈(xP fv gv ft gt).1,x<4294967296:=by
 simp only[xP];split
 .split
  .exact zAG _ _
  .exact wQ 34
 .exact wQ 34
noncomputable def Eh(a c:Nd):List Nat×Bool:=if a.kind=0/\c.kind=0 then yo a.f c.f else match fR a,fR c with
 | some p,some q=>xP p.1 q.1 p.2 q.2
 | _,_=>(aR 34,false)
noncomputable def sW(L:List Nd)(x y:Int):List Nat×Bool:=if bO L x=true/\bO L y=true/\x≠y then(match L[x.toNat]?,L[y.toNat]? with
 | some a,some c=>Eh a c
 | _,_=>(aR 34,false)) else(aR 34,false)
def zxv(a c:Nd):(Eh a c).1.length=34/\∀x∈(Eh a c).1,x<4294967296:=by
 rw[Eh];split
 .exact⟨zyz _ _,zAE _ _⟩
 .split
  .exact⟨zyA _ _ _ _,zAH _ _ _ _⟩
  .exact⟨ir,wQ 34⟩
def zxw(L:List Nd)(x y:Int):(sW L x y).1.length=34/\∀c∈(sW L x y).1,c<4294967296:=by
 rw[sW];split
 .split
  .exact zxv _ _
  .exact⟨ir,wQ 34⟩
 .exact⟨ir,wQ 34⟩
def zGp{x y:Nat}{a c:Nd}(b:L[x]?=some a)(d:L[y]?=some c)(g:x≠y):sW L x y=Eh a c:=by have e:=(aab.1 b).1;have f:=(aab.1 d).1;rw[sW,if_pos ⟨by simp[bO];exact e,by simp[bO];exact f,an⟩,aae,aae,b,d]
def zE1[bP G][ar G][U:eg G][aM G][cd G](x y:Int)(h:Bk H b z m L)(hi:Inv L):SF G 277 [.ptr b 0,.int .i64 x,.int .i64 y] H (.bf [.agg (av .u32 (sW L x y).1),.bool (sW L x y).2]) H:=by
 haveI:bG G:=U.tobG
 refine j_ cd.adP (aal rfl) ?_;obtain⟨Z,i⟩:=ax (av .u32 (aR 34))
 have j:Z.length=34:=by rw[i];simp
 have l:Z.drop 34=[]:=List.drop_eq_nil_of_le an;have B:Z.take 34=Z:=List.take_of_length_le an
 have o:∀n,a_ n Z=Z:=λn=>by rw[i];simp
 have hb:∀n,aam (az.cl n) (some (.cells Z))=some (.cells Z):=λn=>by simp[az.cl,o]
 have t:Bk (H++[some (.cells Z),some (.cells Z)]) b z m L:=h.app λn=>by simp[az.cl,o]
 have u6:=t.shut.self;have s:=h.shut.back;simp at u6;simp[<-i,-aad];refine cN (GY x t) ?_
 cases hx:bO L x with
 | false =>
  have C:sW L x y=(aR 34,false):=by rw[sW,if_neg (by simp[hx])]
  simp[C,<-i,j,l,B,s,o]
 | true =>
  simp;refine cN (GY y t) ?_
  cases hy:bO L y with
  | false =>
   have C:sW L x y=(aR 34,false):=by rw[sW,if_neg (by simp[hy])]
   simp[C,<-i,j,l,B,s,o]
  | true =>
   by_cases V:x=y
   .subst V
    have C:sW L x x=(aR 34,false):=by rw[sW,if_neg ir]
    simp[C,<-i,j,l,B,s,o]
   have vI:(x==y)=false:=aL V
   obtain⟨sH,xW⟩:0<=x/\x<L.length:=by simpa[bO] using hx
   obtain⟨Dc,Aj⟩:0<=y/\y<L.length:=by simpa[bO] using hy
   obtain⟨K,rfl⟩:=aag sH;obtain⟨M,rfl⟩:=aag Dc;obtain⟨a,N⟩:∃a,L[K]?=some a:=⟨_,iX an⟩;obtain⟨c,O⟩:∃c,L[M]?=some c:=⟨_,iX an⟩;have v:=hi.cu _ _ N;have w:=hi.cu _ _ O;have C:sW L K M=Eh a c:=zGp N O (λe=>V (by rw[e]));have P:=zxv a c;rw[C];have qI:(av .u32 (aR 35)).drop 35=[]:=rfl;have ta:=e_ (k:=.u32) v.1.1;have tc:=e_ (k:=.u32) w.1.1
   have Q:∀r:ae,(∀n,r.map (aam (az.cl n))=r)->Bk (H++some (.cells Z)::some (.cells Z)::r) b z m L:=λr W=>h.app λn=>by simp[az.cl,o,W n]
   have T:∀r:ae,(∀n,r.map (aam (az.cl n))=r)->ak (H.length+(r.length+1+1)) (H++some (.cells Z)::some (.cells Z)::r)=H++some (.cells Z)::some (.cells Z)::r:=λr W=>by
    have:=(Q r W).shut.self;simpa using this
   simp[vI,-aad];refine cN (L4 K a (Q [none] λn=>by simp) N) ?_
   have s1:=T [some (.cells (av .u32 a.f))] λn=>by simp[az.cl]
   simp at s1;simp[v.1.1,qI];refine cN (L4 M c (Q [some (.cells (av .u32 a.f)),none] λn=>by simp[az.cl]) O) ?_
   have s2:=T [some (.cells (av .u32 a.f)),some (.cells (av .u32 c.f))] λn=>by simp[az.cl]
   simp at s2;simp[w.1.1,qI];obtain⟨A,D⟩:=ax (Eh a c);rw[<-D] at P |-;have X:=e_ (k:=.u32) P.1
   by_cases I:a.kind=0/\c.kind=0
   .have d:A=yo a.f c.f:=by rw[D,Eh,if_pos I]
    have hf:=zAF (G:=G) a.f c.f v.1.1 w.1.1;rw[<-d] at hf;simp[I.1,I.2,v.1.1,ta,w.1.1,tc];refine aw hf ?_;simp[P.1,X,j,l,s]
   .have P_:(decide (a.kind=0)&&decide (c.kind=0))=false:=by
     rw[Bool.and_eq_false_iff]
     by_cases J:a.kind=0
     .right;simpa using λt=>I ⟨J,t⟩
     .left;simpa using J
    have b1:=Q [some (.cells (av .u32 a.f)),some (.cells (av .u32 c.f)),none] λn=>by simp[az.cl]
    have b2:=Q [some (.cells (av .u32 a.f)),some (.cells (av .u32 c.f)),some (.cells (lV (fR a))),none] λn=>by simp[az.cl,JL]
    have s3:=T [some (.cells (av .u32 a.f)),some (.cells (av .u32 c.f)),some (.cells (lV (fR a)))] λn=>by simp[az.cl,JL]
    have s4:=T [some (.cells (av .u32 a.f)),some (.cells (av .u32 c.f)),some (.cells (lV (fR a))),some (.cells (lV (fR c)))] λn=>by simp[az.cl,JL]
    simp at s3 s4
    have g:∀(p q:Option (List Int×List Nat)),fR a=p->fR c=q->(p.isSome=true->q.isSome=true->∃Y q',p=some Y/\q=some q'/\A=xP Y.1 q'.1 Y.2 q'.2)/\((p.isSome&&q.isSome)=false->A=(aR 34,false)):=λp q ep eq=>by
     have d:=D;rw[Eh,if_neg I,ep,eq] at d
     cases p<;>cases q<;>simp at d |-<;>exact d
    by_cases J:a.kind=0
    .have t:¬c.kind=0:=λt=>I ⟨J,t⟩;simp[J];simp[t];refine cN (G3 K a b1 N v.2.1) ?_;simp[JJ,JK];refine cN (G3 M c b2 O w.2.1) ?_;simp[JJ,JK]
     cases u:fR a with
     | none =>
      have d:=(g _ _ u rfl).2 rfl
      simp[d,<-i,j,l,B,s,o]
     | some p =>
      cases E:fR c with
      | none =>
       have d:=(g _ _ u E).2 rfl
       simp[d,<-i,j,l,B,s,o]
      | some q =>
       obtain⟨_,_,e1,e2,d⟩:=(g _ _ u E).1 rfl rfl;cases e1;cases e2;obtain⟨R,xV⟩:=G1 v.2.1 u;obtain⟨S,G2⟩:=G1 w.2.1 E;have l1:=R.1;have l2:=S.1;have l3:=BT l1 R.2.1;have l4:=BT l2 S.2.1;have F:=zuc U p.1 q.1 p.2 q.2 an an an an xV G2;rw[<-d] at F;simp only[FV] at F;simp[lV];refine aw F ?_;simp[P.1,X,j,l,s]
    .simp[J];refine cN (G3 K a b1 N v.2.1) ?_;simp[JJ,JK];refine cN (G3 M c b2 O w.2.1) ?_;simp[JJ,JK]
     cases u:fR a with
     | none =>
      have d:=(g _ _ u rfl).2 rfl
      simp[d,<-i,j,l,B,s,o]
     | some p =>
      cases E:fR c with
      | none =>
       have d:=(g _ _ u E).2 rfl
       simp[d,<-i,j,l,B,s,o]
      | some q =>
       obtain⟨_,_,e1,e2,d⟩:=(g _ _ u E).1 rfl rfl;cases e1;cases e2;obtain⟨R,xV⟩:=G1 v.2.1 u;obtain⟨S,G2⟩:=G1 w.2.1 E;have l1:=R.1;have l2:=S.1;have l3:=BT l1 R.2.1;have l4:=BT l2 S.2.1;have F:=zuc U p.1 q.1 p.2 q.2 an an an an xV G2;rw[<-d] at F;simp only[FV] at F;simp[lV];refine aw F ?_;simp[P.1,X,j,l,s]
variable {L L' L5:List Nd}
def Nd.pl(a:Nd):Prop:=(a.kind=0->a=eP a.f)/\(a.kind=1->∃fv ft,a=u5 fv ft/\Right fv ft/\fv≠[]/\∀i,fv=[i]->ft≠[0,ones]/\ft≠[ones,0])
def xB(L L':List Nd):Prop:=∀a∈L',a∈L\/a.pl
def xB.refl:xB L L:=λa h=>.inl h
def xB.trans(h:xB L L')(k:xB L' L5):xB L L5:=λa c=>by
 rcases k a c with b|b
 .exact h a b
 .exact .inr b
def Pl(L:List Nd):Prop:=∀a∈L,a.pl
def Pl.nil:Pl []:=λa h=>by cases h
def Pl.grow(h:Pl L)(g:xB L L'):Pl L':=λa c=>by
 rcases g a c with b|b
 .exact h a b
 .exact b
def Inv.inj(h:Inv L){x y:Nat}{a:Nd}(i:L[x]?=some a)(j:L[y]?=some a):x=y:=by
 obtain⟨c,d⟩:=aab.1 i;obtain⟨e,f⟩:=aab.1 j;have g:=List.pairwise_iff_getElem.1 h.one
 rcases Nat.lt_trichotomy x y with b|b|b
 .exact absurd (d.trans f.symm) (g x y c e b)
 .exact b
 .exact absurd (f.trans d.symm) (g y x e c b)
def Gh(L:List Nd)(x:Int):Prop:=∃(n:Nat) (a:Nd),x=n/\L[n]?=some a/\a.kind=0
def BC(L:List Nd)(x:Int)(P:Int->Prop):Prop:=∃(n:Nat) (a:Nd) (p:List Int×List Nat),x=n/\L[n]?=some a/\fR a=some p/\∀v∈p.1,P v
def Gh.pre{x:Int}(h:Gh L x)(e:L <+: L'):Gh L' x:=by obtain⟨n,a,b,c,d⟩:=h;exact⟨n,a,b,JM e c,d⟩
def BC.pre{x:Int}{P:Int->Prop}(h:BC L x P)(e:L <+: L'):BC L' x P:=by obtain⟨n,a,p,b,c,d⟩:=h;exact⟨n,a,p,b,JM e c,d⟩
def BC.mono{x:Int}{P Q:Int->Prop}(h:BC L x P)(k:∀v,P v->Q v):BC L x Q:=by obtain⟨n,a,p,b,c,d,e⟩:=h;exact⟨n,a,p,b,c,d,λv f=>k v (e v f)⟩
def Gh.has{x:Int}(h:Gh L x):bO L x=true:=by obtain⟨n,a,rfl,b,_⟩:=h;simp[bO];exact(aab.1 b).1
def BC.has{x:Int}{P:Int->Prop}(h:BC L x P):bO L x=true:=by obtain⟨n,a,p,rfl,b,_⟩:=h;simp[bO];exact(aab.1 b).1
end Go.Ev
