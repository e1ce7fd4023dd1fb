/- Arguments of the statements: instructions, states, records. -/
import Derived.Test.YtbkhoemaobbplaaGreatDoorEvXW
import Derived.Test.YtbkhoemaobbplaaGreatDoorEvQW
import Derived.Test.YtbkhoemaobbplaaGreatDoorSymTW
import Derived.Test.YtbkhoemaobbplaaGreatDoorParMW
import Derived.Test.YtbkhoemaobbplaaGreatDoorTabPW
set_option linter.defProp false
set_option linter.unusedSimpArgs false
set_option linter.unusedVariables false
set_option maxHeartbeats 16000000
set_option maxRecDepth 10000
open List renaming getElem?_eq_getElem->aaa,take_of_length_le->aae,mem_of_getElem?->aaf,mem_singleton->aai,getElem?_eq_some_iff->aaj,mem_append->aak,mem_cons->aao,mem_map->aap,cons->aas
open Int renaming natCast_add->aab,toNat_of_nonneg->aah
open Nat renaming le_of_ble_eq_true->aan,zero_le->aaq
namespace Go.Ev
open Go Go.RowKit
def Hm(n:Int):Prop:=-9223372036854775808<=n/\n<=9223372036854775807
def af.ok(x:af):Prop:=(Hm x.op/\Hm x.jt/\Hm x.jf)/\x.k<4294967296
def Vl{k:IntKind}{cs:List V}(h:ij (.int k) cs):∃n,cs=[.int k n]/\(Lit.int k n).wf=true:=by simpa only[ij] using h
def zAj{n:Int}(h:(Lit.int .u64 n).wf=true):0<=n/\n<18446744073709551616:=by simp[Lit.wf,IntKind.min,IntKind.max,IntKind.signed,IntKind.bits] at h;omega
def ztj:∀{l:List Int},(∀n∈l,(Lit.int .u64 n).wf=true)->∃t:List Nat,l=t.map (fun(x:Nat)=>(x:Int))/\∀x∈t,x<18446744073709551616
 | [],_=>⟨[],rfl,ir⟩
 | n::l,h=>by
  obtain⟨t,rfl,b⟩:=ztj (l:=l) λx a=>h x (by simp[a]);have:=zAj (h n ir);refine⟨n.toNat::t,by simp[aah this.1],λx a=>?_⟩;simp only[aao] at a
  rcases a with rfl|a
  .omega
  .exact b x a
def zpK:∀t:List Nat,(ints .u64 (t.map fun(x:Nat)=>(x:Int))).flatten=ax .u64 t
 | []=>rfl
 | x::t=>by
  have:=zpK t;simp only[ints,ax,List.map_cons,List.flatten_cons] at this |-;rw[this];rfl
def zw9{n:Nat}{cs:List V}(h:ij (.arr n (.int .u64)) cs):∃t:List Nat,cs=ax .u64 t/\t.length=n/\∀x∈t,x<18446744073709551616:=by simp only[ij] at h;obtain⟨f,rfl,a,b⟩:=h;obtain⟨l,rfl,c⟩:=zxU (k:=.u64) (λx d=>by simpa only[ij] using b x d);obtain⟨t,rfl,e⟩:=ztj c;exact⟨t,zpK t,by simpa using a,e⟩
def zu6{cs:List V}(h:ij (.int .u32) cs):∃n:Nat,cs=[.int .u32 n]/\n<4294967296:=by obtain⟨n,rfl,a⟩:=Vl h;have:=zHW a;exact⟨n.toNat,by rw[aah this.1],an⟩
def zCW{cs:List V}(h:ij (.int .u64) cs):∃n:Nat,cs=[.int .u64 n]/\n<18446744073709551616:=by obtain⟨n,rfl,a⟩:=Vl h;have:=zAj a;exact⟨n.toNat,by rw[aah this.1],an⟩
def zHu{v:V}(h:Fu (.agg [.int .u32,.int .u32,.int .u64,.arr 6 (.int .u64)]) v):∃d:Da,v=DV d/\d.ok:=by unfold Fu at h;obtain⟨s,rfl,h⟩:=h;unfold ij u4 at h;obtain⟨a,b,rfl,e,h⟩:=h;unfold u4 at h;obtain⟨c,d,rfl,i,h⟩:=h;unfold u4 at h;obtain⟨c',d',rfl,j,h⟩:=h;unfold u4 at h;obtain⟨f,g,rfl,k,h⟩:=h;unfold u4 at h;subst h;obtain⟨n1,rfl,l⟩:=zu6 e;obtain⟨m,rfl,n⟩:=zu6 i;obtain⟨o,rfl,p⟩:=zCW j;obtain⟨t,rfl,q,r⟩:=zw9 k;exact⟨⟨n1,m,o,t⟩,by simp[DV,Da.cs],l,n,p,q,r⟩
def zFL{v:V}(h:Fu (.agg [.int .i64,.int .i64,.int .i64]) v):∃a b c:Int,v=.agg [.int .i64 a,.int .i64 b,.int .i64 c]:=by unfold Fu at h;obtain⟨f,rfl,h⟩:=h;simp only[ij,u4] at h;obtain⟨a,_,rfl,⟨n1,rfl,g⟩,b,_,rfl,⟨d,rfl,i⟩,c,_,rfl,⟨e,rfl,j⟩,rfl⟩:=h;exact⟨n1,d,e,rfl⟩
def zFM{v:V}(h:Fu .str v):∃s:List UInt8,v=.str s:=by have h:ij .str [v]:=h;rw[ij] at h;obtain⟨s,a,_⟩:=h;simp only[aas.injEq,and_true] at a;exact⟨s,a⟩
def zFN{n:Int}(h:(Lit.int .u8 n).wf=true):0<=n/\n<256:=by simp[Lit.wf,IntKind.min,IntKind.max,IntKind.signed,IntKind.bits] at h;omega
def ztk:∀{es:List (List V)},(∀x∈es,ij (.int .u8) x)->∃b:List Nat,es=aq .u8 b/\∀x∈b,x<256
 | [],_=>⟨[],rfl,ir⟩
 | e::es,h=>by
  obtain⟨n,rfl,c⟩:=Vl (h e ir);obtain⟨f,g⟩:=zFN c;obtain⟨b,rfl,d⟩:=ztk (es:=es) λy a=>h y (by simp[a]);refine⟨n.toNat::b,by simp[aq];omega,λy a=>?_⟩
  rcases aao.1 a with rfl|a
  .omega
  .exact d y a
def zCX{v:V}(h:Fu (.sl (.int .u8)) v):∃b:List Nat,v=.vs (aq .u8 b) .no/\∀x∈b,x<256:=by have h:ij (.sl (.int .u8)) [v]:=h;rw[ij] at h;obtain⟨e,a,f,c⟩:=h;obtain⟨b,rfl,d⟩:=ztk c;simp only[aas.injEq,and_true] at a;exact⟨b,a,d⟩
variable {G:aL}
def DL(l:List Da):List (List V):=l.map Da.cs
@[simp] theorem zNA (l:List Da):(DL l).length=l.length:=by simp[DL]
theorem zHv{l:List Da}{i:Nat}{x:Da}(h:l[i]?=some x):(DL l)[i]?=some x.cs:=by simp[DL,h]
def zxM(l:List Da)(x:Da):DL l++[x.cs]=DL (l++[x]):=by simp[DL]
def Da.fi{d:Da}(h:d.ok):d.cs.length=9:=by simp[Da.cs,h.2.2.2.1]
def Vm{l:List Da}(h:∀y∈l,y.ok):(∀f∈DL l,f.length=9)=True:=eq_true λf a=>by
 simp only[DL,aap] at a;obtain⟨x,b,rfl⟩:=a;exact Da.fi (h x b)
def Da.oi(d:Da)(n v:Nat):Da:={ d with args:=d.args.set n v }
def Vn{d:Da}(h:d.ok)(n:Nat){v:Nat}(b:v<18446744073709551616):(d.oi n v).ok:=by
 obtain⟨c,e,f,g,i⟩:=h;refine⟨c,e,f,by simp[Da.oi,g],λw a=>?_⟩
 rcases List.mem_or_eq_of_mem_set a with a|rfl
 .exact i w a
 .exact b
def zFO{d:Da}{n v:Nat}:d.cs.set (3+n) (.int .u64 v)=(d.oi n v).cs:=by rw[Nat.add_comm];simp[Da.cs,Da.oi,ax,List.map_set]
def Vo{d:Da}(h:d.ok){n v:Nat}(a:n<=5):d.cs.take (3+n)++V.int .u64 (v:Int)::d.cs.drop (3+n+1)=(d.oi n v).cs:=by rw[<-zFO,List.set_eq_take_append_cons_drop,if_pos (by rw[Da.fi h];omega)]
def My(z:Int):∃x:Nat,x<18446744073709551616/\IntKind.u64.wrap z=(x:Int):=by refine⟨(z%18446744073709551616).toNat,an,?_⟩;rw[IntKind.wrap,show IntKind.u64.signed=false from rfl];simp[IntKind.bits];omega
structure Vp where
 i:Nat
 l:List Da
 all:Da
def zCY[qN G](r:Ru)(D:r.wf)(hc:r.conds.length<=20)(d:Da)(hd:d.ok):∃v,FP G 441 [.agg r.cs,DV d] v/\∃l:List Da,v=.vs (DL l) .no/\(∀y∈l,y.ok)/\l.length<=1000:=by
 refine DA qN.ad7 (aan rfl) ?_;have p:∀{d:Da},d.ok->d.cs.take 9=d.cs:=λh=>aae (by rw[Da.fi h];exact Nat.le_refl _);obtain⟨a,U⟩:∃a:Da,a={ d with aA:=r.aA,nr:=r.nr }:=⟨_,rfl⟩
 have m:a.ok:=by rw[U];exact⟨D.2.2.2.1,D.2.2.1,hd.2.2.1,hd.2.2.2.1,hd.2.2.2.2⟩
 have e1:(V.int .u32 d.nr)::.int .u32 (r.aA:Int)::(d.cs.drop 2)=({ d with aA:=r.aA }:Da).cs:=rfl;have Fv:d.cs=.int .u32 (d.nr:Int)::.int .u32 (d.aA:Int)::.int .u64 (d.ip:Int)::ax .u64 d.args:=rfl
 have Vq:V.int .u32 (r.nr:Int)::.int .u32 (r.aA:Int)::.int .u64 (d.ip:Int)::ax .u64 d.args=a.cs:=by rw[U];rfl
 have dR:=hd.2.2.2.1;simp[Ru.cs,DV,Fv,dR,Vq];have W:=Da.fi m;have q:=p m
 have pure:∀d:Da,(∀x∈d.cs,x.pure=true)=True:=λd=>eq_true λx X=>by
  simp only[Da.cs,ax,aao,aap] at X
  rcases X with rfl|rfl|rfl|⟨w,_,rfl⟩<;>rfl
 have c:∀(d:Da) n,aZ n d.cs=d.cs:=λd n=>by rw[g9];simp[Da.cs,ax,V.cl,Function.comp_def]
 simp[W,q,pure]
 refine u5 (λs:Vp=>r.conds.length-s.i) (λs=>[(2,.ptr 0 0),(3,.ptr 1 0),(5,.vs (DL s.l) (.own 3)),(6,.ptr 2 0),(7,.int .i64 s.i)])
  (λs=>[some (.cells r.cs),some (.cells a.cs),some (.cells s.all.cs),some (.zone s.l.length)]) (λs=>s.i<=r.conds.length/\s.l.length<=1+6*s.i/\(∀y∈s.l,y.ok)/\s.all.ok) ⟨0,[a],a⟩ ?_ ?_
 .refine⟨⟨aaq _,ir,by simpa using m,m⟩,?_⟩;simp[av,ak,Ru.cs,DL,c]
 rintro⟨i,l,b⟩ ⟨hi,Hn,o,e⟩;simp only at hi Hn o e |-
 by_cases k:i<r.conds.length
 .obtain⟨y,hy⟩:=bb (r.conds[i])
  have Y:r.conds[i]?=some y:=by rw[aaa k,hy]
  have u:=Mz Y
  have Z:(CL r.conds)[i]'(by simpa using k)=y.cs:=by rw[aaa (by simpa using k)] at u;exact Option.some.inj u
  simp only[Cd.cs] at u Z;have J_:=D.2.1 y (aaf Y);simp(disch:=omega)[bC,lf,u,Z,Ru.cs,k]
  by_cases b1:y.arg<0
  .simp(disch:=omega)[b1,av,ak,Ru.cs,c,bA,-aab];exact⟨⟨i+1,l,b⟩,by simp only;omega,⟨k,by simp only;omega,o,e⟩,by simp[av],by simp[ak,c,Ru.cs,ay.cl,aZ,V.cl,Tk.cl]⟩
  .by_cases b2:5<y.arg
   .simp(disch:=omega)[b1,b2,av,ak,Ru.cs,c,bA,-aab];exact⟨⟨i+1,l,b⟩,by simp only;omega,⟨k,by simp only;omega,o,e⟩,by simp[av],by simp[ak,c,Ru.cs,ay.cl,aZ,V.cl,Tk.cl]⟩
   .obtain⟨n,A⟩:∃n:Nat,y.arg=n:=⟨y.arg.toNat,an⟩
    have E:n<=5:=an
    have F:(5<(n:Int))=False:=ah8;have H:((n:Int)<0)=False:=ah8;simp(disch:=omega)[A,F,H]
    refine u5 (λs:Nat×List Da=>3-s.1) (λs=>[(2,.ptr 0 0),(3,.ptr 1 0),(5,.vs (DL s.2) (.own 3)),(6,.ptr 2 0),(7,.int .i64 i),(8,.ptr 4 0),(9,.int .u64 s.1)])
     (λs=>[some (.cells r.cs),some (.cells a.cs),some (.cells b.cs),some (.zone s.2.length),some (.cells y.cs)]) (λs=>s.1<=3/\s.2.length<=l.length+2*s.1/\(∀y∈s.2,y.ok)) (0,l) ?_ ?_
    .refine⟨⟨aaq _,ir,o⟩,?_⟩;simp[av,ak,Ru.cs,Cd.cs,c,A]
    rintro⟨j,f⟩ ⟨hj,fA,B⟩;simp only at hj fA B |-
    by_cases Vr:j<3
    .obtain⟨I,Ka,aU⟩:=My ((y.val:Int)+j);obtain⟨g,qO,J⟩:=My ((I:Int)-1);obtain⟨K,ha,L⟩:=My ((j:Int)-1);obtain⟨M,hb,N⟩:=My ((K:Int)*4294967296);obtain⟨C,O,P⟩:=My ((y.val:Int)+M);have a1:aC .u64 y.val (j:Int)=(I:Int):=aU;have a2:bO .u64 I 1=(g:Int):=J;have a3:bO .u64 j 1=(K:Int):=L;have a4:dS .u64 K 4294967296=(M:Int):=N;have a5:aC .u64 y.val (M:Int)=(C:Int):=P
     have t:=Vn m n qO;have Q:=Vn t n O;have Vs:((j:Int)<3)=True:=ah7;have R:(3+n<=8)=True:=ah7;have q1:=Vo m (v:=g) E;have q2:=Vo t (v:=C) E;have L1:=Da.fi t;have L2:=Da.fi Q;have T1:=p t;have T2:=p Q;have S:((f.length+1)*64<=140737488355328)=True:=ah7;have ue:((f.length+1+1)*64<=140737488355328)=True:=ah7
     have MA:∀z∈f++[a.oi n g],z.ok:=λz hz=>by
      rcases aak.1 hz with hz|hz
      .exact B z hz
      .rw[aai] at hz;rw[hz];exact t
     have Vu:∀z∈(f++[a.oi n g])++[(a.oi n g).oi n C],z.ok:=λz hz=>by
      rcases aak.1 hz with hz|hz
      .exact MA z hz
      .rw[aai] at hz;rw[hz];exact Q
     have aj:aC .u64 j 1=((j+1:Nat):Int):=IntWalk.u64_in _ ⟨an,an⟩
     have DC:(DL (f++[a.oi n g])).length=f.length+1:=by simp
     simp(disch:=omega)[Vs,W,q,Cd.cs,A,a1,a2,bC,R,q1,q2,L1,L2,T1,T2,pure,Vm B,Vm MA,S,ue,zxM,a3,a4,a5,aj,-aab];exact⟨(j+1,f++[a.oi n g,(a.oi n g).oi n C]),by simp only;omega,⟨by simp only;omega,by simp;omega,λz hz=>Vu z (by rw[List.append_assoc];exact hz)⟩,by simp[av],by simp[ak,c,Ru.cs,ay.cl,aZ,V.cl,Tk.cl]⟩
    .have:j=3:=an
     subst this;have q1:=Vo e (v:=y.val) E;have L0:=Da.fi e;have R:(3+n<=8)=True:=ah7;have QQ:=p e;simp(disch:=omega)[L0,Cd.cs,A,q1,R,bC,av,ak,c,Ru.cs,bA,-aab];exact⟨⟨i+1,f,b.oi n y.val⟩,by simp only;omega,⟨k,by simp only at fA |-;omega,B,Vn e n J_.2⟩,by simp[av],by simp[ak,c,Ru.cs,ay.cl,aZ,V.cl,Tk.cl]⟩
 .have:i=r.conds.length:=an
  subst this;have T:=Da.fi e;have Vv:=p e;have S:((l.length+1)*64<=140737488355328)=True:=ah7;simp(disch:=omega)[kD,av,ak,Ru.cs,c,T,Vv,pure,Vm o,S,zxM]
  exact⟨l++[b],rfl,λz hz=>by
   rcases aak.1 hz with hz|hz
   .exact o z hz
   .rw[aai] at hz;rw[hz];exact e,by simp;omega⟩
def zxa[dT G][dy G][aE G][aD G][bQ G][dx G][cW G][aQ G][cY G][cZ G][bY G][cu G][bS G][au G][CB:dU G][cB G][aN G][de G][bZ G][cQ G][eT G][ga G][fI G][fJ G][iQ G][dh G][fK G][eJ G][ej G][cS G][gP G][fj G]
  [fB G][bW G][kE G][bI G][eO G][dV G][di G][eC G][fk G][cT G][c_ G][gg G][dQ G][bD G][jV G]
  [jM G][fq G][dB G][iu G][eD G][jW G][g7 G][q8 G][uf G][lE G][lG G][eE G][tu G][DD:mO G][mZ G][jN G][pE G][q9 G][ug G][qN G][ui G]
  (t:FP G 484 [] (.bool true)) (S:List UInt8) (b:List Nat) (x y z:Int) (d:Da) (A:∀w∈b,w<256) (hd:d.ok):FP G 525 [.str S,.vs (aq .u8 b) .no,.agg (iv x y z),DV d] (.bool true):=by
 refine bw ui.ad8 (aan rfl) ?_;have N:=zAg (G:=G) S (aq .u8 b) x y z;rw[zpS] at N;have mP:=MB hd;have AG:=aae (i:=9) (l:=d.cs) an;have B:=Kb;have h:=DE;simp[iv,DV];refine aw N ?_
 cases hg:Fw S b.length x y z with
 | true =>
  simp;refine aw t ?_
  simp
 | false =>
 obtain⟨l1,l2,_⟩:=zFg hg;have c:=zsj (G:=G) S b x y z an A an;have j:=zsh (G:=G) S an;rw[zAh] at j;unfold DF at c
 by_cases f:(eo S).2.2=0
 rotate_left
 .rw[if_neg f,MC,iv] at c
  have C:(((eo S).2.2:Int) !=0)=true:=by simp;omega
  generalize(eo S).2.1=o at *;generalize(eo S).2.2=k at *;simp;refine aw c ?_;simp;refine aw j ?_;simp[C];refine aw t ?_;simp
 .rw[if_pos f] at c;obtain⟨m,Vw⟩:=Vx x y z A f;obtain⟨O,q⟩:=Kc f;obtain⟨a1,_⟩:=QR q O;have P:=λe he=>(Vy x y z A f e he).1;obtain⟨_,MD,R⟩:=QV q O
  have C:(((eo S).2.2:Int) !=0)=false:=by rw[f];rfl
  generalize rb S b x y z=Q at *;have D:=zA8 (G:=G) Q.1.1 (by simp only[maxLen];omega) m.k;rw[m.sound] at D;simp only[FL,Hp,iv] at c D;obtain⟨p,hp⟩:=bb (jd S);have E:=zHp (S:=S);rw[<-hp] at j q MD R P E;generalize(eo S).2.1=o at *;generalize(eo S).2.2=k at *;simp;refine aw c ?_;simp;refine aw j ?_;simp[C];refine aw D ?_;simp;obtain⟨a,r⟩:∃a:List V,a=[.vs (IL Q.1.1) .no,.vs (aq .u8 (ml Q.1.1)) .no,.vs (aq .u8 (AH Q.1.2)) .no,.int .i64 (Q.2.1:Nat),.bool Q.2.2]:=⟨_,rfl⟩
  have F:∀n,aZ n a=a:=λn=>by rw[r];simp[aZ,V.cl,Tk.cl]
  have H:a.length=5:=by rw[r];rfl
  have I:a.take 1=[.vs (IL Q.1.1) .no]:=by rw[r];rfl
  refine aO p.rules.length (λi=>[(7,.ptr 1 0),(9,.ptr 2 0),(12,.ptr 3 0),(15,.int .i64 i)]) (λ_=>[some (.cells (iv x y z)),some (.cells d.cs),some (.cells a),some (.cells p.cs)]) (λ_=>True) ?_ ?_
  .refine⟨trivial,?_,?_⟩
   .simp[av]
   .simp[ak,Po.cs,iv,r,ay.cl,aZ,V.cl,Tk.cl,h]
  have g:ak 4 [some (.cells (iv x y z)),some (.cells d.cs),some (.cells a),some (.cells p.cs)]=[some (.cells (iv x y z)),some (.cells d.cs),some (.cells a),some (.cells p.cs)]:=by simp[ak,Po.cs,iv,ay.cl,F,h,aZ,V.cl,Tk.cl]
  intro i hi _
  by_cases T:i<p.rules.length
  .obtain⟨u,U⟩:∃u,p.rules[i]?=some u:=⟨_,aaa T⟩;have J:=Ke U;have gh:=(aaj.1 J).2;have W:=aaf U;obtain⟨v,X,L,rfl,hL,QY⟩:=zCY (G:=G) u (q.2.1 u W) (by have:=R u W;omega) d hd;simp only[Ru.cs,DV] at X J gh;simp(disch:=omega)[bC,J,Po.cs,mP,AG,B,h];refine aw X ?_;simp;refine aO L.length (λk=>[(7,.ptr 1 0),(9,.ptr 2 0),(12,.ptr 3 0),(15,.int .i64 i),(16,.vs (DL L) .no),(17,.int .i64 k)]) (λ_=>[some (.cells (iv x y z)),some (.cells d.cs),some (.cells a),some (.cells p.cs)]) (λ_=>True) ?_ ?_
   .simp only[Po.cs] at g;simp[av,Po.cs,g]
   intro k hk _
   by_cases Y:k<L.length
   .obtain⟨y,Z⟩:∃y,L[k]?=some y:=⟨_,aaa Y⟩;have K:=zHv Z;have lD:=(aaj.1 K).2;have s:=hL y (aaf Z);have sH:=Da.fi s;have zi:y.cs.take 9=y.cs:=aae an;have M:=zGU (G:=G) Q.1.1 y m.k m.sound s;rw[P y s] at M;have w6:=zEf (G:=G) p E.1 E.2 y s;simp only[FL,DV,Po.cs] at M w6;simp(disch:=omega)[bC,K,sH,zi,B,h,H,I];refine aw M ?_;simp(disch:=omega)[K,sH,zi,B,h,Po.cs]
    refine aw w6 ?_;simp only[Po.cs] at g;simp(disch:=omega)[av,bA,Y,g,-aab]
   .have:k=L.length:=an
    subst this;simp only[Po.cs] at g;simp(disch:=omega)[av,Po.cs,bA,T,g,-aab]
  .have:i=p.rules.length:=an
   subst this;simp(disch:=omega)[Po.cs];refine aw t ?_;simp
end Go.Ev
