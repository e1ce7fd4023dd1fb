/- Arguments of the statements: instructions, states, records. -/
import Derived.Test.YtbkhoemaobbplaaGreatDoorEvXW
import Derived.Test.YtbkhoemaobbplaaGreatDoorEvQW
import Derived.Test.YtbkhoemaobbplaaGreatDoorDecAW
import Derived.Test.YtbkhoemaobbplaaGreatDoorTabQW
set_option linter.defProp false
set_option linter.unusedSimpArgs false
set_option linter.unusedVariables false
set_option maxHeartbeats 16000000
set_option maxRecDepth 10000
open Nat renaming le_of_ble_eq_true→aaa,mod_eq_of_lt→aaq
open List renaming getElem?_eq_some_iff→aab,take_of_length_le→aad,mem_of_getElem?→aae,getElem?_eq_getElem→aah,drop_eq_getElem_cons→aam,mem_cons→aau,cons→aav
open Int renaming toNat_of_nonneg→aal,natCast_add→aat
open Bool renaming beq_eq_decide_eq→aan
open BitVec renaming toNat_ofNat→aap
namespace Go.Ev
open Go Go.RowKit
def GM(n:Int):Prop:=-9223372036854775808<=n/\n<=9223372036854775807
def af.ok(x:af):Prop:=(GM x.op/\GM x.jt/\GM x.jf)/\x.k<4294967296
def Ug{k:IntKind}{cs:List V}(h:g_ (.int k) cs):∃ n,cs=[.int k n]/\(Lit.int k n).wf=true:=by simpa only[g_] using h
def zzj{n:Int}(h:(Lit.int .u64 n).wf=true):0<=n/\n<18446744073709551616:=by simp[Lit.wf,IntKind.min,IntKind.max,IntKind.signed,IntKind.bits] at h;omega
def zsC:∀{l:List Int},(∀ n∈l,(Lit.int .u64 n).wf=true)->∃ t:List Nat,l=t.map (fun(x:Nat)=>(x:Int))/\∀ x∈t,x<18446744073709551616
 | [],_=>⟨[],rfl,ir⟩
 | n::l,h=>by
  obtain⟨t,rfl,b⟩:=zsC (l:=l) fun x a=>h x (by simp[a]);have:=zzj (h n ir);refine⟨n.toNat::t,by simp[aal this.1],fun x a=>?_⟩;simp only[aau] at a
  rcases a with rfl|a
  ·omega
  ·exact b x a
def zpe:∀ t:List Nat,(ints .u64 (t.map fun(x:Nat)=>(x:Int))).flatten=au .u64 t
 | []=>rfl
 | x::t=>by
  have:=zpe t;simp only[ints,au,List.map_cons,List.flatten_cons] at this |-;rw[this];rfl
def zwc{n:Nat}{cs:List V}(h:g_ (.arr n (.int .u64)) cs):∃ t:List Nat,cs=au .u64 t/\t.length=n/\∀ x∈t,x<18446744073709551616:=by simp only[g_] at h;obtain⟨f,rfl,a,b⟩:=h;obtain⟨l,rfl,c⟩:=zxb (k:=.u64) (fun x d=>by simpa only[g_] using b x d);obtain⟨t,rfl,e⟩:=zsC c;exact⟨t,zpe t,by simpa using a,e⟩
def zuj{cs:List V}(h:g_ (.int .u32) cs):∃ n:Nat,cs=[.int .u32 (n:Int)]/\n<4294967296:=by obtain⟨n,rfl,a⟩:=Ug h;have:=zGN a;exact⟨n.toNat,by rw[aal this.1],an⟩
def zBQ{cs:List V}(h:g_ (.int .u64) cs):∃ n:Nat,cs=[.int .u64 (n:Int)]/\n<18446744073709551616:=by obtain⟨n,rfl,a⟩:=Ug h;have:=zzj a;exact⟨n.toNat,by rw[aal this.1],an⟩
def zGh{v:V}(h:E0 (.agg [.int .u32,.int .u32,.int .u64,.arr 6 (.int .u64)]) v):∃ d:Da,v=DV d/\d.ok:=by unfold E0 at h;obtain⟨s,rfl,h⟩:=h;unfold g_ uz at h;obtain⟨a,b,rfl,e,h⟩:=h;unfold uz at h;obtain⟨c,d,rfl,i,h⟩:=h;unfold uz at h;obtain⟨c',d',rfl,j,h⟩:=h;unfold uz at h;obtain⟨f,g,rfl,k,h⟩:=h;unfold uz at h;subst h;obtain⟨n1,rfl,l⟩:=zuj e;obtain⟨m,rfl,n⟩:=zuj i;obtain⟨o,rfl,p⟩:=zBQ j;obtain⟨t,rfl,q,r⟩:=zwc k;exact⟨⟨n1,m,o,t⟩,by simp[DV,Da.cs],l,n,p,q,r⟩
def zED{v:V}(h:E0 (.agg [.int .i64,.int .i64,.int .i64]) v):∃ a b c:Int,v=.agg [.int .i64 a,.int .i64 b,.int .i64 c]:=by unfold E0 at h;obtain⟨f,rfl,h⟩:=h;simp only[g_,uz] at h;obtain⟨a,_,rfl,⟨n1,rfl,g⟩,b,_,rfl,⟨d,rfl,i⟩,c,_,rfl,⟨e,rfl,j⟩,rfl⟩:=h;exact⟨n1,d,e,rfl⟩
def zEE{v:V}(h:E0 .str v):∃ s:List UInt8,v=.str s:=by have h:g_ .str [v]:=h;rw[g_] at h;obtain⟨s,a,_⟩:=h;simp only[aav.injEq,and_true] at a;exact⟨s,a⟩
def zEF{n:Int}(h:(Lit.int .u8 n).wf=true):0<=n/\n<256:=by simp[Lit.wf,IntKind.min,IntKind.max,IntKind.signed,IntKind.bits] at h;omega
def zsD:∀{es:List (List V)},(∀ x∈es,g_ (.int .u8) x)->∃ b:List Nat,es=ak .u8 b/\∀ x∈b,x<256
 | [],_=>⟨[],rfl,ir⟩
 | e::es,h=>by
  obtain⟨n,rfl,c⟩:=Ug (h e ir);obtain⟨f,g⟩:=zEF c;obtain⟨b,rfl,d⟩:=zsD (es:=es) fun y a=>h y (by simp[a]);refine⟨n.toNat::b,by simp[ak];omega,fun y a=>?_⟩
  rcases aau.1 a with rfl|a
  ·omega
  ·exact d y a
def zBR{v:V}(h:E0 (.sl (.int .u8)) v):∃ b:List Nat,v=.vs (ak .u8 b) .no/\∀ x∈b,x<256:=by have h:g_ (.sl (.int .u8)) [v]:=h;rw[g_] at h;obtain⟨e,a,f,c⟩:=h;obtain⟨b,rfl,d⟩:=zsD c;simp only[aav.injEq,and_true] at a;exact⟨b,a,d⟩
variable {G:aM}
def Uh{a b:Nat}(c:a<18446744073709551616)(d:b<18446744073709551616):iZ .u64 (a:Int) (b:Int)=((a &&& b:Nat):Int):=by unfold iZ;rw[qp,qp,BitVec.toNat_and,aap,aap];simp only[IntKind.bits];rw[aaq (show a<2^64 from c),aaq (show b<2^64 from d)];exact IntWalk.u64_in _ ⟨an,by have:=@Nat.and_le_left a b;omega⟩
def zHF[bp G](c:Int)(d:0<=c/\c<=5)(a b:Nat)(H:ae):bA G (.F (397+c.toNat) [.int .u64 a,.int .u64 b] H (.bool (jZ c a b)) H):=by
 have e:c=0\/c=1\/c=2\/c=3\/c=4\/c=5:=an
 rcases e with rfl|rfl|rfl|rfl|rfl|rfl
 ·refine ee bp.ac4 (aaa rfl) ?_;simp[jZ,aan]
 ·refine ee bp.ac5 (aaa rfl) ?_
  have:((a:Int) !=(b:Int))=!decide (a=b):=by rw[bne,aan];congr 1;simp
  simp[jZ,this]
 ·refine ee bp.ac6 (aaa rfl) ?_;simp[jZ]
 ·refine ee bp.ac7 (aaa rfl) ?_;simp[jZ]
 ·refine ee bp.ac8 (aaa rfl) ?_;simp[jZ]
 ·refine ee bp.ac9 (aaa rfl) ?_;simp[jZ]
def zzk[cM G][bp G][gH G](c:Cd)(o:c.ok)(d:Da)(hd:d.ok):FP G 508 [.agg c.cs,DV d] (.bool (c.holds d)):=by
 refine bD gH.ada (aaa rfl) ?_;have p:=C9 hd;have dt:=aad (i:=9) (l:=d.cs) an;have E:=Cb d;have a:=Ui (G:=G) c;have q:=Uj (G:=G);simp only[Cd.cs] at a;simp[Cd.cs,DV];refine ax a ?_
 cases h:c.right with
 | false=>simp[Cd.holds,h]
 | true =>
  have b:=h;simp only[Cd.right,decide_eq_true_eq] at b;obtain⟨F,H,r,s⟩:=b;obtain⟨i,hi⟩:∃ i:Nat,c.arg=i:=⟨c.arg.toNat,an⟩;obtain⟨k,I⟩:∃ k:Nat,c.cmp=k:=⟨c.cmp.toNat,an⟩;obtain⟨w,f⟩:∃ w,w=d.args.getD i 0:=⟨_,rfl⟩;have J:d.args.length=6:=hd.2.2.2.1
  have g:d.args[i]?=some w:=by rw[f,List.getD_eq_getElem?_getD,aah an];rfl
  have t:w<18446744073709551616:=hd.2.2.2.2 w (aae g)
  have u:d.cs[3+i]?=some (.int .u64 (w:Int)):=by rw[show 3+i=i+1+1+1 by omega];simp only[Da.cs,List.getElem?_cons_succ];simp[au,g]
  have v:=(aab.1 u).2;have x:=Uh t o.1;have j:=zHF (G:=G) c.cmp ⟨r,s⟩ (w &&& c.mask) c.val
  have y:c.holds d=jZ c.cmp (w &&& c.mask) c.val:=by rw[Cd.holds,h,mc,hi,f];rfl
  rw[y];obtain⟨m,K⟩:∃ m,m=C_:=⟨_,rfl⟩
  have e:c.cmp=0\/c.cmp=1\/c.cmp=2\/c.cmp=3\/c.cmp=4\/c.cmp=5:=an
  have z:((i:Int)<6)=True:=eq_true an
  have A:i<6:=an
  simp;refine ax q ?_;have B:(3+i<=8)=True:=eq_true an
  have C:(d.cs.drop (3+i)).take 1=[.int .u64 (w:Int)]:=by rw[aam an,v];rfl
  have D:=fun n=>yK d n
  rcases e with e|e|e|e|e|e<;>(
   rw[e] at j;simp[e,C_,hi,z,B,C,p,x];refine kj (by simpa using j _) (by simp[aj,aw.cl,aX,V.cl,D]) ?_
   simp)
def zBS[cM G][bp G][gH G][km G](r:Ru)(z:r.conds.length<=maxLen/\∀ x∈r.conds,x.ok)(d:Da)(hd:d.ok):FP G 509 [.agg r.cs,DV d] (.bool (dM d r)):=by
 refine bD km.adb (aaa rfl) ?_;have c:=C9 hd;have dt:=aad (i:=9) (l:=d.cs) an;have A:=Cb d;have g:=fun n=>yK d n;have B:d.cs.tail.take 1=[.int .u32 (d.aA:Int)]:=rfl;have b:d.cs.take 1=[.int .u32 (d.nr:Int)]:=rfl;obtain⟨C,D⟩:=z;unfold maxLen at C;simp[Ru.cs,DV,B,c]
 by_cases h:r.aA=d.aA
 rotate_left
 ·have k:((r.aA:Int) !=(d.aA:Int))=true:=by simp;omega
  simp[k,dM,h]
 have k:((r.aA:Int) !=(d.aA:Int))=false:=by simp;omega
 by_cases q:r.nr=d.nr
 rotate_left
 ·have m:((r.nr:Int) !=(d.nr:Int))=true:=by simp;omega
  simp[m,b,c,dM,h,q]
 have m:((r.nr:Int) !=(d.nr:Int))=false:=by simp;omega
 have E:dM d r=Cd.ko d r.conds:=by simp[dM,h,q]
 rw[E];simp[k,m,b,c];refine aQ r.conds.length (fun i=>[(3,.ptr 1 0),(20,.vs (CL r.conds) .no),(21,.int .i64 r.conds.length),(22,.int .i64 i)]) (fun _=>[some (.cells r.cs),some (.cells d.cs)]) (fun i=>∀ j<i,∀ x,r.conds[j]?=some x->x.holds d=true) ?_ ?_
 ·simp[av,aj,Ru.cs,aw.cl,aX,V.cl,Tk.cl];simpa[aX] using g 2
 intro i hi s
 by_cases o:i<r.conds.length
 ·obtain⟨x,a⟩:∃ x,r.conds[i]?=some x:=⟨_,aah o⟩;have t:=LN a;have u:=(aab.1 t).2;have v:=zzk (G:=G) x (D x (aae a)) d hd;have F:((i:Int)<(r.conds.length:Int))=True:=eq_true an
  have H:aE .i64 (i:Int) 1=((i+1:Nat):Int):=by rw[ey]<;>omega
  simp only[Cd.cs,DV] at t u v;simp[F,o,u,c,dt,A,g];refine ax v ?_
  cases w:x.holds d with
  | false =>
   have:Cd.ko d r.conds=false:=by rw[Cd.ko,List.all_eq_false];exact⟨x,aae a,by simp[w]⟩
   simp[this]
  | true =>
   simp[H,o,av,aj,Ru.cs,aw.cl,aX,V.cl,Tk.cl,-aat];refine⟨?_,by simpa[aX] using g 2⟩;intro j f y p
   rcases Nat.eq_or_lt_of_le (Nat.le_of_lt_succ f) with e|e
   ·subst e;rw[a] at p;cases p;exact w
   ·exact s j e y p
 ·have I:i=r.conds.length:=an
  subst I
  have:Cd.ko d r.conds=true:=by rw[Cd.ko,List.all_eq_true];intro x a;obtain⟨j,f⟩:=List.getElem?_of_mem a;exact s j (aab.1 f).1 x f
  simp[this]
def zzl[eB G][bN G][i_ G][cM G][bp G][gH G][km G](p:Po)(b:p.wf)(e:vV p=true)(d:Da)(hd:d.ok) :
  FP G 511 [.agg p.cs,DV d] (.a_ [.int .i64 (match dI d p.rules with|some j=>(j:Int)|none=>-1),.int .i64 0]):=by
 refine bD km.ade (aaa rfl) ?_;have w:=C9 hd;have dt:=aad (i:=9) (l:=d.cs) an;have y:=Cb d;have m:=fun n=>yK d n;have f:=zpw (G:=G) p b.1 (fun r e=>⟨(b.2.1 r e).1,(b.2.1 r e).2.2.2.2⟩) b.2.2;rw[e] at f;have z:=b.1;unfold maxLen at z
 obtain⟨q,g⟩:∃ q:Option Nat->Int,∀ o,q o=match o with|some j=>(j:Int)|none=>-1:=⟨_,fun _=>rfl⟩
 rw[<-g]
 have A:∀(i:Nat) (x:Ru),p.rules[i]?=some x->bA G (.F 510 [.int .i64 i,.ptr 0 0,.ptr 1 0] [some (.cells p.cs),some (.cells d.cs)] (.bool (dM d x)) [some (.cells p.cs),some (.cells d.cs)]):=by intro i x c;refine ee km.adf (aaa rfl) ?_;have s:=zBS (G:=G) x ⟨(b.2.1 x (aae c)).1,(b.2.1 x (aae c)).2.1⟩ d hd;have t:=GO c;have u:=(aab.1 t).2;have hi:i<p.rules.length:=(aab.1 c).1;simp only[Ru.cs,DV] at s t u;simp[Po.cs,hi,u,w,dt,y,m];refine ax s ?_;simp
 have h:aj 2 [some (aw.cells p.cs),some (aw.cells d.cs)]=[some (aw.cells p.cs),some (aw.cells d.cs)]:=by simp[aj,Po.cs,aw.cl,aX,V.cl,Tk.cl];simpa[aX] using m 2
 simp only[Po.cs] at f;simp[Po.cs,DV];refine ax f ?_;simp
 refine aQ p.rules.length (fun i=>[(6,.fn 510 [.ptr 0 0,.ptr 1 0]),(14,.int .i64 p.rules.length),(15,.int .i64 i)]) (fun _=>[some (.cells p.cs),some (.cells d.cs)]) (fun i=>dI d p.rules=(dI d (p.rules.drop i)).map (·+i)) ?_ ?_
 ·refine⟨ir,?_,?_⟩
  ·simp[av]
  ·simpa[Po.cs] using h
 intro i hi a
 by_cases k:i<p.rules.length
 ·obtain⟨x,c⟩:∃ x,p.rules[i]?=some x:=⟨_,aah k⟩;have B:=A i x c;have C:((i:Int)<(p.rules.length:Int))=True:=eq_true an
  have D:aE .i64 (i:Int) 1=((i+1:Nat):Int):=by rw[ey]<;>omega
  obtain⟨_,E⟩:=aab.1 c;rw[aam k,E,dI] at a;simp[C];refine kj (by simpa using B) ir ?_;rw[show([some (aw.cells p.cs),some (aw.cells d.cs)]:ae).length=2 from rfl,h]
  cases v:dM d x with
  | true =>
   rw[v] at a;simp at a
   simp[g,a]
  | false =>
   rw[v] at a;simp[D,k,av,h,-aat];rw[a]
   cases dI d (p.rules.drop (i+1))<;>simp<;>omega
 ·have H:i=p.rules.length:=an
  subst H;rw[List.drop_length] at a
  have:dI d p.rules=none:=by rw[a];rfl
  simp[g,this]
def zzm[eB G][bN G][i_ G][cM G][bp G][gH G][km G](p:Po)(g:p.wf)(h:vV p=true)(d:Da)(hd:d.ok) :
  FP G 512 [.agg p.cs,DV d] (.a_ [.int .u32 (xK d p:Nat),.int .i64 0]):=by
 refine bD km.adg (aaa rfl) ?_;have k:=C9 hd;have dt:=aad (i:=9) (l:=d.cs) an;have m:=Cb d;have o:=fun n=>yK d n;have w:=zzl (G:=G) p g h d hd;simp only[Po.cs,DV] at w;simp[Po.cs,DV,m,k,dt,o];refine ax w ?_
 cases a:dI d p.rules with
 | none =>
  have:xK d p=p.cF:=by rw[xK,LO,a];rfl
  simp[this]
 | some j =>
  have b:=Uk d a;obtain⟨y,c⟩:∃ y,p.rules[j]?=some y:=⟨_,aah b⟩;have e:=GO c;have f:=(aab.1 e).2
  have:xK d p=y.act:=by rw[xK,LO,a];simp[c]
  have q:((j:Int)<0)=False:=eq_false an;simp only[Ru.cs] at e f;simp[this,q,b,f]
def zwO:∀(l:List (List UInt8)) (o:Nat) (rs:List Ru) (b:Option Nat),l≠[]->(rX o rs b l).2.1+1<=o+uA l
 | [],_,_,_,h=>absurd rfl h
 | w::r,o,rs,b,_=>by
  have c:o+1<=o+uA (w::r):=by simp only[uA];omega
  unfold rX;split
  ·split
   ·split
    ·exact c
    ·simp only[uA];omega
   ·exact c
  ·rename_i d;have a:=fun rs b=>zwO r (o+w.length+1) rs b d;simp only[uA];split
   ·simp only;omega
   ·split
    ·split
     ·simp only;omega
     ·have:=a (rs++[‹Ru›]) none;omega
    ·split
     ·rename_i v _;have:=a rs (some v);omega
     ·simp only;omega
def zBT(S:List UInt8):(dQ S).2.1<=S.length:=by have h:=zwO (gD 10 S) 0 [] none (Ad 10 S);rw[P_] at h;unfold dQ;omega
def zwd[dR G][dx G][az G][ay G][bQ G][dw G][cT G][aN G][cU G][cV G][bW G][cd G][bS G][ar G][I:dS G][cu G][aK G][cZ G][bX G][cN G][eS G][fT G][fE G][fF G][iJ G][dg G][fG G][eI G][ej G][cO G][gJ G][fi G]
  [eB G][bN G][i_ G][bF G][eK G][cM G][bp G][eC G][fj G][cP G][cW G][fU G][dP G][bx G][ig G][j0 G][qG G]
  [jE G][fk G][dy G][ij G][eD G][jO G][gV G][qH G][tv G][lu G][ly G][gH G][km G][tw G]
  (f:FP G 484 [] (.bool true)) (S:List UInt8) (b:List Nat) (x y z:Int) (d:Da) (g:∀ w∈b,w<256) (hd:d.ok):FP G 526 [.str S,.vs (ak .u8 b) .no,.agg (kp x y z),DV d] (.bool true):=by
 refine bD tw.adh (aaa rfl) ?_;have s:=zzg (G:=G) S (ak .u8 b) x y z;rw[Qa] at s;have h:=C9 hd;have dt:=aad (i:=9) (l:=d.cs) an;have j:=Cb d;have m:=fun n=>yK d n;simp[kp,DV];refine ax s ?_
 cases B:E1 S b.length x y z with
 | true =>
  simp;refine ax f ?_
  simp
 | false =>
 obtain⟨J,K,_⟩:=zD6 B;have a:=zrG (G:=G) S b x y z an g an;have p:=zrE (G:=G) S an;have t:=zDK (G:=G) (iK S) zx7.1 zx7.2 d hd;have L:=zBT S;rw[zzh] at p;unfold Db at a;simp only[Po.cs,DV] at t
 by_cases c:(dQ S).2.2=0
 rotate_left
 ·rw[if_neg c,LP,kp] at a
  have q:(((dQ S).2.2:Int) !=0)=true:=by simp;omega
  have C:((0:Int)<=((dQ S).2.1:Int))=True:=eq_true an;have D:(((dQ S).2.1:Int)<=(S.length:Int))=True:=eq_true an;generalize(dQ S).2.1=o at *;generalize(dQ S).2.2=k at *;simp;refine ax a ?_;simp;refine ax p ?_;simp[q,C,D];refine ax f ?_;simp
 ·rw[if_pos c] at a;obtain⟨e,M⟩:=Uo x y z g c;obtain⟨u,v⟩:=JA c;obtain⟨N,_⟩:=Qb v u;have E:=(Uq x y z g c d hd).1;have wd:=zzm (G:=G) (iK S) v u d hd;generalize qJ S b x y z=Q at *
  have F:∀ w∈Q.1.1,jX w=true:=fun w H=>by
   have:=e.sound;simp only[dB,Bool.and_eq_true] at this;exact Ur this.1.2 w H
  have A:=zzV (G:=G) Q.1.1 an e.k F;have r:=Us (G:=G) Q.1.1 d (by simp only[maxLen];omega) e.k e.sound hd;rw[E] at r
  have q:(((dQ S).2.2:Int) !=0)=false:=by rw[c];rfl
  simp only[FL,GQ,kp,DV,Po.cs] at a A r wd;simp;refine ax a ?_;simp;refine ax p ?_;simp[q];refine ax A ?_;simp[h,dt,j,m];refine ax r ?_;simp[h,dt,j,m];refine ax wd ?_;simp[h,dt,j,m];refine ax t ?_;simp;refine ax f ?_;simp
end Go.Ev
