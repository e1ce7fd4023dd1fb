/- Arguments of the statements: instructions, states, records. -/
import Derived.Test.YtbkhoemaobbplaaGreatDoorInsAW
import Derived.Test.YtbkhoemaobbplaaGreatDoorEvBitsCW
set_option linter.defProp false
set_option linter.unusedSimpArgs false
set_option linter.unusedVariables false
set_option maxRecDepth 10000
open Int renaming toNat_of_nonneg->aab
open List renaming mem_cons->aad
namespace Go.Ev
open Go Go.RowKit
def Ho(n:Int):Prop:=-9223372036854775808<=n/\n<=9223372036854775807
def af.ok(x:af):Prop:=(Ho x.op/\Ho x.jt/\Ho x.jf)/\x.k<4294967296
def U4{k:IntKind}{cs:List V}(h:ib (.int k) cs):∃n,cs=[.int k n]/\(Lit.int k n).wf=true:=by simpa only[ib] using h
def zAu{n:Int}(h:(Lit.int .u64 n).wf=true):0<=n/\n<18446744073709551616:=by simp[Lit.wf,IntKind.min,IntKind.max,IntKind.signed,IntKind.bits] at h;omega
def ztm:∀{l:List Int},(∀n∈l,(Lit.int .u64 n).wf=true)->∃t:List Nat,l=t.map (fun(x:Nat)=>(x:Int))/\∀x∈t,x<18446744073709551616
 | [],_=>⟨[],rfl,ir⟩
 | n::l,h=>by
  obtain⟨t,rfl,b⟩:=ztm (l:=l) λx a=>h x (by simp[a]);have:=zAu (h n ir);refine⟨n.toNat::t,by simp[aab this.1],λx a=>?_⟩;simp only[aad] at a
  rcases a with rfl|a
  .omega
  .exact b x a
def zpO:∀t:List Nat,(ints .u64 (t.map fun(x:Nat)=>(x:Int))).flatten=av .u64 t
 | []=>rfl
 | x::t=>by
  have:=zpO t;simp only[ints,av,List.map_cons,List.flatten_cons] at this |-;rw[this];rfl
def zxm{n:Nat}{cs:List V}(h:ib (.arr n (.int .u64)) cs):∃t:List Nat,cs=av .u64 t/\t.length=n/\∀x∈t,x<18446744073709551616:=by simp only[ib] at h;obtain⟨f,rfl,a,b⟩:=h;obtain⟨l,rfl,c⟩:=zya (k:=.u64) (λx d=>by simpa only[ib] using b x d);obtain⟨t,rfl,e⟩:=ztm c;exact⟨t,zpO t,by simpa using a,e⟩
def zu8{cs:List V}(h:ib (.int .u32) cs):∃n:Nat,cs=[.int .u32 (n:Int)]/\n<4294967296:=by obtain⟨n,rfl,a⟩:=U4 h;have:=zHw a;exact⟨n.toNat,by rw[aab this.1],an⟩
def zC1{cs:List V}(h:ib (.int .u64) cs):∃n:Nat,cs=[.int .u64 (n:Int)]/\n<18446744073709551616:=by obtain⟨n,rfl,a⟩:=U4 h;have:=zAu a;exact⟨n.toNat,by rw[aab this.1],an⟩
def zAv{v:V}(h:Fw (.agg [.int .u32,.int .u32,.int .u64,.arr 6 (.int .u64)]) v):∃d:Da,v=DV d/\d.ok:=by unfold Fw at h;obtain⟨s,rfl,h⟩:=h;unfold ib uR at h;obtain⟨a,b,rfl,e,h⟩:=h;unfold uR at h;obtain⟨c,d,rfl,i,h⟩:=h;unfold uR at h;obtain⟨c',d',rfl,j,h⟩:=h;unfold uR at h;obtain⟨f,g,rfl,k,h⟩:=h;unfold uR at h;subst h;obtain⟨n1,rfl,l⟩:=zu8 e;obtain⟨m,rfl,n⟩:=zu8 i;obtain⟨o,rfl,p⟩:=zC1 j;obtain⟨t,rfl,q,r⟩:=zxm k;exact⟨⟨n1,m,o,t⟩,by simp[DV,Da.cs],l,n,p,q,r⟩
def nZ(c:List af):Prop:=∀y∈c,y.op≠60
def U5{c:List af}{x:af}(h:x.op≠60)(b:nZ c):nZ (x::c):=λy a=>by
 rcases aad.1 a with rfl|a
 .exact h
 .exact b y a
def zxZ{c:List af}{t:Nat}(h:nZ c):nZ (bM c t):=by
 unfold bM;split
 .exact h
 .exact U5 (show(5:Int)≠60 by decide) h
def J4{c:List af}{op:Int}{k t f:Nat}(a:op≠60)(h:nZ c):nZ (fZ c op k t f):=U5 a (zxZ (zxZ h))
def Fx{c:List af}{op:Int}{k:Nat}(a:op≠60)(h:nZ c):nZ (bj c op k):=U5 a h
def zID(n:Int):j7 n≠60:=by rcases ye n with h|h|h<;>rw[h]<;>decide
def zFE{c:List af}{x:Cd}{t f:Nat}(h:nZ c):nZ (eN c x t f):=by
 have a:∀(x:Cd) (t f:Nat),nZ (bS c x t f):=λx t f=>Fx ag7 (Fx ag7 (J4 (zID _) h))
 have d:∀(x:Cd) (t f:Nat),nZ (qj c x t f):=λx t f=>by
  unfold qj;split
  .exact a x t f
  .exact J4 ag7 (a x t f)
 have b:∀(x:Cd) (t f:Nat),nZ (CB c x t f):=λx t f=>Fx ag7 (Fx ag7 (J4 ag7 (d x t f)));unfold eN;split
 .exact b _ _ _
 .exact b _ _ _
def zu9{o:Nat}:∀{l:List Cd} {s:pV},nZ s.1->nZ (zd o l s).1
 | [],s,h=>h
 | x::l,s,h=>zFE (zu9 h)
def zva:∀{l:List Ru} {s:pV},nZ s.1->nZ (mQ l s).1
 | [],s,h=>h
 | r::l,s,h=>zu9 (Fx ag7 (zva h))
def U6{o:Nat}:∀(n:Nat) {c:List af} {l:List (Nat×Nat)},nZ c->nZ (bx n c l o).1
 | 0,c,l,h=>h
 | n+1,c,l,h=>by
  unfold bx;split
  .exact J4 ag7 h
  .exact J4 ag7 (U6 n (U6 n h))
def zx0{R:Nat->List Ru}{o:Nat}:∀{l:List Nat} {c:List af},nZ c->nZ (bF R o l c).1
 | [],c,h=>h
 | n::l,c,h=>zx0 (l:=l) (zva h)
def zFF{rs:List Ru}{o a:Nat}{c:List af}(h:nZ c):nZ (rW rs o a c):=Fx ag7 (U6 _ (zx0 h))
def zvb{rs:List Ru}{o:Nat}:∀{l:List Nat} {c:List af},nZ c->nZ (iM rs o l c).1
 | [],c,h=>h
 | a::l,c,h=>zvb (l:=l) (zFF h)
def zvc:∀{l:List (Nat×Nat)} {s:pV},nZ s.1->nZ (cO l s).1
 | [],s,h=>h
 | x::l,s,h=>zvc (l:=l) (s:=(_,_)) (J4 ag7 h)
def zC2(p:Po):nZ (jw p):=by
 have b:nZ (bj [] 6 p.cC):=Fx ag7 (λy c=>by cases c);have a:=zvc (l:=(iM p.rules 1 (eD p.rules) (bj [] 6 p.cC)).2) (s:=((iM p.rules 1 (eD p.rules) (bj [] 6 p.cC)).1,1)) (zvb b);unfold jw;split
 .exact a
 .exact Fx ag7 a
end Go.Ev
