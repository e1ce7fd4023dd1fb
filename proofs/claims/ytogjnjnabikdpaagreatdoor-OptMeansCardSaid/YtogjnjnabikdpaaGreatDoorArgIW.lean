/- Arguments of the statements: instructions, states, records. -/
import Derived.Test.YtogjnjnabikdpaaGreatDoorCheckAW
import Derived.Test.YtogjnjnabikdpaaGreatDoorEvSW
import Derived.Test.YtogjnjnabikdpaaGreatDoorOptMW
set_option linter.unusedSimpArgs false
set_option linter.unusedVariables false
namespace Go.Ev
open Go Go.RowKit
def i64R(n:Int):Prop:=-9223372036854775808≤n∧n≤9223372036854775807
def In4.ok(x:In4):Prop:=(i64R x.op∧i64R x.jt∧i64R x.jf)∧x.k<4294967296
theorem zn9{n:Int}(h:(Lit.int .i64 n).wf=true):i64R n:=by
 simp[Lit.wf,IntKind.min,IntKind.max,IntKind.signed,IntKind.bits] at h
 unfold i64R
 omega
theorem zmT{k:IntKind}{cs:List V}(h:zax (.int k) cs):∃ n,cs=[.int k n]∧(Lit.int k n).wf=true:=by simpa only[zax] using h
theorem zrQ{cs:List V}(h:zax (.agg [.int .i64,.int .i64,.int .i64,.int .u32]) cs):∃ x:In4,cs=x.cs∧x.ok:=by
 simp only[zax,zbi] at h
 obtain⟨a,_,rfl,⟨n1,rfl,w1⟩,b,_,rfl,⟨n2,rfl,w2⟩,c,_,rfl,⟨n3,rfl,w3⟩,d,_,rfl,⟨n4,rfl,w4⟩,rfl⟩:=h
 have w4:=zsy w4
 refine⟨⟨n1,n2,n3,n4.toNat⟩,?_,⟨zn9 w1,zn9 w2,zn9 w3⟩,by simp only; omega⟩
 simp[In4.cs,Int.toNat_of_nonneg w4.1]
theorem zrR{n:Int}(h:(Lit.int .u64 n).wf=true):0≤n∧n<18446744073709551616:=by
 simp[Lit.wf,IntKind.min,IntKind.max,IntKind.signed,IntKind.bits] at h
 omega
theorem zmU:∀{l:List Int},(∀ n∈l,(Lit.int .u64 n).wf=true)→∃ t:List Nat,l=t.map (fun(x:Nat)=>(x:Int))∧∀ x∈t,x<18446744073709551616
 | [],_=>⟨[],rfl,by simp⟩
 | n::l,h=>by
  obtain⟨t,rfl,ht⟩:=zmU (l:=l) fun x hx=>h x (by simp[hx])
  have:=zrR (h n (by simp))
  refine⟨n.toNat::t,by simp[Int.toNat_of_nonneg this.1],fun x hx=>?_⟩
  simp only[List.mem_cons] at hx
  rcases hx with rfl|hx
  ·omega
  ·exact ht x hx
theorem zkA:∀ t:List Nat,(ints .u64 (t.map fun(x:Nat)=>(x:Int))).flatten=zac .u64 t
 | []=>rfl
 | x::t=>by
  have:=zkA t
  simp only[ints,zac,List.map_cons,List.flatten_cons] at this ⊢
  rw[this]; rfl
theorem zpE{n:Nat}{cs:List V}(h:zax (.arr n (.int .u64)) cs):∃ t:List Nat,cs=zac .u64 t∧t.length=n∧∀ x∈t,x<18446744073709551616:=by
 simp only[zax] at h
 obtain⟨es,rfl,hl,he⟩:=h
 obtain⟨l,rfl,hw⟩:=zqi (k:=.u64) (fun x hx=>by simpa only[zax] using he x hx)
 obtain⟨t,rfl,ht⟩:=zmU hw
 exact⟨t,zkA t,by simpa using hl,ht⟩
theorem zkP{cs:List V}(h:zax (.int .u32) cs):∃ n:Nat,cs=[.int .u32 (n:Int)]∧n<4294967296:=by
 obtain⟨n,rfl,hw⟩:=zmT h
 have:=zsy hw
 exact⟨n.toNat,by rw[Int.toNat_of_nonneg this.1],by omega⟩
theorem ztJ{cs:List V}(h:zax (.int .u64) cs):∃ n:Nat,cs=[.int .u64 (n:Int)]∧n<18446744073709551616:=by
 obtain⟨n,rfl,hw⟩:=zmT h
 have:=zrR hw
 exact⟨n.toNat,by rw[Int.toNat_of_nonneg this.1],by omega⟩
theorem zw0{v:V}(h:zhA (.agg [.int .u32,.int .u32,.int .u64,.arr 6 (.int .u64)]) v):∃ d:Da,v=DV d∧d.ok:=by
 unfold zhA at h
 obtain⟨cs,rfl,h⟩:=h
 unfold zax zbi at h
 obtain⟨a,b,rfl,h1,h⟩:=h
 unfold zbi at h
 obtain⟨c,d,rfl,h2,h⟩:=h
 unfold zbi at h
 obtain⟨c',d',rfl,h2',h⟩:=h
 unfold zbi at h
 obtain⟨f,g,rfl,h3,h⟩:=h
 unfold zbi at h
 subst h
 obtain⟨n1,rfl,w1⟩:=zkP h1
 obtain⟨n2,rfl,w2⟩:=zkP h2
 obtain⟨n3,rfl,w3⟩:=ztJ h2'
 obtain⟨t,rfl,hl,ht⟩:=zpE h3
 exact⟨⟨n1,n2,n3,t⟩,by simp[DV,Da.cs],w1,w2,w3,hl,ht⟩
theorem zkQ:∀{es:List (List V)},(∀ x∈es,zax (.agg [.int .i64,.int .i64,.int .i64,.int .u32]) x)→∃ f:List In4,es=IL f∧∀ x∈f,x.ok
 | [],_=>⟨[],rfl,by simp⟩
 | e::es,h=>by
  obtain⟨x,rfl,hx⟩:=zrQ (h e (by simp))
  obtain⟨f,rfl,hf⟩:=zkQ (es:=es) fun y hy=>h y (by simp[hy])
  refine⟨x::f,by simp[IL],fun y hy=>?_⟩
  simp only[List.mem_cons] at hy
  rcases hy with rfl|hy
  ·exact hx
  ·exact hf y hy
theorem zvF{v:V}(h:zhA (.sl (.agg [.int .i64,.int .i64,.int .i64,.int .u32])) v):∃ f:List In4,v=FL f∧f.length≤maxLen∧∀ x∈f,x.ok:=by
 have h:zax (.sl (.agg [.int .i64,.int .i64,.int .i64,.int .u32])) [v]:=h
 rw[zax] at h
 obtain⟨es,hes,hl,he⟩:=h
 obtain⟨f,rfl,hf⟩:=zkQ he
 simp only[List.cons.injEq,and_true] at hes
 exact⟨f,by rw[hes]; rfl,by simpa using hl,hf⟩
end Go.Ev
/- Arguments of the statements: tables, budgets. -/
namespace Go.Ev
open Go Go.RowKit
theorem zmV{cs:List V}(h:zax (.sl (.agg [.int .i64,.int .i64,.int .i64,.int .u32])) cs):∃ f:List In4,cs=[FL f]∧f.length≤maxLen∧∀ x∈f,x.ok:=by
 rw[zax] at h
 obtain⟨es,hes,hl,he⟩:=h
 obtain⟨f,rfl,hf⟩:=zkQ he
 exact⟨f,hes,by simpa using hl,hf⟩
theorem zq3{cs:List V}(h:zax (.agg [.sl (.agg [.int .i64,.int .i64,.int .i64,.int .u32]),.sl (.agg [.int .i64,.int .i64,.int .i64,.int .u32]),.int .u32]) cs):∃ r:TR,cs=r.cs∧r.ok:=by
 unfold zax zbi at h
 obtain⟨a,b,rfl,h1,h⟩:=h
 unfold zbi at h
 obtain⟨c,d,rfl,h2,h⟩:=h
 unfold zbi at h
 obtain⟨f,g,rfl,h3,h⟩:=h
 unfold zbi at h
 subst h
 obtain⟨v,rfl,lv,kv⟩:=zmV h1
 obtain⟨w,rfl,lw,kw⟩:=zmV h2
 obtain⟨n,rfl,hn⟩:=zkP h3
 exact⟨⟨v,w,n⟩,rfl,lv,lw,fun x hx=>(kv x hx).2,fun x hx=>(kw x hx).2,hn⟩
theorem zoa:∀{es:List (List V)},(∀ x∈es,zax (.agg [.sl (.agg [.int .i64,.int .i64,.int .i64,.int .u32]),.sl (.agg [.int .i64,.int .i64,.int .i64,.int .u32]),.int .u32]) x)→∃ t:List TR,es=TL t∧∀ r∈t,r.ok
 | [],_=>⟨[],rfl,by simp⟩
 | e::es,h=>by
  obtain⟨x,rfl,hx⟩:=zq3 (h e (by simp))
  obtain⟨f,rfl,hf⟩:=zoa (es:=es) fun y hy=>h y (by simp[hy])
  refine⟨x::f,by simp[TL],fun y hy=>?_⟩
  simp only[List.mem_cons] at hy
  rcases hy with rfl|hy
  ·exact hx
  ·exact hf y hy
theorem zvG{v:V}(h:zhA (.sl (.agg [.sl (.agg [.int .i64,.int .i64,.int .i64,.int .u32]),.sl (.agg [.int .i64,.int .i64,.int .i64,.int .u32]),.int .u32])) v):∃ t:List TR,v=TF t∧t.length≤maxLen∧∀ r∈t,r.ok:=by
 have h:zax (.sl (.agg [.sl (.agg [.int .i64,.int .i64,.int .i64,.int .u32]),.sl (.agg [.int .i64,.int .i64,.int .i64,.int .u32]),.int .u32])) [v]:=h
 rw[zax] at h
 obtain⟨es,hes,hl,he⟩:=h
 obtain⟨t,rfl,ht⟩:=zoa he
 simp only[List.cons.injEq,and_true] at hes
 exact⟨t,by rw[hes]; rfl,by simpa using hl,ht⟩
theorem zvH{v:V}(h:zhA (.agg [.int .i64,.int .i64,.int .i64]) v):∃ a b c:Int,v=.agg [.int .i64 a,.int .i64 b,.int .i64 c]:=by
 unfold zhA at h
 obtain⟨cs,rfl,h⟩:=h
 simp only[zax,zbi] at h
 obtain⟨a,_,rfl,⟨n1,rfl,w1⟩,b,_,rfl,⟨n2,rfl,w2⟩,c,_,rfl,⟨n3,rfl,w3⟩,rfl⟩:=h
 exact⟨n1,n2,n3,rfl⟩
end Go.Ev
