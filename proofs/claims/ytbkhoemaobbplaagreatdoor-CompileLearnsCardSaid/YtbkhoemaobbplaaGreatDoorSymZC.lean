/- What was made as a sum, or as bits, is one in the book. -/
import Derived.Test.YtbkhoemaobbplaaGreatDoorSymUW
import Derived.Test.YtbkhoemaobbplaaGreatDoorEvMW
import Derived.Test.YtbkhoemaobbplaaGreatDoorEvWinCW
set_option linter.defProp false
set_option linter.unusedSimpArgs false
set_option linter.unusedVariables false
set_option maxHeartbeats 4000000
set_option maxRecDepth 10000
open List renaming getElem?_take->aab
open Int renaming toNat_natCast->aad
namespace Go.Ev
open Go Go.RowKit
variable {G:aP}
variable {L L':List Nd} {l:List Md}
inductive O7 (s:MS) (a:Md):Md->Int×List Nd->Prop
 | none {b p}:b.kind=4->O7 s a b p
 | con {b}:b.kind=0->b.c=a.c->O7 s a b (bc s.L (eP (a.c::aR 34)))
 | var {b}:b.kind=1->0<=b.i->b.i<34->O7 s a b (j5 s.L b.i)
 | alu {b}:b.kind=2->(dg b.op 0 1).2=true->uk s.made b.x=true->uk s.made b.y=true->O7 s a b (fN s.L b.op (uo s.ids b.x) (uo s.ids b.y))
 | neg {b}:b.kind=3->uk s.made b.x=true->O7 s a b (kX s.L (uo s.ids b.x))
def Gh.back{n:Nat}(h:Gh L' n)(e:L <+: L')(b:n<L.length):Gh L n:=by
 obtain⟨m,a,f,c,d⟩:=h
 obtain rfl:n=m:=by omega
 have:=JM e (iX b);rw[c] at this;cases this;exact⟨n,_,rfl,iX b,d⟩
def BC.back{n:Nat}{P:Int->Prop}(h:BC L' n P)(e:L <+: L')(b:n<L.length):BC L n P:=by
 obtain⟨m,a,p,f,c,d⟩:=h
 obtain rfl:n=m:=by omega
 have:=JM e (iX b);rw[c] at this;cases this;exact⟨n,_,p,rfl,iX b,d⟩
def ahead{s f:MS}{i:Nat}{x:Int}(b:MI (aR 34) s)(o:s.ids=f.ids.take i)(k:s.made=f.made.take i)(d:uk s.made x=true) :
  ∃n m:Nat,∃c,x=n/\n<i/\f.made[n]?=some c/\c.kind≠4/\f.ids[n]?=some (m:Int)/\uo s.ids x=m/\m<s.L.length:=by
 obtain⟨n,m,l,e,g,p,_⟩:=b.there d
 have a:n<i:=by rw[k,List.length_take] at e;omega
 obtain⟨c,h⟩:∃c,s.made[n]?=some c:=⟨_,iX e⟩;obtain⟨y,j⟩:∃y,s.ids[n]?=some y:=⟨_,iX (by rw[b.len];exact e)⟩
 have q:y=m:=by rw[uo,l,if_pos ⟨an,by rw[b.len];omega⟩,aad,j] at g;exact g
 subst l;refine⟨n,m,c,rfl,a,?_,?_,?_,g,p⟩
 .rw[k,aab,if_pos a] at h;exact h
 .simp only[uk,aad,h,Bool.and_eq_true,decide_eq_true_eq] at d;exact d.2
 .rw[o,aab,if_pos a,q] at j;exact j
end Go.Ev
