/- Canonical data of some shapes, as lists of numbers. -/
import Derived.Test.YtbkhoemaobbplaaGreatDoorEvLW
import Derived.LaidMore
import Derived.Stop.Joined
set_option linter.defProp false
set_option linter.unusedSimpArgs false
set_option linter.unusedVariables false
open Option renaming map_eq_some_iff->aaa,some->aab,bind_eq_some_iff->aae,bind_eq_bind->aaf,pure_def->aai
open Bool renaming and_eq_true->aah
open List renaming mapM_cons->aaj
namespace Go.Ev
open Go Go.RowKit
def zxU{k:IntKind}:∀{es:List (List V)},(∀x∈es,ij (.int k) x)->∃l,es=ints k l/\∀n∈l,(Lit.int k n).wf=true
 | [],_=>⟨[],rfl,ir⟩
 | e::es,h=>by
  obtain⟨l,rfl,a⟩:=zxU (es:=es) λx b=>h x (by simp[b]);have:=h e ir;simp only[ij] at this;obtain⟨n,rfl,c⟩:=this;exact⟨n::l,rfl,by simpa using⟨c,a⟩⟩
def zHW{n:Int}(h:(Lit.int .u32 n).wf=true):0<=n/\n<4294967296:=by simp[Lit.wf,IntKind.min,IntKind.max,IntKind.signed,IntKind.bits] at h;omega
def zF6{P:Program}{tys:List Ty}{ts:List TypeId}(h:(tys.zip ts).all (λx=>fV P x.2 x.1)=true):∀(i:Nat) (ty:Ty) (t:TypeId),tys[i]?=some ty->ts[i]?=some t->fV P t ty=true:=by intro i ty t a b;have c:(ty,t)∈tys.zip ts:=List.mem_of_getElem? (i:=i) (by rw[List.getElem?_zip_eq_some];exact⟨a,b⟩);exact(List.all_eq_true.1 h) _ c
variable {P:Program} {w:World} {fm:Fm}
def oF{H:Type}:Nat->DataW H->Option (List V)
 | _,.lit (.int k n)=>some [.int k n]
 | _,.lit (.bool b)=>some [.bool b]
 | _,.lit (.string s)=>some [.str s]
 | k+1,.agg ds=>(ds.mapM (oF k)).map List.flatten
 | _,_=>none
section
variable {H:Type} {enc:TypeId×Value->H} {sp:Nat->Bool} {hd:Bool}
mutual
def X5:∀{ty:Ty} {fuel k:Nat} {t:TypeId} {cs:List Value} {d:DataW H} {ps:List MemPlace} {vs:List V},fV P t ty=true->DataW.trod enc P w 0 sp hd fuel t cs=some (d,ps)->oF k d=some vs ->
  ai (M0 fm) w vs cs
 | ty,0,k,t,cs,d,ps,vs,_,h,_=>by simp[DataW.trod] at h
 | .int kd,fuel+1,k,t,cs,d,ps,vs,f,h,g=>by
  simp only[fV] at f;have j:=Kq f;unfold DataW.trod at h;rw[j] at h
  split at h<;>try (simp_all;done)
  rename_i M N n D;cases D;split at h
  case isFalse=>cases h
  rename_i z;obtain⟨rfl,z⟩:=z;cases h;simp only[oF,aab.injEq] at g;subst g
  simp[ai,ar]
 | .bool,fuel+1,k,t,cs,d,ps,vs,f,h,g=>by
  simp only[fV] at f;have j:=Rv f;unfold DataW.trod at h;rw[j] at h
  split at h<;>simp_all
  rename_i b;obtain⟨rfl,_⟩:=h;simp only[oF,aab.injEq] at g;subst g
  simp[ai,ar]
 | .str,fuel+1,k,t,cs,d,ps,vs,f,h,g=>by
  simp only[fV] at f;have j:=CG f;unfold DataW.trod at h;rw[j] at h
  split at h<;>simp_all
  rename_i s;obtain⟨_,rfl,_⟩:=h;simp only[oF,aab.injEq] at g;subst g
  simp[ai,ar]
 | .sl e,fuel+1,k,t,cs,d,ps,vs,f,h,g=>by
  simp only[fV] at f;split at f
  case h_2=>cases f
  rename_i A j;unfold DataW.trod at h;rw[j] at h
  split at h<;>try (simp_all;done)
  .cases h;cases k<;>simp[oF] at g
  .rename_i E a F G o;cases o;simp only at h;split at h
   case isFalse=>cases h
   rw[aae] at h;obtain⟨v,O,h⟩:=h;rw[aaa] at h;obtain⟨r,_,h⟩:=h
   cases h;cases k<;>simp[oF] at g
 | .agg Q,fuel+1,k,t,cs,d,ps,vs,f,h,g=>by
  simp only[fV] at f;split at f
  case h_2=>cases f
  rename_i gs j;unfold DataW.trod at h;rw[j] at h;simp only at h;split at h
  case isFalse=>cases h
  rename_i l;rw[aaa] at h;obtain⟨xs,q,h⟩:=h;cases h
  cases k with
  | zero=>simp[oF] at g
  | succ k =>
   simp only[oF] at g;rw[aaa] at g;obtain⟨I,u,rfl⟩:=g
   simpa using ztw (off:=0) f q l u
 | .arr n e,fuel+1,k,t,cs,d,ps,vs,f,h,g=>by
  simp only[fV] at f;split at f
  case h_2=>cases f
  rename_i m A j;simp only[aah,beq_iff_eq] at f;obtain⟨⟨rfl,J⟩,f⟩:=f;unfold DataW.trod at h;rw[j] at h;simp only at h;split at h
  case isFalse=>cases h
  rename_i l;rw[aaa] at h;obtain⟨xs,q,h⟩:=h;cases h
  cases k with
  | zero=>simp[oF] at g
  | succ k =>
   simp only[oF] at g;rw[aaa] at g;obtain⟨I,u,rfl⟩:=g;have K:=mapM_some_length q;have L:=mapM_some_length u;simp only[List.length_range,List.length_map] at K L;refine Xz (c:=P.cellsOf A) (by rw[l,J];congr 1;omega) λi x o=>?_
   have hi:i<m:=by have:=(List.getElem?_eq_some_iff.1 o).1;omega
   have B:=mapM_some_get q i i (by rw[List.getElem?_range hi])
   cases y:xs[i]? with
   | none=>rw[List.getElem?_eq_none_iff] at y;omega
   | some p =>
    rw[y] at B;obtain⟨d',R⟩:=p;have C:=mapM_some_get u i d' (by rw[List.getElem?_map,y];rfl);rw[o] at C;exact X5 f B C
def ztw:∀{fs:List Ty} {gs:List Field} {c off fuel k:Nat} {cs:List Value} {xs:List (DataW H×List MemPlace)} {es:List (List V)},Ao P c off gs fs=true ->
  (gs.mapM λf=>DataW.trod enc P w 0 sp hd fuel f.type ((cs.drop f.offset).take (P.cellsOf f.type)))=some xs->cs.length=c->(xs.map (·.1)).mapM (oF k)=some es ->
  ai (M0 fm) w es.flatten (cs.drop off)
 | [],[],c,off,fuel,k,cs,xs,es,b,h,i,e=>by
  simp only[Ao,beq_iff_eq] at b;simp at h;subst h;simp at e;subst e
  simp only[List.flatten_nil,ai];rw[List.drop_eq_nil_iff];omega
 | [],_::_,_,_,_,_,_,_,_,b,_,_,_=>by simp[Ao] at b
 | _::_,[],_,_,_,_,_,_,_,b,_,_,_=>by simp[Ao] at b
 | t::ts,g::gs,c,off,fuel,k,cs,xs,es,b,h,i,e=>by
  simp only[Ao,aah,beq_iff_eq] at b;obtain⟨⟨m,n⟩,b⟩:=b;rw[aaj] at h;simp only[aaf,aae] at h;obtain⟨x,o,u,q,h⟩:=h;simp only[aai,aab.injEq] at h;subst h;rw[List.map_cons,aaj] at e;simp only[aaf,aae] at e;obtain⟨a,r,v,s,e⟩:=e;simp only[aai,aab.injEq] at e;subst e;obtain⟨d,p⟩:=x;have j:=X5 n o r;have l:=ztw b q i s;rw[m] at j;rw[<-List.drop_drop] at l;rw[List.flatten_cons];exact Xx (k:=P.cellsOf g.type) j l
end
end
def zF7{n:String}{d:DataW Unit}{a:Nat}{e:TypeId}{ty:Ty}{cs:List V}(h:laidMetH P [(n,d)] w)(m:([(n,d)].all λx=>x.2.handleName?.isNone)=true)(f:P.globalNamed n=some a)(o:(P.globals[a]?).map (·.type)=some e)
  (r:fV P e ty=true) {k:Nat} (s:oF k d=some cs) (u:∀c∈cs,c.pure=true) (v:∀g c,fm.gl g=some c->g=a/\c=cs):CD (M0 fm) w:=by
 rw[MakeChecks.laidMetH_plain _ _ _ m] at h;obtain⟨K,⟨g,t,y,j,p,q,z,A,B,hd,_,_⟩,_,_⟩:=h;obtain rfl:=aab.inj (f.symm.trans z);obtain rfl:=aab.inj (o.symm.trans A);have C:=X5 (fm:=fm) r hd s;intro D c E;obtain⟨F,rfl⟩:=v D c E;rw[F];simp only[ar];refine⟨u,_,0,rfl,DG λi c' G=>?_⟩;obtain⟨x,H,b⟩:=ou C G;have I:=World.var?_cell f B i;refine⟨x,?_,λl J=>by simp[M0] at J,b⟩
 rw[Nat.zero_add,I];simpa using H
end Go.Ev
