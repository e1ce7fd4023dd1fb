/- Canonical data of some shapes, as lists of numbers. -/
import Derived.Test.YtbkhoemaobbplaaGreatDoorEvWinCW
import Derived.LaidMore
import Derived.Stop.Joined
set_option linter.defProp false
set_option linter.unusedSimpArgs false
set_option linter.unusedVariables false
open Option renaming map_eq_some_iff→aaa,some→aab,bind_eq_some_iff→aac,bind_eq_bind→aae,pure_def→aag
open Bool renaming and_eq_true→aaf
open List renaming mapM_cons→aah
namespace Go.Ev
open Go Go.RowKit
def zB3{P:Program}{tys:List Ty}{ts:List TypeId}(h:(tys.zip ts).all (fun x=>eW P x.2 x.1)=true):∀(i:Nat) (ty:Ty) (t:TypeId),tys[i]?=some ty->ts[i]?=some t->eW P t ty=true:=by intro i ty t a b;have c:(ty,t)∈tys.zip ts:=List.mem_of_getElem? (i:=i) (by rw[List.getElem?_zip_eq_some];exact⟨a,b⟩);exact(List.all_eq_true.1 h) _ c
variable {P:Program} {w:World} {fm:Fm}
def mq{H:Type}:Nat->DataW H->Option (List V)
 | _,.lit (.int k n)=>some [.int k n]
 | _,.lit (.bool b)=>some [.bool b]
 | _,.lit (.string s)=>some [.str s]
 | k+1,.agg ds=>(ds.mapM (mq k)).map List.flatten
 | _,_=>none
section
variable {H:Type} {enc:TypeId×Value->H} {sp:Nat->Bool} {hd:Bool}
mutual
def U6:∀{ty:Ty} {fuel k:Nat} {t:TypeId} {cs:List Value} {d:DataW H} {ps:List MemPlace} {vs:List V},eW P t ty=true->DataW.trod enc P w 0 sp hd fuel t cs=some (d,ps)->mq k d=some vs ->
  ah (M0 fm) w vs cs
 | ty,0,k,t,cs,d,ps,vs,_,h,_=>by simp[DataW.trod] at h
 | .int kd,fuel+1,k,t,cs,d,ps,vs,f,h,g=>by
  simp only[eW] at f;have j:=Ii f;unfold DataW.trod at h;rw[j] at h
  split at h<;>try (simp_all;done)
  rename_i M N n D;cases D;split at h
  case isFalse=>cases h
  rename_i z;obtain⟨rfl,z⟩:=z;cases h;simp only[mq,aab.injEq] at g;subst g
  simp[ah,ak]
 | .bool,fuel+1,k,t,cs,d,ps,vs,f,h,g=>by
  simp only[eW] at f;have j:=O4 f;unfold DataW.trod at h;rw[j] at h
  split at h<;>simp_all
  rename_i b;obtain⟨rfl,_⟩:=h;simp only[mq,aab.injEq] at g;subst g
  simp[ah,ak]
 | .str,fuel+1,k,t,cs,d,ps,vs,f,h,g=>by
  simp only[eW] at f;have j:=AM f;unfold DataW.trod at h;rw[j] at h
  split at h<;>simp_all
  rename_i s;obtain⟨_,rfl,_⟩:=h;simp only[mq,aab.injEq] at g;subst g
  simp[ah,ak]
 | .sl e,fuel+1,k,t,cs,d,ps,vs,f,h,g=>by
  simp only[eW] at f;split at f
  case h_2=>cases f
  rename_i A j;unfold DataW.trod at h;rw[j] at h
  split at h<;>try (simp_all;done)
  ·cases h;cases k<;>simp[mq] at g
  ·rename_i E a F G o;cases o;simp only at h;split at h
   case isFalse=>cases h
   rw[aac] at h;obtain⟨v,O,h⟩:=h;rw[aaa] at h;obtain⟨r,_,h⟩:=h
   cases h;cases k<;>simp[mq] at g
 | .agg Q,fuel+1,k,t,cs,d,ps,vs,f,h,g=>by
  simp only[eW] at f;split at f
  case h_2=>cases f
  rename_i gs j;unfold DataW.trod at h;rw[j] at h;simp only at h;split at h
  case isFalse=>cases h
  rename_i l;rw[aaa] at h;obtain⟨xs,q,h⟩:=h;cases h
  cases k with
  | zero=>simp[mq] at g
  | succ k =>
   simp only[mq] at g;rw[aaa] at g;obtain⟨I,u,rfl⟩:=g
   simpa using zrc (off:=0) f q l u
 | .arr n e,fuel+1,k,t,cs,d,ps,vs,f,h,g=>by
  simp only[eW] at f;split at f
  case h_2=>cases f
  rename_i m A j;simp only[aaf,beq_iff_eq] at f;obtain⟨⟨rfl,J⟩,f⟩:=f;unfold DataW.trod at h;rw[j] at h;simp only at h;split at h
  case isFalse=>cases h
  rename_i l;rw[aaa] at h;obtain⟨xs,q,h⟩:=h;cases h
  cases k with
  | zero=>simp[mq] at g
  | succ k =>
   simp only[mq] at g;rw[aaa] at g;obtain⟨I,u,rfl⟩:=g;have K:=mapM_some_length q;have L:=mapM_some_length u;simp only[List.length_range,List.length_map] at K L;refine UJ (c:=P.cellsOf A) (by rw[l,J];congr 1;omega) fun i x o=>?_
   have hi:i<m:=by have:=(List.getElem?_eq_some_iff.1 o).1;omega
   have B:=mapM_some_get q i i (by rw[List.getElem?_range hi])
   cases y:xs[i]? with
   | none=>rw[List.getElem?_eq_none_iff] at y;omega
   | some p =>
    rw[y] at B;obtain⟨d',R⟩:=p;have C:=mapM_some_get u i d' (by rw[List.getElem?_map,y];rfl);rw[o] at C;exact U6 f B C
def zrc:∀{fs:List Ty} {gs:List Field} {c off fuel k:Nat} {cs:List Value} {xs:List (DataW H×List MemPlace)} {es:List (List V)},yp P c off gs fs=true ->
  (gs.mapM fun f=>DataW.trod enc P w 0 sp hd fuel f.type ((cs.drop f.offset).take (P.cellsOf f.type)))=some xs->cs.length=c->(xs.map (·.1)).mapM (mq k)=some es ->
  ah (M0 fm) w es.flatten (cs.drop off)
 | [],[],c,off,fuel,k,cs,xs,es,b,h,j,e=>by
  simp only[yp,beq_iff_eq] at b;simp at h;subst h;simp at e;subst e
  simp only[List.flatten_nil,ah];rw[List.drop_eq_nil_iff];omega
 | [],_::_,_,_,_,_,_,_,_,b,_,_,_=>by simp[yp] at b
 | _::_,[],_,_,_,_,_,_,_,b,_,_,_=>by simp[yp] at b
 | t::ts,g::gs,c,off,fuel,k,cs,xs,es,b,h,j,e=>by
  simp only[yp,aaf,beq_iff_eq] at b;obtain⟨⟨n,o⟩,b⟩:=b;rw[aah] at h;simp only[aae,aac] at h;obtain⟨x,q,u,r,h⟩:=h;simp only[aag,aab.injEq] at h;subst h;rw[List.map_cons,aah] at e;simp only[aae,aac] at e;obtain⟨a,s,v,i,e⟩:=e;simp only[aag,aab.injEq] at e;subst e;obtain⟨d,p⟩:=x;have l:=U6 o q s;have m:=zrc b r j i;rw[n] at l;rw[<-List.drop_drop] at m;rw[List.flatten_cons]
  exact UH (k:=P.cellsOf g.type) l m
end
end
def zB4{n:String}{d:DataW Unit}{a:Nat}{e:TypeId}{ty:Ty}{cs:List V}(h:laidMetH P [(n,d)] w)(m:([(n,d)].all fun x=>x.2.handleName?.isNone)=true)(f:P.globalNamed n=some a)(o:(P.globals[a]?).map (·.type)=some e)
  (r:eW P e ty=true) {k:Nat} (s:mq k d=some cs) (u:∀ c∈cs,c.pure=true) (v:∀ g c,fm.gl g=some c->g=a/\c=cs):AJ (M0 fm) w:=by
 rw[MakeChecks.laidMetH_plain _ _ _ m] at h;obtain⟨K,⟨g,t,y,j,p,q,z,A,B,hd,_,_⟩,_,_⟩:=h;obtain rfl:=aab.inj (f.symm.trans z);obtain rfl:=aab.inj (o.symm.trans A);have C:=U6 (fm:=fm) r hd s;intro D c E;obtain⟨F,rfl⟩:=v D c E;rw[F];simp only[ak];refine⟨u,_,0,rfl,BO fun i c' G=>?_⟩;obtain⟨x,H,b⟩:=mf C G;have I:=World.var?_cell f B i;refine⟨x,?_,fun l J=>by simp[M0] at J,b⟩
 rw[Nat.zero_add,I];simpa using H
end Go.Ev
