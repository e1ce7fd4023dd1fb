/- More operations: what is alike, texts, maps. -/
import Derived.Laws.StructEq
import Derived.Laws.RangeAny
import Derived.ChangeKeysEq
import Derived.MapKept
import Derived.Lib.OthersKept
import Derived.Test.YtbkhoemaobbplaaGreatDoorEvAW
import Derived.Carry
import Derived.Laws.BytesString
import Derived.RangeFuncLeaves
import Derived.RangeFuncIn
import Derived.RangeFuncRecord
import Derived.OrdersIn
import Derived.TacticsIn
set_option linter.defProp false
set_option linter.unusedSimpArgs false
set_option linter.unusedVariables false
open Bool renaming and_eq_true->aab,false_eq_true->aat,or_eq_true->aa4,not_eq_true'->abo,true_or->abC
open Option renaming some->aad,map_eq_some_iff->aaf,getD_some->aa2,isSome_iff_exists->aa3,map_none->abv,map_some->abx,map->abJ
open List renaming getElem?_eq_some_iff->aae,length_map->aah,mem_append->aai,map_cons->aal,getElem?_map->aam,map_set->aan,getElem?_set_self->aao,length_take->aap,length_set->aaq,map_append->aas,map_nil->aau,getElem?_set->aay,map_map->aaz,length_drop->aaA,set_comm->aaH,replicate->aaL,all_eq_true->aaO,length_nil->aaQ,mem_map->aaR,eq_nil_of_length_eq_zero->aaV,drop_drop->aaW,getElem?_drop->aaZ,flatten_cons->aa0,length_cons->aa1,length_eq_one_iff->aa9,mem_of_getElem?->abb,all_cons->abc,replicate_succ->abd,map_congr_left->abg,zip_cons_cons->abi,length_append->abl,getElem?_take->abm,ext_getElem?->abn,range'->abp,range'_succ->abr,forIn_cons->abw,foldl_cons->aby,mem_cons->abA,drop_set->abB,all_map->abE
open Array renaming getElem?_toList->aag,getD_eq_getD_getElem?->aaj,ext'->aaC,getElem?_setIfInBounds_self_of_lt->aaF,getElem?_eq_some_iff->aaG,getElem?_eq_getElem->aaI,toList_push->aaM,getElem?_setIfInBounds_ne->aaP,getElem?_modify->aba,getElem?_push->abe
open Nat renaming le_refl->aar,min_eq_left->aaJ,le_of_eq->aaK,sub_zero->abh,le_add_right->abt,add_mul->abF,one_mul->abG,zero_le->abI
open Prod renaming mk->aa_
open UInt8 renaming ofNat->abq
namespace Go.Ev
open Go Go.RowKit
variable {P:Program} {M M':Mm} {H H1:ae} {w w':World}
variable {e:Env} {a:Act} {n:Nat} {o:Oper} {v:V}
def fB(P:Program)(t:TypeId):Bool:=match P.underlying t with|some d=>d.isRow|none=>false
def Kb(p:TypeId->Option (List Kd)):Nat->List Field->Option (List Kd)
 | _,[]=>some []
 | off, f :: fs => if f.name ≠ "_" ∧ f.offset = off then
   match p f.type with
   | some ks=>match Kb p (off+ks.length) fs with
    | some rs=>some (ks++rs)
    | none=>none
   | none=>none
  else none
def ux(P:Program):Nat->TypeId->Option (List Kd)
 | 0,_=>none
 | k+1,t =>
  match(match P.underlying t with
   | some (.int _)=>some [Kd.int]
   | some .bool=>some [Kd.bool]
   | some .string=>some [Kd.str]
   | some (.struct b)=>if P.stoodInHeld t=false then Kb (ux P k) 0 b.toList else none
   | some (.array m c)=>match ux P k c with
    | some a=>some (aaL m a).flatten
    | none=>none
   | _=>none) with
  | some a=>if g_ P t a.length (fB P t)=true then some a else none
  | none=>none
def Xt{k:Nat}{t:TypeId}{ks:List Kd}(h:ux P k t=some ks):g_ P t ks.length (fB P t)=true:=by
 cases k with
 | zero=>simp[ux] at h
 | succ k =>
  simp only[ux] at h;split at h
  .split at h
   .rename_i a;cases h;exact a
   .cases h
  .cases h
def Kc:∀{ks:List Kd} {cs ds:List V} {b:Bool},cB ks cs ds=some b->cs.length=ks.length/\ds.length=ks.length
 | [],[],[],_,_=>⟨rfl,rfl⟩
 | [],[],_::_,_,h=>by simp[cB] at h
 | [],_::_,_,_,h=>by simp[cB] at h
 | _::_,[],_,_,h=>by simp[cB] at h
 | _::_,_::_,[],_,h=>by simp[cB] at h
 | k::ks,c::cs,d::ds,b,h=>by
  simp only[cB] at h;split at h
  .rename_i x y e a;have:=Kc a;simp[this.1,this.2]
  .cases h
def M6:∀{ks rs:List Kd} {cs ds:List V} {b:Bool},cB (ks++rs) cs ds=some b ->
  ∃x y,cB ks (cs.take ks.length) (ds.take ks.length)=some x/\cB rs (cs.drop ks.length) (ds.drop ks.length)=some y/\b=(x&&y)
 | [],rs,cs,ds,b,h=>⟨true,b,by simp[cB],by simpa using h,ir⟩
 | k::ks,rs,[],_,b,h=>by simp[cB] at h
 | k::ks,rs,_::_,[],b,h=>by simp[cB] at h
 | k::ks,rs,c::cs,d::ds,b,h=>by
  simp only[List.cons_append,cB] at h;split at h
  .rename_i x y a e;obtain⟨f,g,i,j,rfl⟩:=M6 e;simp only[aad.injEq] at h;refine⟨x&&f,g,?_,by simpa using j,by rw[<-h,Bool.and_assoc]⟩;simp only[aa1,List.take_succ_cons,cB,a,i]
  .cases h
def Dy(P:Program)(d:Nat)(t:TypeId)(ks:List Kd):Prop :=
 ∀(M:Mm) (w a:World) (c ds:List V) (xs e:List Value) (b:Bool),ai M w c xs->ai M w ds e->cB ks c ds=some b ->
  (Op.equalIn d t (oW (fB P t) xs) (oW (fB P t) e)).run P a=.ok b a
def Ke{t:TypeId}{sz off:Nat}{a:Bool}{xs:List Value}(b:g_ P t sz a=true)(c:off+sz<=xs.length) :
  (part t xs.toArray off).run P w=.ok (oW a ((xs.drop off).take sz)) w:=by
 have:=W5 (P:=P) (w:=w) (xs:=xs.toArray) b (by simpa using c);simpa using this
def zpk{d:Nat}{p:TypeId->Option (List Kd)}(i:∀t ks,p t=some ks->g_ P t ks.length (fB P t)=true/\Dy P d t ks):∀{fs:List Field} {off:Nat} {ks:List Kd} {cs ds:List V} {xs ys:List Value} {b:Bool} {M:Mm} {w w2:World},
  Kb p off fs=some ks->ai M w cs xs->ai M w ds ys->off<=xs.length->off<=ys.length->cB ks (cs.drop off) (ds.drop off)=some b->(Op.eqFields d xs.toArray ys.toArray fs).run P w2=.ok b w2
 | [],off,ks,cs,ds,xs,ys,b,M,w,w2,a,c,e,m,n,h=>by
  simp only[Kb,aad.injEq] at a;subst a
  have:b=true:=by
   cases o:cs.drop off<;>cases hd:ds.drop off<;>rw[o,hd] at h<;>simp[cB] at h
   exact h
  subst this
  simp[Op.eqFields]
 | f::fs,off,ks,cs,ds,xs,ys,b,M,w,w2,a,c,e,m,n,h=>by
  simp only[Kb] at a;split at a
  case isFalse=>cases a
  rename_i q;obtain⟨r,s⟩:=q;split at a
  case h_2=>cases a
  rename_i j u;split at a
  case h_2=>cases a
  rename_i rs v;cases a;obtain⟨k,g⟩:=i _ _ u;obtain⟨x,y,l,z,rfl⟩:=M6 h;have G:=gQ c;have H:=gQ e;obtain⟨A,B⟩:=Kc l;simp only[aap,aaA] at A B;have C:=Ke (P:=P) (w:=w2) (off:=off) (xs:=xs) k an;have D:=Ke (P:=P) (w:=w2) (off:=off) (xs:=ys) k an;have E:=g M w w2 _ _ _ _ x (v5 (x7 c off) j.length) (v5 (x7 e off) j.length) l;have F:=zpk (w2:=w2) i v c e an an (by simpa[aaW] using z)
  simp only[Op.eqFields,s];rw[if_pos r];simp only[Sem.run_bind,C,D,E,Result.andThen_ok];cases x
  .simp
  .simpa using F
def zqD{d:Nat}{c:TypeId}{ks:List Kd}(g:g_ P c ks.length (fB P c)=true)(a:Dy P d c ks):∀{m off:Nat} {cs ds:List V} {xs ys:List Value} {b:Bool} {M:Mm} {w w2:World},
  ai M w cs xs->ai M w ds ys->off*ks.length<=xs.length->off*ks.length<=ys.length->cB (aaL m ks).flatten (cs.drop (off*ks.length)) (ds.drop (off*ks.length))=some b ->
  (Op.eqItems d c ks.length xs.toArray ys.toArray (abp off m)).run P w2=.ok b w2
 | 0,off,cs,ds,xs,ys,b,M,w,w2,e,f,j,k,h=>by
  simp only[List.replicate_zero,List.flatten_nil] at h
  have:b=true:=by
   cases l:cs.drop (off*ks.length)<;>cases hd:ds.drop (off*ks.length)<;>rw[l,hd] at h<;>simp[cB] at h
   exact h
  subst this
  simp[Op.eqItems]
 | m+1,off,cs,ds,xs,ys,b,M,w,w2,e,f,j,k,h=>by
  rw[abd,aa0] at h;obtain⟨x,y,i,n,rfl⟩:=M6 h;have v:=gQ e;have z:=gQ f;obtain⟨o,p⟩:=Kc i;simp only[aap,aaA] at o p;have q:=Ke (P:=P) (w:=w2) (off:=off*ks.length) (xs:=xs) g an;have r:=Ke (P:=P) (w:=w2) (off:=off*ks.length) (xs:=ys) g an;have s:=a M w w2 _ _ _ _ x (v5 (x7 e _) ks.length) (v5 (x7 f _) ks.length) i
  have t:(off+1)*ks.length=off*ks.length+ks.length:=by rw[abF,abG]
  have u:=zqD (w2:=w2) (m:=m) (off:=off+1) g a e f an an (by rw[t];simpa[aaW] using n);rw[abr];simp only[Op.eqItems,Sem.run_bind,q,r,s,Result.andThen_ok];cases x
  .simp
  .simpa using u
def Xu:∀{k:Nat} {t:TypeId} {ks:List Kd} {d:Nat},ux P k t=some ks->k<=d->Dy P d t ks
 | 0,t,ks,d,h,_=>by simp[ux] at h
 | k+1,t,ks,0,h,hd=>by omega
 | k+1,t,ks,d+1,h,hd=>by
  have T:=Xt h;have q:∀t ks,ux P k t=some ks->g_ P t ks.length (fB P t)=true/\Dy P d t ks:=λt ks h=>⟨Xt h,Xu h an⟩;simp only[ux] at h;split at h
  case h_2=>cases h
  rename_i H e;split at h
  case isFalse=>cases h
  cases h;intro M w p I ds xs A b r s n;obtain⟨J,K⟩:=Kc n;have U:=gQ r;have V:=gQ s
  have o:∀{kd:Kd},ks=[kd]->∃c d x y,I=[c]/\ds=[d]/\xs=[x]/\A=[y]/\aq M w c x/\aq M w d y/\qi kd c d=some b:=by
   intro kd L;subst L;obtain⟨c,rfl⟩:=aa9.1 J;obtain⟨d',rfl⟩:=aa9.1 K;simp only[ai] at r s;obtain⟨x,_,rfl,j,rfl⟩:=r;obtain⟨y,_,rfl,f,rfl⟩:=s;refine⟨c,d',x,y,rfl,rfl,rfl,rfl,j,f,?_⟩;simp only[cB] at n;split at n
   .rename_i u v a D;simp only[aad.injEq] at D n;subst D;rw[a,<-n,Bool.and_true]
   .cases n
  split at e
  .rename_i W a
   have l:fB P t=false:=by simp[fB,a,TypeDesc.isRow]
   simp only[aad.injEq] at e;obtain⟨c,d',x,y,rfl,rfl,rfl,rfl,j,f,g⟩:=o e.symm;rw[l]
   cases c<;>cases d'<;>simp only[qi,reduceCtorEq] at g
   split at g
   .rename_i N;subst N;simp only[aad.injEq] at g;subst g;simp only[aq] at j f;subst j;subst f;exact run_equalIn_int p d t _ _ _ _ a
   .cases g
  .rename_i a
   have l:fB P t=false:=by simp[fB,a,TypeDesc.isRow]
   simp only[aad.injEq] at e;obtain⟨c,d',x,y,rfl,rfl,rfl,rfl,j,f,g⟩:=o e.symm;rw[l]
   cases c<;>cases d'<;>simp only[qi,reduceCtorEq,aad.injEq] at g
   subst g;simp only[aq] at j f;subst j;subst f;exact run_equalIn_bool p d t _ _ a
  .rename_i a
   have l:fB P t=false:=by simp[fB,a,TypeDesc.isRow]
   simp only[aad.injEq] at e;obtain⟨c,d',x,y,rfl,rfl,rfl,rfl,j,f,g⟩:=o e.symm;rw[l]
   cases c<;>cases d'<;>simp only[qi,reduceCtorEq,aad.injEq] at g
   subst g;simp only[aq] at j f;subst j;subst f;show(Op.equalIn (d+1) t (.string _) (.string _)).run P p=_;rw[run_equalIn_string p d t _ _ a];simp
  .rename_i O a
   have l:fB P t=true:=by simp[fB,a,TypeDesc.isRow]
   split at e
   case isFalse=>cases e
   rename_i B;rw[l]
   have E:P.fieldsOf t=O:=by simp[Program.fieldsOf,a]
   have:=run_equalIn_struct (P:=P) p d t xs.toArray A.toArray (by rw[E];exact a) B;simp only[oW,if_true];rw[this,E];exact zpk q e r s (abI _) (abI _) (by simpa using n)
  .rename_i m F a
   have l:fB P t=true:=by simp[fB,a,TypeDesc.isRow]
   split at e
   case h_2=>cases e
   rename_i Q R;simp only[aad.injEq] at e;rw[l];obtain⟨G,C⟩:=q _ _ R;have z:=G;unfold g_ at z;split at z
   case h_2=>cases z
   rename_i _ i X hi;simp only[aab,beq_iff_eq] at z
   have S:P.cellsOf F=Q.length:=by
    have:=run_sizeOf (P:=P) w hi
    have f:(sizeOf F).run P w=.ok i.size w:=by simp[sizeOf,typeInfo,hi]
    rw[f] at this;simp only[Result.ok.injEq,and_true] at this;rw[<-this];exact z.1
   have:=run_equalIn_array (P:=P) p d xs.toArray A.toArray a hi;simp only[oW,if_true];rw[this,S,List.range_eq_range'];exact zqD G C r s ir ir (by rw[e];simpa using n)
  .cases e
def zFE{c s:TypeId}{x y:Operand}{k l:X}{base:Nat}{neg:Bool}{ks:List Kd}(m:o.op=.binOp (if neg then .neq else .eql) c x y s)(t:aH M.fm x k=true)(u:aH M.fm y l=true)
  (z:ux P 20 c=some ks) (p:P.eqGuardType P.depth c=false) (A:fB P c=true) (q:bj M w e a n) (B:aG M w H) (f:aX base e H (.Hp ks neg k l)=some (v,H1)):cY P o a M H w v H1:=by
 have i:=fy t q;have j:=fy u q;simp only[aX] at f;split at f
 case h_2=>cases f
 rename_i C ds D E;split at f
 case h_2=>cases f
 rename_i b F;cases f;rw[D] at i;rw[E] at j;simp only[aq] at i j;obtain⟨_,xs,r,G⟩:=i;obtain⟨_,I,g,J⟩:=j;have h:=Xu (P:=P) (d:=10000) z an M w w C ds xs I b G J F;rw[A] at h;simp only[oW,if_true] at h;refine .plain (rv:=.bool (if neg then !b else b)) B ?_ (by simp only[aq]);cases neg
 .simp only[execOp,m,r,g,Sem.run_bind,aat,if_false,run_eqGuard_agg w _ c x y _ _ p,Result.andThen_ok,run_eql_struct,h];rfl
 .simp only[execOp,m,r,g,Sem.run_bind,if_true,run_eqGuard_agg w _ c x y _ _ p,Result.andThen_ok,run_neq_struct,h];rfl
def Xw(P:Program)(k:Nat)(t:TypeId)(y:Operand):Bool :=
 match k,P.underlying t,y with
 | 0,some (.func _ _ _),.const .nilFunc=>true
 | 1,some (.pointer _),.const (.pointer none)=>true
 | 2,some (.map _ _),.const (.map none)=>true
 | _,_,_=>false
def zzj(d:Nat){t:TypeId}{p q:Array TypeId}{r:Bool}(a:P.underlying t=some (.func p q r))(f:Fn)(g h:Array Value):(Op.equalIn (d+1) t (.func f g h) .nilFunc).run P w=.ok false w:=by simp[Op.equalIn,run_underlying a]
def zv2(d:Nat){t:TypeId}{p q:Array TypeId}{r:Bool}(a:P.underlying t=some (.func p q r)):(Op.equalIn (d+1) t .nilFunc .nilFunc).run P w=.ok true w:=by simp[Op.equalIn,run_underlying a]
def zv3(d:Nat){t p:TypeId}(a:P.underlying t=some (.pointer p)):(Op.equalIn (d+1) t (.pointer none) (.pointer none)).run P w=.ok true w:=by simp[Op.equalIn,run_underlying a]
def zqE(d:Nat){t p:TypeId}(a:P.underlying t=some (.pointer p))(b:Addr):(Op.equalIn (d+1) t (.pointer (some b)) (.pointer none)).run P w=.ok false w:=by simp[Op.equalIn,run_underlying a]
def zxV(d:Nat){t p q:TypeId}(a:P.underlying t=some (.map p q))(b:Nat):(Op.equalIn (d+1) t (.map (some b)) (.map none)).run P w=.ok false w:=by simp[Op.equalIn,run_underlying a]
def zv4(d:Nat){t p q:TypeId}(a:P.underlying t=some (.map p q)):(Op.equalIn (d+1) t (.map none) (.map none)).run P w=.ok true w:=by simp[Op.equalIn,run_underlying a]
def HN{c l:TypeId}{x y:Operand}{e f:Value}{b neg:Bool}(g:o.op=.binOp (if neg then .neq else .eql) c x y l)(h:a.eval x=e)(i:a.eval y=f)(m:aG M w H)
  (j:∀op,(eqGuard op c x y e f).run P w=.ok () w) (n:binOp .eql c e f=(do pure (.bool (<-Op.equal c e f)))) (p:binOp .neq c e f=(do pure (.bool (!(<-Op.equal c e f)))))
  (q:∀d,(Op.equalIn (d+1) c e f).run P w=.ok b w):cY P o a M H w (.bool (if neg then !b else b)) H:=by
 have k:(Op.equal c e f).run P w=.ok b w:=q 9999;refine .plain (rv:=.bool (if neg then !b else b)) m ?_ (by simp only[aq]);cases neg
 .simp only[execOp,g,h,i,Sem.run_bind,aat,if_false,j,Result.andThen_ok,n,k,Sem.run_pure]
 .simp only[execOp,g,h,i,Sem.run_bind,if_true,j,Result.andThen_ok,p,k,Sem.run_pure]
def zBZ{r s:TypeId}{x y:Operand}{m:X}{base k:Nat}{neg:Bool}(f:o.op=.binOp (if neg then .neq else .eql) r x y s)(t:aH M.fm x m=true)
  (p:Xw P k r y=true) (u:bj M w e a n) (g:aG M w H) (j:aX base e H (.pB k neg m)=some (v,H1)):cY P o a M H w v H1:=by
 have c:=fy t u
 have l:neg=(if neg=true then !false else false):=by cases neg<;>rfl
 have q:(!neg)=(if neg=true then !true else true):=by cases neg<;>rfl
 unfold Xw at p;split at p
 case h_4=>cases p
 all_goals
  rename_i h;simp only[aX] at j
  cases z:m.ev e<;>rw[z] at j c<;>simp only[reduceCtorEq,aad.injEq,aa_.injEq] at j
  all_goals
   obtain⟨rfl,rfl⟩:=j;simp only[aq] at c
 .obtain⟨xs,i,_⟩:=c;rw[l];exact HN f i rfl g (λop=>by unfold eqGuard;cases op<;>simp) rfl rfl (λd=>zzj d h _ _ _)
 .rw[q];exact HN f c rfl g (λop=>by unfold eqGuard;cases op<;>simp) rfl rfl (λd=>zv2 d h)
 .rw[q];exact HN f c rfl g (λop=>by unfold eqGuard;cases op<;>simp) rfl rfl (λd=>zv3 d h)
 .obtain⟨_,i⟩:=c;rw[l];exact HN f i rfl g (λop=>by unfold eqGuard;cases op<;>simp) rfl rfl (λd=>zqE d h _)
 .obtain⟨_,b,A,i,_⟩:=c;rw[l];exact HN f i rfl g (λop=>by unfold eqGuard;cases op<;>simp) rfl rfl (λd=>zqE d h _)
 .obtain⟨_,i⟩:=c;rw[l];exact HN f i rfl g (λop=>by unfold eqGuard;cases op<;>simp) rfl rfl (λd=>zxV d h _)
 .rw[q];exact HN f c rfl g (λop=>by unfold eqGuard;cases op<;>simp) rfl rfl (λd=>zv4 d h)
def zwX{mx:Bool}{k:IntKind}:∀{xs:List X} {os:List Operand} {p:Int} {u:V},pZ M.fm os xs=true->bj M w e a n->r6 e mx k p xs=some u ->
  ((os.map a.eval).foldlM (if mx then Builtin.max2 else Builtin.min2) (.int k p)).run P w=.ok (valOf u) w/\aq M w u (valOf u)
 | [],[],p,u,_,_,h=>by
  simp only[r6,aad.injEq] at h;subst h
  exact⟨by simp[valOf],by simp only[aq,valOf]⟩
 | [],_::_,_,_,c,_,_=>by simp[pZ] at c
 | _::_,[],_,_,c,_,_=>by simp[pZ] at c
 | x::xs,o::os,p,u,c,g,h=>by
  simp only[pZ,aab] at c;simp only[r6] at h;split at h
  case h_2=>cases h
  rename_i m b i;split at h
  case isFalse=>cases h
  rename_i j;subst j;have f:=fy c.1 g;rw[i] at f;simp only[aq] at f;obtain⟨d,l⟩:=zwX c.2 g h;refine⟨?_,l⟩;rw[aal,List.foldlM_cons,Sem.run_bind,f];cases mx
  .simp only[aat,if_false] at d |-;simp only[Builtin.min2,Sem.run_pure,Result.andThen_ok];simpa[MF] using d
  .simp only[if_true] at d |-;simp only[Builtin.max2,Sem.run_pure,Result.andThen_ok];simpa[MF] using d
def zKr{mx:Bool}{args:Array Operand}{ts:Array TypeId}{xs:List X}{base:Nat}(d:o.op=.call { callee:=.builtin (if mx then .max else .min),args:=args,argTypes:=ts })(c:pZ M.fm args.toList xs=true)
  (i:bj M w e a n) (l:aG M w H) (b:aX base e H (.mm mx xs)=some (v,H1)):cY P o a M H w v H1:=by
 simp only[aX] at b;split at b
 case h_2=>cases b
 rename_i x xs;split at b
 case h_2=>cases b
 rename_i k p m;rw[aaf] at b;obtain⟨u,q,b⟩:=b;cases b
 cases g:args.toList with
 | nil=>rw[g] at c;simp[pZ] at c
 | cons t r =>
  rw[g] at c;simp only[pZ,aab] at c;have h:=fy c.1 i;rw[m] at h;simp only[aq] at h;obtain⟨f,s⟩:=zwX (P:=P) c.2 i q;refine .plain (rv:=valOf v) l ?_ s
  have j:List.map a.eval args.toList=.int k p::r.map a.eval:=by rw[g,aal,h]
  cases mx
  .simp only[aat,if_false] at f d;simp[execOp,d,resolve,invoke,builtin,Builtin.min_,j,f]
  .simp only[if_true] at f d;simp[execOp,d,resolve,invoke,builtin,Builtin.max_,j,f]
def zEl{t:TypeId}{x y:Operand}{g h:X}{base:Nat}(m:o.op=.index t x y)(p:aH M.fm x g=true)(q:aH M.fm y h=true)(r:P.underlying t=some .string)
  (j:bj M w e a n) (u:aG M w H) (c:aX base e H (.wW g h)=some (v,H1)):cY P o a M H w v H1:=by
 have d:=fy p j;have f:=fy q j;simp only[aX] at c;split at c
 case h_2=>cases c
 rename_i s k i z A;split at c
 case isFalse=>cases c
 rename_i D;split at c
 case h_2=>cases c
 rename_i b l;cases c;rw[z] at d;rw[A] at f;simp only[aq] at d f;refine .plain (rv:=.int .u8 b.toNat) u ?_ (by simp only[aq]);have B:i.toNat<s.length:=(aae.1 l).1
 have hi:0<=i/\i<(ByteArray.mk s.toArray).size:=by rw[zgA];omega
 have C:(ByteArray.mk s.toArray)[i.toNat]'(by rw[zgA];exact B)=b:=by have:=(aae.1 l).2;rw[<-this];rfl
 have:=run_index_string (P:=P) w t ⟨s.toArray⟩ k i r;rw[dif_pos hi,C] at this;simp[execOp,m,d,f,this]
def zEm{t:TypeId}{x:Operand}{d:X}{lo hi:Option Operand}{f g:Option X}{base:Nat}(k:o.op=.slice t x lo hi none)(p:aH M.fm x d=true)(q:P.underlying t=some .string)
  (r:n8 M.fm lo f=true) (u:n8 M.fm hi g=true) (i:bj M w e a n) (y:aG M w H) (b:aX base e H (.sslc d f g)=some (v,H1)):cY P o a M H w v H1:=by
 have c:=fy p i;simp only[aX] at b;split at b
 case h_2=>cases b
 rename_i s z;split at b
 case h_2=>cases b
 rename_i l h m A;cases b;rw[z] at c;simp only[aq] at c;refine .plain (rv:=.string ⟨((s.drop l).take (h-l)).toArray⟩) y ?_ (by simp only[aq]);have j:=Rq (P:=P) (w:=w) (isS:=false) (len:=s.length) (cap:=s.length) r u (mx:=none) (smx:=none) rfl i A (aar _);simp only[abv] at j
 have B:(ByteArray.mk s.toArray).extract l h=⟨((s.drop l).take (h-l)).toArray⟩:=by apply ByteArray.ext;simp[ByteArray.data_extract,List.extract_eq_take_drop]
 simp[execOp,k,c,Instr.sliceAt,Instr.slice,run_underlying q,zgA,j.2.2.2,B]
def l8(P:Program)(t:TypeId):Ky->Bool
 | .sc .int=>match P.underlying t with|some (.int _)=>true|_=>false
 | .sc .bool=>match P.underlying t with|some .bool=>true|_=>false
 | .sc .str=>match P.underlying t with|some .string=>true|_=>false
 | .row a=>ux P 20 t==some a&&fB P t
def M9(P:Program)(d:Nat)(t:TypeId)(ks:List Kd):Prop :=
 ∀(em:Bool) (M:Mm) (w c:World) (a:List V) (xs:List Value) (b:Bool),ai M w a xs->cB ks a a=some b->(Instr.checkKey em d t (oW (fB P t) xs)).run P c=.ok () c
def M_:∀{k:Nat} {t:TypeId} {ks:List Kd} {d:Nat},ux P k t=some ks->k<=d->M9 P d t ks
 | 0,t,ks,d,h,_=>by simp[ux] at h
 | k+1,t,ks,0,h,hd=>by omega
 | k+1,t,ks,d+1,h,hd=>by
  have o:∀t ks,ux P k t=some ks->g_ P t ks.length (fB P t)=true/\M9 P d t ks:=λt ks h=>⟨Xt h,M_ h an⟩;simp only[ux] at h;split at h
  case h_2=>cases h
  rename_i J c;split at h
  case isFalse=>cases h
  rename_i K;cases h;clear K;intro em M w n j xs b u l;have W:=gQ u
  have e:(∃r,P.underlying t=some (.int r))\/P.underlying t=some .bool\/P.underlying t=some .string->(Instr.checkKey em (d+1) t (oW (fB P t) xs)).run P n=.ok () n:=by
   intro hu;unfold Instr.checkKey
   rcases hu with⟨r,hu⟩|hu|hu<;>simp[run_underlying hu]
  split at c
  .rename_i r hu;exact e (.inl ⟨r,hu⟩)
  .rename_i hu;exact e (.inr (.inl hu))
  .rename_i hu;exact e (.inr (.inr hu))
  .rename_i N hu
   have v:fB P t=true:=by simp[fB,hu,TypeDesc.isRow]
   split at c
   case isFalse=>cases c
   rw[v];simp only[oW,if_true];rw[Instr.checkKey];simp only[Sem.run_bind,run_underlying hu,Result.andThen_ok];rw[<-Array.forIn_toList];obtain⟨off,g⟩:∃off,off=0:=⟨0,rfl⟩
   replace l:cB ks (j.drop off) (j.drop off)=some b:=by rw[g];simpa using l
   have O:off<=xs.length:=an
   rw[<-g] at c;clear g;generalize N.toList=L at c
   induction L generalizing off ks b with
   | nil=>simp
   | cons f L z =>
    simp only[Kb] at c;split at c
    case isFalse=>cases c
    rename_i Q;obtain⟨R,g⟩:=Q;split at c
    case h_2=>cases c
    rename_i a A;split at c
    case h_2=>cases c
    rename_i rs S;cases c;obtain⟨s,B⟩:=o _ _ A;obtain⟨x,y,p,C,rfl⟩:=M6 l;obtain⟨D,_⟩:=Kc p;simp only[aap,aaA] at D;have E:=Ke (P:=P) (w:=n) (off:=off) (xs:=xs) s an;have F:=B em M w n _ _ x (v5 (x7 u off) a.length) p;simp only[abw,Sem.run_bind,R,g,ne_eq,not_false_eq_true,if_true,Result.andThen_ok,E,F,Sem.run_pure]
    have q1:cB rs (j.drop (off+a.length)) (j.drop (off+a.length))=some y:=by simpa[aaW] using C
    have G:off+a.length<=xs.length:=an
    exact z (ks:=rs) (b:=y) (off:=off+a.length) q1 G S
  .rename_i m T hu
   have v:fB P t=true:=by simp[fB,hu,TypeDesc.isRow]
   split at c
   case h_2=>cases c
   rename_i a A;simp only[aad.injEq] at c;rw[v];obtain⟨s,B⟩:=o _ _ A;have q:=s;unfold g_ at q;split at q
   case h_2=>cases q
   rename_i _ i X hi;simp only[aab,beq_iff_eq] at q
   have U:∀H:World,(sizeOf T).run P H=.ok a.length H:=λH=>by simp[sizeOf,typeInfo,hi,q.1]
   simp only[oW,if_true];rw[Instr.checkKey];simp only[Sem.run_bind,run_underlying hu,Result.andThen_ok];simp only[Std.Legacy.Range.forIn_eq_forIn_range',Std.Legacy.Range.size,abh,Nat.add_one_sub_one,Nat.div_one];obtain⟨off,g⟩:∃off,off=0:=⟨0,rfl⟩
   replace l:cB (aaL m a).flatten (j.drop (off*a.length)) (j.drop (off*a.length))=some b:=by rw[c,g];simpa using l
   have O:off*a.length<=xs.length:=by rw[g];omega
   have I:abp 0 m=abp off m:=by rw[g]
   rw[I];clear g I c hu
   induction m generalizing off b with
   | zero=>simp
   | succ m z =>
    rw[abd,aa0] at l;obtain⟨x,y,p,C,rfl⟩:=M6 l;obtain⟨D,_⟩:=Kc p;simp only[aap,aaA] at D;have E:=Ke (P:=P) (w:=n) (off:=off*a.length) (xs:=xs) s an;have F:=B em M w n _ _ x (v5 (x7 u _) a.length) p
    have V:(off+1)*a.length=off*a.length+a.length:=by rw[abF,abG]
    rw[abr];simp only[abw,Sem.run_bind,U,Result.andThen_ok,E,F,Sem.run_pure]
    have q1:cB (aaL m a).flatten (j.drop ((off+1)*a.length)) (j.drop ((off+1)*a.length))=some y:=by rw[V];simpa[aaW] using C
    have G:(off+1)*a.length<=xs.length:=an
    exact z (b:=y) (off:=off+1) q1 G
  .cases c
def Xy{t:TypeId}{ky:Ky}(a:l8 P t ky=true):∃d,P.underlying t=some d/\(ky.isRow=true->d.isRow=true):=by
 unfold l8 at a;split at a
 .split at a
  .exact⟨_,‹_›,λh=>by cases h⟩
  .cases a
 .split at a
  .exact⟨_,‹_›,λh=>by cases h⟩
  .cases a
 .split at a
  .exact⟨_,‹_›,λh=>by cases h⟩
  .cases a
 .simp only[aab,beq_iff_eq] at a;have b:=a.2;unfold fB at b;split at b
  .rename_i d hd;exact⟨d,hd,λ_=>b⟩
  .cases b
def zux{t:TypeId}{ks:List Kd}(a:l8 P t (.row ks)=true):ux P 20 t=some ks/\fB P t=true:=by simpa[l8] using a
def uy(M:Mm)(w:World)(es:List (V×V))(ents:List MapEntry)(i:Nat):Option (Nat×V)->Option (Nat×Value)->Prop
 | none,none=>True
 | some (j,u),some (b,x)=>j=b/\i<=j/\(∃p a,es[j-i]?=some p/\ents[j-i]?=some a/\p.2=u/\a.val=x)/\aq M w u x
 | _,_=>False
def zwY{t:TypeId}{ky:Ky}{g:V}{s:Value}(e:l8 P t ky=true)(A:ky.isRow=false)(f:aq M w g s):∀{es:List (V×V)} {ents:List MapEntry} {i:Nat} {r:Option (Nat×V)},
  ai M w (es.map (·.1)) (ents.map (·.key))->ai M w (es.map (·.2)) (ents.map (·.val))->j0 ky g es i=some r ->
  ∃d r',P.underlying t=some d/\Instr.findNow d s ents i=some r'/\uy M w es ents i r r'
 | [],ents,i,r,c,k,h=>by
  have n:=gQ c;simp only[aau,aah,aaQ] at n;have:ents=[]:=aaV n;subst this;simp only[j0,aad.injEq] at h;subst h;obtain⟨d,hd,_⟩:=Xy e
  exact⟨d,none,hd,rfl,trivial⟩
 | p::es,[],i,r,c,k,h=>by
  have n:=gQ c
  simp at n
 | p::es,v::ents,i,r,c,k,h=>by
  simp only[aal,ai] at c k;obtain⟨x1,D,E,c,F⟩:=c;obtain⟨x2,G,H,k,I⟩:=k;cases E;cases H
  have B:∀b,j4 ky g p.1=some b->∃d,P.underlying t=some d/\Instr.sameNow d s v.key=some b:=by
   intro b a;unfold l8 at e;split at e
   .split at e
    .rename_i X l;refine⟨_,l,?_⟩;unfold j4 at a
     cases m:g<;>rw[m] at a f<;>cases hd:p.1<;>rw[hd] at a c<;>simp only[qi,reduceCtorEq] at a
     simp only[aq] at f c;rw[f,c];split at a
     .rename_i J;simp only[Instr.sameNow,J,if_true];exact a
     .cases a
    .cases e
   .split at e
    .rename_i l;refine⟨_,l,?_⟩;unfold j4 at a
     cases m:g<;>rw[m] at a f<;>cases hd:p.1<;>rw[hd] at a c<;>simp only[qi,reduceCtorEq] at a
     simp only[aq] at f c;rw[f,c];simp only[Instr.sameNow];exact a
    .cases e
   .split at e
    .rename_i l;refine⟨_,l,?_⟩;unfold j4 at a
     cases m:g<;>rw[m] at a f<;>cases hd:p.1<;>rw[hd] at a c<;>simp only[qi,reduceCtorEq] at a
     simp only[aq] at f c;rw[f,c];simp only[Instr.sameNow,beq_toListBytes,ByteArray.toList_mk];exact a
    .cases e
   .cases A
  simp only[j0] at h;split at h
  .rename_i y;obtain⟨d,hd,z⟩:=B true y;simp only[aad.injEq] at h;subst h;refine⟨d,some (i,v.val),hd,by simp only[Instr.findNow,z],rfl,aar _,⟨p,v,ir,ir,rfl,rfl⟩,k⟩
  .rename_i y;obtain⟨d,hd,z⟩:=B false y;obtain⟨d',r',C,K,o⟩:=zwY e A f F I h;rw[hd] at C;cases C;refine⟨d,r',hd,by simp only[Instr.findNow,z];exact K,?_⟩
   cases r with
   | none=>cases r'<;>simp only[uy] at o |-
   | some q =>
    obtain⟨j,u⟩:=q
    cases r' with
    | none=>simp only[uy] at o
    | some L =>
     obtain⟨Y,x⟩:=L;simp only[uy] at o |-;obtain⟨N,Z,⟨O,Q,R,S,T,U⟩,W⟩:=o;refine⟨N,an,⟨O,Q,?_,?_,T,U⟩,W⟩
     .rw[show j-i=(j-(i+1))+1 by omega];simpa using R
     .rw[show j-i=(j-(i+1))+1 by omega];simpa using S
  .cases h
def RA{t:TypeId}{ky:Ky}{c:V}{f:Value}(a:l8 P t ky=true)(g:aq M w c f)(i:ky.isRow=true->∃b,j4 ky c c=some b)(em:Bool)(w2:World):(Instr.checkKey em 10000 t f).run P w2=.ok () w2:=by
 cases ky with
 | sc kd =>
  unfold l8 at a;split at a
  case h_4=>rename_i e;cases e
  all_goals
   split at a
   .rename_i j;unfold Instr.checkKey;simp[run_underlying j]
   .cases a
 | row n =>
  obtain⟨k,l⟩:=zux a;obtain⟨b,h⟩:=i rfl
  cases c<;>simp only[j4,reduceCtorEq] at h
  simp only[aq] at g;obtain⟨_,xs,rfl,m⟩:=g;have:=M_ (P:=P) (d:=10000) k an em M w w2 _ xs b m h;rw[l] at this;simpa only[oW,if_true] using this
def zzk{t:TypeId}{ks:List Kd}{cs:List V}{g:Value}(s:ux P 20 t=some ks)(v:fB P t=true)(k:aq M w (.agg cs) g):∀{es:List (V×V)} {ents:List MapEntry} {i:Nat} {r:Option (Nat×V)},
  ai M w (es.map (·.1)) (ents.map (·.key))->ai M w (es.map (·.2)) (ents.map (·.val))->j0 (.row ks) (.agg cs) es i=some r ->
  ∃r',(∀w2,(Instr.findAsking t g ents i).run P w2=.ok r' w2)/\uy M w es ents i r r'
 | [],ents,i,r,a,c,h=>by
  have e:=gQ a;simp only[aau,aah,aaQ] at e;have:ents=[]:=aaV e;subst this;simp only[j0,aad.injEq] at h;subst h
  exact⟨none,λw2=>by simp[Instr.findAsking],trivial⟩
 | p::es,[],i,r,a,c,h=>by
  have e:=gQ a
  simp at e
 | p::es,l::ents,i,r,a,c,h=>by
  simp only[aal,ai] at a c;obtain⟨x1,z,q1,a,A⟩:=a;obtain⟨x2,B,C,c,D⟩:=c;cases q1;cases C
  have y:∀b,j4 (.row ks) (.agg cs) p.1=some b->∀w2,(Op.equal t g l.key).run P w2=.ok b w2:=by
   intro b m w2
   cases E:p.1<;>rw[E] at m a<;>simp only[j4,reduceCtorEq] at m
   simp only[aq] at k a;obtain⟨_,xs,rfl,F⟩:=k;obtain⟨_,G,H,I⟩:=a;rw[H];have n:=Xu (P:=P) (d:=10000) s an M w w2 _ _ xs G b F I m;rw[v] at n;simp only[oW,if_true] at n;exact n
  simp only[j0] at h;split at h
  .rename_i o;simp only[aad.injEq] at h;subst h;exact⟨some (i,l.val),λw2=>by simp[Instr.findAsking,y true o w2],rfl,aar _,⟨p,l,ir,ir,rfl,rfl⟩,c⟩
  .rename_i o;obtain⟨r',J,f⟩:=zzk s v k A D h;refine⟨r',λw2=>by simp[Instr.findAsking,y false o w2,J w2],?_⟩
   cases r with
   | none=>cases r'<;>simp only[uy] at f |-
   | some q =>
    obtain⟨j,u⟩:=q
    cases r' with
    | none=>simp only[uy] at f
    | some K =>
     obtain⟨W,x⟩:=K;simp only[uy] at f |-;obtain⟨L,X,⟨N,O,Q,R,S,T⟩,U⟩:=f;refine⟨L,an,⟨N,O,?_,?_,S,T⟩,U⟩
     .rw[show j-i=(j-(i+1))+1 by omega];simpa using Q
     .rw[show j-i=(j-(i+1))+1 by omega];simpa using R
  .cases h
def zv5{d:TypeDesc}(h:d.isRow=true)(a b:Value):Instr.sameNow d a b=none:=by cases d<;>simp[TypeDesc.isRow] at h<;>rfl
def zpO{t:TypeId}{d:TypeDesc}{a:Value}{ents:List MapEntry}(hd:P.underlying t=some d)(h:Instr.findNow d a ents 0=none)(w2:World):(Instr.findKey t a ents).run P w2=(Instr.findAsking t a ents).run P w2:=by simp[Instr.findKey,run_underlying hd,h]
def Kg{t:TypeId}{ky:Ky}{c:V}{k:Value}{es:List (V×V)}{ents:List MapEntry}{r:Option (Nat×V)}(g:l8 P t ky=true)(m:aq M w c k)
  (p:ky.isRow=true->∃b,j4 ky c c=some b) (n:ai M w (es.map (·.1)) (ents.map (·.key))) (o:ai M w (es.map (·.2)) (ents.map (·.val))) (h:j0 ky c es 0=some r) :
  ∃r',(∀w,(Instr.findKey t k ents).run P w=.ok r' w)/\uy M w es ents 0 r r':=by
 cases e:ky.isRow
 .obtain⟨d,r',hd,f,i⟩:=zwY g e m n o h;exact⟨r',λw=>MapKept.run_findKey hd f,i⟩
 .obtain⟨d,hd,q⟩:=Xy g;have s:=q e;obtain⟨b,u⟩:=p e
  cases ky with
  | sc kd=>cases e
  | row z =>
   obtain⟨v,x⟩:=zux g
   cases c<;>simp only[j4,reduceCtorEq] at u
   obtain⟨r',f,i⟩:=zzk v x m n o h;refine⟨r',λj=>?_,i⟩
   cases ents with
   | nil =>
    have y:=f j;rw[MapKept.run_findKey (P:=P) (w:=j) (l:=[]) (a:=none) hd rfl]
    simpa[Instr.findAsking] using y
   | cons A ents =>
    rw[zpO hd (by simp only[Instr.findNow,zv5 s])];exact f j
def mapOf?(P:Program)(t:TypeId):Option (TypeId×TypeId) :=
 match P.underlying t with
 | some (.map k a)=>some (k,a)
 | _=>none
def mapOf?_some{t k a:TypeId}(h:mapOf? P t=some (k,a)):P.underlying t=some (.map k a):=by
 unfold mapOf? at h;split at h
 .rename_i b;cases h;exact b
 .cases h
def zB0{t:TypeId}{base s:Nat}(c:o.op=.makeMap t none)(d:aG M w H)(b:aX base e H (.qP s)=some (v,H1)):cY P o a M H w v H1:=by
 simp only[aX] at b;split at b
 case isFalse=>cases b
 rename_i f;cases b
 obtain⟨st,g,r⟩:=MJ (ob:=.map #[] 0) (blk0:=.map []) d f rfl λj k=>by
  simp only[aK];refine⟨by simp[Mm.iL],#[],?_,by simp only[aau,ai],by simp only[aau,ai],λi x h=>by simp at h⟩;simp only[Mm.iL,if_true];exact heap_alloc_new w _
 refine⟨.value (.map (some w.heap.size)),_,_,?_,?_,st,g,r⟩
 .simp only[execOp,c,abv,Sem.run_bind,run_makeMap,Result.andThen_ok,Sem.run_pure]
 .simp only[aq,Mm.iL,decide_true,abC,if_true,true_and]
def Ki(P:Program)(t:TypeId)(z:V):Bool :=
 match P.info? t with
 | some i=>match i.zero with
  | some a=>tF a z
  | none=>false
 | none=>false
def zEn{t F s:TypeId}{x y:Operand}{R l:X}{base:Nat}{ky:Ky}{j:Bool}{z:V}(G:o.op=.lookup t x y j)(hx:aH M.fm x R=true)(hy:aH M.fm y l=true)
  (oe:mapOf? P t=some (F,s)) (r:l8 P F ky=true) (m:Ki P s z=true) (S:bj M w e a n) (A:aG M w H) (f:aX base e H (.tD ky j z R l)=some (v,H1)):cY P o a M H w v H1:=by
 have I:=mapOf?_some oe;have k:=fy hx S;have B:=fy hy S
 obtain⟨i,c,hi,J,Ft⟩:∃i c,P.info? s=some i/\i.zero=some c/\tF c z=true:=by
  unfold Ki at m;split at m
  .rename_i i hi;split at m
   .rename_i c J;exact⟨i,c,hi,J,m⟩
   .cases m
  .cases m
 have g:∀w,(zeroValue s).run P w=.ok c w:=λw=>by simp[zeroValue,typeInfo,hi,J]
 have C:aq M w z c:=Rh Ft;simp only[aX] at f;split at f
 case isTrue=>cases f
 rename_i uS
 have D:ky.isRow=true->∃b,j4 ky (l.ev e) (l.ev e)=some b:=λh=>by
  cases hq:j4 ky (l.ev e) (l.ev e) with
  | none=>exact absurd ⟨h,hq⟩ uS
  | some b=>exact⟨b,rfl⟩
 split at f
 .rename_i id K;split at f
  case h_2=>cases f
  rename_i es hb;rw[K] at k;simp only[aq] at k;have T:=A.rel id _ hb;simp only[aK] at T;obtain⟨_,ents,hh,U,W,gK⟩:=T;have Y:=MapKept.run_getObj_map (P:=P) hh;have E:=λem=>RA r B D em w;split at f
  .rename_i q u L;obtain⟨N,O,p⟩:=Kg r B D U W L
   cases N with
   | none=>simp only[uy] at p
   | some Z =>
    obtain⟨j',Q⟩:=Z;simp only[uy] at p;cases f;refine .plain (rv:=if j then .tuple #[Q,.bool true] else Q) A ?_ ?_
    .simp only[execOp,G,k.2,Instr.lookup,Sem.run_bind,run_underlying I,Result.andThen_ok,Y,Sem.run_pure,E,O]
    .cases j
     .simpa using p.2.2.2
     .simp only[if_true,aq];exact⟨[Q,.bool true],rfl,by simp only[ai];exact⟨_,_,rfl,p.2.2.2,_,_,rfl,by simp only[aq],rfl⟩⟩
  .rename_i L;obtain⟨N,O,p⟩:=Kg r B D U W L
   cases N with
   | some Z=>simp only[uy] at p
   | none =>
    cases f;refine .plain (rv:=if j then .tuple #[c,.bool false] else c) A ?_ ?_
    .simp only[execOp,G,k.2,Instr.lookup,Sem.run_bind,run_underlying I,Result.andThen_ok,Y,Sem.run_pure,E,O,g]
    .cases j
     .simpa using C
     .simp only[if_true,aq];exact⟨[c,.bool false],rfl,by simp only[ai];exact⟨_,_,rfl,C,_,_,rfl,by simp only[aq],rfl⟩⟩
  .cases f
 .rename_i K;cases f;rw[K] at k;simp only[aq] at k;have E:=λem=>RA r B D em w
  have Xz:∀w,(Instr.findKey F (a.eval y) []).run P w=.ok none w:=λw=>by
   obtain⟨d,hd,_⟩:=Xy r;exact MapKept.run_findKey hd rfl
  refine .plain (rv:=if j then .tuple #[c,.bool false] else c) A ?_ ?_
  .simp only[execOp,G,k,Instr.lookup,Sem.run_bind,run_underlying I,Result.andThen_ok,Sem.run_pure,E,Xz,g]
  .cases j
   .simpa using C
   .simp only[if_true,aq];exact⟨[c,.bool false],rfl,by simp only[ai];exact⟨_,_,rfl,C,_,_,rfl,by simp only[aq],rfl⟩⟩
 .cases f
def zuy{c d:V}{x e:Value}{k:Kd}(h:qi k c d=some true)(a:aq M w c x)(b:aq M w d e):Instr.sameBits 10000 e x=true:=by
 cases k<;>cases c<;>cases d<;>simp only[qi,reduceCtorEq,aad.injEq] at h
 .split at h
  .rename_i f;subst f;simp at h;subst h;simp only[aq] at a b;subst a;subst b;simp[Instr.sameBits]
  .cases h
 .simp at h;subst h;simp only[aq] at a b;subst a;subst b;simp[Instr.sameBits]
 .simp at h;subst h;simp only[aq] at a b;subst a;subst b;simp only[Instr.sameBits,beq_toListBytes,beq_self_eq_true]
def zv6{c d:V}{x e:Value}{k:Kd}(n:Nat)(h:qi k c d=some true)(a:aq M w c x)(b:aq M w d e):Instr.sameBits n e x=true:=by
 cases k<;>cases c<;>cases d<;>simp only[qi,reduceCtorEq,aad.injEq] at h
 .split at h
  .rename_i f;subst f;simp at h;subst h;simp only[aq] at a b;subst a;subst b;simp[Instr.sameBits]
  .cases h
 .simp at h;subst h;simp only[aq] at a b;subst a;subst b;simp[Instr.sameBits]
 .simp at h;subst h;simp only[aq] at a b;subst a;subst b;simp only[Instr.sameBits,beq_toListBytes,beq_self_eq_true]
def znE(n:Nat):∀{ks:List Kd} {cs ds:List V} {xs ys:List Value},cB ks cs ds=some true->ai M w cs xs->ai M w ds ys->ys.length=xs.length/\((ys.zip xs).all fun(p:Value×Value)=>Instr.sameBits n p.1 p.2)=true
 | [],[],[],xs,ys,_,a,b=>by
  simp only[ai] at a b;subst a;subst b
  exact⟨rfl,rfl⟩
 | [],[],_::_,_,_,h,_,_=>by simp[cB] at h
 | [],_::_,_,_,_,h,_,_=>by simp[cB] at h
 | _::_,[],_,_,_,h,_,_=>by simp[cB] at h
 | _::_,_::_,[],_,_,h,_,_=>by simp[cB] at h
 | k::ks,c::cs,d::ds,xs,ys,h,a,b=>by
  simp only[ai] at a b;obtain⟨x,o,rfl,e,a⟩:=a;obtain⟨y,f,rfl,g,b⟩:=b;simp only[cB] at h;split at h
  case h_2=>cases h
  rename_i u v i j;simp only[aad.injEq,aab] at h;obtain⟨rfl,rfl⟩:=h;obtain⟨l,m⟩:=znE n j a b;exact⟨by simp[l],by simp only[abi,abc,aab];exact⟨zv6 n i e g,m⟩⟩
def zpl{ky:Ky}{a b:V}{x e:Value}(h:j4 ky a b=some true)(c:aq M w a x)(d:aq M w b e):Instr.sameBits 10000 e x=true:=by
 cases ky with
 | sc kd=>exact zuy (k:=kd) h c d
 | row l =>
  cases a<;>cases b<;>simp only[j4,reduceCtorEq] at h
  simp only[aq] at c d;obtain⟨_,xs,rfl,f⟩:=c;obtain⟨_,m,rfl,g⟩:=d;obtain⟨i,j⟩:=znE 9999 h f g;rw[Instr.sameBits];simp only[List.size_toArray,i,beq_self_eq_true,Bool.true_and];exact j
def XA{ky:Ky}{a:V}:∀{es:List (V×V)} {i j:Nat} {u:V},j0 ky a es i=some (some (j,u))->i<=j/\∃p,es[j-i]?=some p/\p.2=u/\j4 ky a p.1=some true
 | [],i,j,u,h=>by simp[j0] at h
 | p::es,i,j,u,h=>by
  simp only[j0] at h;split at h
  .rename_i b;simp only[aad.injEq,aa_.injEq] at h;obtain⟨rfl,rfl⟩:=h;exact⟨aar _,p,ir,rfl,b⟩
  .obtain⟨e,q,c,d⟩:=XA h;refine⟨an,q,?_,d⟩;rw[show j-i=(j-(i+1))+1 by omega];simpa using c
  .cases h
def Na{id:Nat}{es fs:List (V×V)}{ents:Array MapEntry}(b:aG M w H)(c:H[id]?=some (some (.map es)))
  (g:ai M w (fs.map (·.1)) (ents.toList.map (·.key))) (h:ai M w (fs.map (·.2)) (ents.toList.map (·.val))) (k:∀(i:Nat) (x:MapEntry),ents[i]?=some x->x.born=i) :
  ez M H w (M.cI (M.j id) 0) (H.set id (some (.map fs))) { w with heap:=w.heap.setIfInBounds (M.j id) (.map ents fs.length) }/\eQ M (M.cI (M.j id) 0) H.length /\
   aG (M.cI (M.j id) 0) { w with heap:=w.heap.setIfInBounds (M.j id) (.map ents fs.length) } (H.set id (some (.map fs))):=by
 have d:=b.rel id _ c;simp only[aK] at d;obtain⟨l,n,m,_⟩:=d;have e:=MapKept.heap_set (o':=.map ents fs.length) m;refine Rb b c rfl rfl l 0 rfl rfl rfl ir e.2 λa f=>?_;simp only[aK];exact⟨by simp[Mm.cI],ents,e.1,ai.step a b f g,ai.step a b f h,k⟩
def Kj{cs:List V}{xs:List Value}(h:ai M w cs xs){i:Nat}{c:V}{x:Value}(g:aq M w c x):ai M w (cs.set i c) (xs.set i x):=by
 have b:=gQ h;refine Am (by simp[b]) λj d y hd a=>?_;rw[aay] at hd a
 by_cases e:i=j
 .subst e;simp only[if_true] at hd a;split at hd
  .rename_i k;rw[if_pos (by rw[b];exact k)] at a;cases hd;cases a;exact g
  .cases hd
 .rw[if_neg e] at hd a;obtain⟨m,f,l⟩:=nZ h hd;rw[a] at f;cases f;exact l
def zwZ{t W el:TypeId}{x y z:Operand}{Y g sz:X}{base:Nat}{ky:Ky}(B:o.op=.insert t x y z\/o.op=.mapUpdate t x y z)(d:aH M.fm x Y=true)(hy:aH M.fm y g=true)(hz:aH M.fm z sz=true)
  (oe:mapOf? P t=some (W,el)) (I:l8 P W ky=true) (J:bj M w e a n) (K:aG M w H) (f:aX base e H (.mput ky Y g sz)=some (v,H1)):cY P o a M H w v H1:=by
 have Z:=mapOf?_some oe;have C:=fy d J;have j:=fy hy J;have Kk:=fy hz J;simp only[aX] at f;split at f
 case h_2=>cases f
 rename_i id hp;split at f
 case isTrue=>cases f
 rename_i kg;split at f
 case h_2=>cases f
 rename_i D L;rw[hp] at C;simp only[aq] at C;have cM:=K.rel id _ L;simp only[aK] at cM;obtain⟨_,ents,hh,l,E,N⟩:=cM
 have m:ents.size=D.length:=by have:=gQ l;simpa using this
 have gn:=MapKept.run_getObj_map (P:=P) hh
 have O:ky.isRow=true->∃b,j4 ky (g.ev e) (g.ev e)=some b:=λ_=>by
  cases hq:j4 ky (g.ev e) (g.ev e) with
  | none=>exact absurd (.inl hq) kg
  | some b=>exact⟨b,rfl⟩
 have mq:=λem=>RA I j O em w;have dT:=λob=>MapKept.run_setObj_map (P:=P) ob hh
 have q:∀w',(Instr.mapUpdate t (a.eval x) (a.eval y) (a.eval z)).run P w=.ok () w'->(execOp a.eval o).run P w=.ok .skip w':=by
  intro w' h
  rcases B with B|B<;>simp only[execOp,B,Sem.run_bind,h,Result.andThen_ok,Sem.run_pure]
 split at f
 .rename_i i u F;obtain⟨Q,R,s⟩:=Kg I j O l E F
  cases Q with
  | none=>simp only[uy] at s
  | some q' =>
   obtain⟨j',x'⟩:=q';simp only[uy] at s;obtain⟨rfl,_,⟨p,kC,wI,G,_,_⟩,_⟩:=s;obtain⟨_,p',S,_,HQ⟩:=XA F;rw[S] at wI;cases wI;simp only[abh] at S G;cases f
   have vi:aq M w p.1 kC.key:=by obtain⟨y2,h2,h3⟩:=nZ l (i:=i) (c:=p.1) (by rw[aam,S];rfl);rw[aam,G] at h2;cases h2;exact h3
   have XB:=zpl HQ j vi
   have T:ents[i]?=some kC:=by rw[<-aag];exact G
   have U:(ents.modify i λen=>{ en with key:=a.eval y,val:=a.eval z }).toList=ents.toList.set i { kC with key:=a.eval y,val:=a.eval z }:=by
    apply abn;intro k;rw[aag,aba,aay]
    by_cases A:i=k
    .subst A;have aj:i<ents.toList.length:=(aae.1 G).1;rw[if_pos rfl,if_pos rfl,if_pos aj,T];rfl
    .rw[if_neg A,if_neg A,aag]
   obtain⟨st,V,r⟩:=Na (fs:=D.set i (g.ev e,sz.ev e)) (ents:=ents.modify i λen=>{ en with key:=a.eval y,val:=a.eval z }) K L
    (by rw[U,aan,aan];exact Kj l j) (by rw[U,aan,aan];exact Kj E Kk)
    (λk x d=>by
     rw[<-aag,U,aay] at d;split at d
     .rename_i A;subst A;split at d
      .cases d;exact N _ kC T
      .cases d
     .rw[aag] at d;exact N k x d)
   refine⟨.skip,_,_,q _ ?_,rfl,st,V,r⟩;simp only[Instr.mapUpdate,C.2,Sem.run_bind,run_underlying Z,Result.andThen_ok,gn,mq,R,Instr.keyThatStays,T,abx,aa2,XB,if_true,Sem.run_pure,dT,aaq]
 .rename_i F;obtain⟨Q,R,s⟩:=Kg I j O l E F
  cases Q with
  | some q'=>simp only[uy] at s
  | none =>
   cases f
   obtain⟨st,V,r⟩:=Na (fs:=D++[(g.ev e,sz.ev e)]) (ents:=ents.push { key:=a.eval y,val:=a.eval z,born:=D.length }) K L
    (by rw[aas,aaM,aas];exact yR l (by simp only[aal,aau,ai];exact⟨_,_,rfl,j,rfl⟩))
    (by rw[aas,aaM,aas];exact yR E (by simp only[aal,aau,ai];exact⟨_,_,rfl,Kk,rfl⟩))
    (λk x d=>by
     rw[abe] at d;split at d
     .rename_i Hd;cases d;rw[<-m];exact Hd.symm
     .exact N k x d)
   refine⟨.skip,_,_,q _ ?_,rfl,st,V,r⟩;simp only[Instr.mapUpdate,C.2,Sem.run_bind,run_underlying Z,Result.andThen_ok,gn,mq,R,dT,abl,aa1,aaQ]
 .cases f
def zFF{t:TypeId}{x:Operand}{d:X}{base s:Nat}(g:o.op=.range t x)(h:aH M.fm x d=true)(i:P.underlying t=some .string)(j:bj M w e a n)(k:aG M w H)
  (b:aX base e H (.E9 s d)=some (v,H1)):cY P o a M H w v H1:=by
 have c:=fy h j;simp only[aX] at b;split at b
 case h_2=>cases b
 rename_i f l;split at b
 case isFalse=>cases b
 rename_i m;cases b;rw[l] at c;simp only[aq] at c
 obtain⟨st,p,r⟩:=MJ (ob:=.stringIter ⟨f.toArray⟩ 0) (blk0:=.dF f 0) k m rfl λq u=>by
  simp only[aK];refine⟨by simp[Mm.iL],?_⟩;simp only[Mm.iL,if_true];exact heap_alloc_new w _
 refine⟨.value (.pointer (some ⟨w.heap.size,0,none⟩)),_,_,?_,?_,st,p,r⟩
 .simp[execOp,g,c,Instr.range,run_underlying i]
 .simp only[aq,Mm.iL,decide_true,abC,if_true,true_and]
def zFG{x:Operand}{k:X}{base:Nat}(l:o.op=.next x true)(s:aH M.fm x k=true)(t:bj M w e a n)(f:aG M w H)
  (c:aX base e H (.x6 k)=some (v,H1)):cY P o a M H w v H1:=by
 have d:=fy s t;simp only[aX] at c;split at c
 case h_2=>cases c
 rename_i id u;split at c
 case h_2=>cases c
 rename_i b pos m;rw[u] at d;simp only[aq] at d;have p:=f.rel id _ m;simp only[aK] at p;obtain⟨y,g⟩:=p;split at c
 .rename_i h;cases c;have i:=Lib.run_next_any_at (P:=P) w (M.j id) ⟨b.toArray⟩ pos o.type g (by rw[zgA];exact h);have q:=MapKept.heap_set (o':=.stringIter ⟨b.toArray⟩ (pos+(Utf8.decode ⟨b.toArray⟩ pos).2)) g
  obtain⟨st,z,r⟩:=Rb (blk1:=.dF b (pos+(Utf8.decode ⟨b.toArray⟩ pos).2)) (w':=w.iterAt (M.j id) ⟨b.toArray⟩ (pos+(Utf8.decode ⟨b.toArray⟩ pos).2)) f m rfl rfl y 0 rfl rfl rfl (by simp[World.iterAt]) q.2 λA B=>by
   simp only[aK];exact⟨by simp[Mm.cI],q.1⟩
  refine⟨.value (.tuple #[.bool true,.int .i64 pos,.int .i32 (Utf8.decode ⟨b.toArray⟩ pos).1]),_,_,?_,?_,st,z,r⟩
  .simp only[execOp,l,d.2,Sem.run_bind,i,Result.andThen_ok,Sem.run_pure]
  .simp only[aq];exact⟨[.bool true,.int .i64 pos,.int .i32 (Utf8.decode ⟨b.toArray⟩ pos).1],rfl,by simp[ai,aq]⟩
 .rename_i h;cases c;have i:=Lib.run_next_end_at (P:=P) w (M.j id) ⟨b.toArray⟩ pos o.type g (by rw[zgA];exact h);refine .plain (rv:=.tuple #[.bool false]) f ?_ ?_
  .simp only[execOp,l,d.2,Sem.run_bind,i,Result.andThen_ok,Sem.run_pure]
  .simp only[aq];exact⟨[.bool false],rfl,by simp[ai,aq]⟩
variable {P:Program} {M M':Mm} {H H1:ae} {w w':World} {e:Env} {a:Act} {n:Nat} {o:Oper} {v:V}
def zpm{ents:Array MapEntry}{i:Nat}{f:MapEntry->MapEntry}{a:MapEntry}(h:ents[i]?=some a):(ents.modify i f).toList=ents.toList.set i (f a):=by
 have c:ents.toList[i]?=some a:=by rw[aag];exact h
 apply abn;intro k;rw[aag,aba,aay]
 by_cases b:i=k
 .subst b;have d:i<ents.toList.length:=(aae.1 c).1;rw[if_pos rfl,if_pos rfl,if_pos d,h];rfl
 .rw[if_neg b,if_neg b,aag]
def zuz{ents:Array MapEntry}{i:Nat}{b c:MapEntry}{d:Array MapEntry}(f:d.toList=ents.toList.set i c)(g:ents[i]?=some b)(h:c.born=b.born)(e:∀(i:Nat) (x:MapEntry),ents[i]?=some x->x.born=i) :
  ∀(k:Nat) (x:MapEntry),d[k]?=some x->x.born=k:=λk x a=>by
 rw[<-aag,f,aay] at a;split at a
 .rename_i j;subst j;split at a
  .cases a;rw[h];exact e _ b g
  .cases a
 .rw[aag] at a;exact e k x a
def zEo{t kt K:TypeId}{x y:Operand}{sx j:X}{base:Nat}{ky:Ky}{z:V}(ho:o.op=.mapEntry t x y)(m:aH M.fm x sx=true)(hy:aH M.fm y j=true)
  (oe:mapOf? P t=some (kt,K)) (S:l8 P kt ky=true) (q:Ki P K z=true) (ht:bj M w e a n) (C:aG M w H) (d:aX base e H (.va ky z sx j)=some (v,H1)):cY P o a M H w v H1:=by
 have hu:=mapOf?_some oe;have L:=fy m ht;have s:=fy hy ht
 obtain⟨i,g,hi,T,Ft⟩:∃i g,P.info? K=some i/\i.zero=some g/\tF g z=true:=by
  unfold Ki at q;split at q
  .rename_i i hi;split at q
   .rename_i g T;exact⟨i,g,hi,T,q⟩
   .cases q
  .cases q
 have l:∀w,(zeroValue K).run P w=.ok g w:=λw=>by simp[zeroValue,typeInfo,hi,T]
 have DA:aq M w z g:=Rh Ft;simp only[aX] at d;split at d
 case h_2=>cases d
 rename_i id hp;split at d
 case isTrue=>cases d
 rename_i kg;split at d
 case h_2=>cases d
 rename_i A U;rw[hp] at L;simp only[aq] at L;have cM:=C.rel id _ U;simp only[aK] at cM;obtain⟨_,ents,hh,B,D,W⟩:=cM
 have E:ents.size=A.length:=by have:=gQ B;simpa using this
 have gn:=MapKept.run_getObj_map (P:=P) hh
 have Y:ky.isRow=true->∃b,j4 ky (j.ev e) (j.ev e)=some b:=λ_=>by
  cases hq:j4 ky (j.ev e) (j.ev e) with
  | none=>exact absurd hq kg
  | some b=>exact⟨b,rfl⟩
 have mq:=λem=>RA S s Y em w;have dT:=λob=>MapKept.run_setObj_map (P:=P) ob hh
 have F:∀r w',(Instr.mapEntry t (a.eval x) (a.eval y)).run P w=.ok r w'->(execOp a.eval o).run P w=.ok (.value r) w':=by intro r w' h;simp only[execOp,ho,Sem.run_bind,h,Result.andThen_ok,Sem.run_pure]
 split at d
 .rename_i i u N;obtain⟨Z,kS,G⟩:=Kg S s Y B D N
  cases Z with
  | none=>simp only[uy] at G
  | some q' =>
   obtain⟨j',x'⟩:=q';simp only[uy] at G;obtain⟨rfl,_,⟨p,kC,wI,O,_,_⟩,ha⟩:=G;obtain⟨_,p',Q,lK,HQ⟩:=XA N;rw[Q] at wI;cases wI;simp only[abh] at Q O;cases d
   have vi:aq M w p.1 kC.key:=by obtain⟨y2,I,h3⟩:=nZ B (i:=i) (c:=p.1) (by rw[aam,Q];rfl);rw[aam,O] at I;cases I;exact h3
   have Nb:aq M w p.2 kC.val:=by obtain⟨y2,I,h3⟩:=nZ D (i:=i) (c:=p.2) (by rw[aam,Q];rfl);rw[aam,O] at I;cases I;exact h3
   have XB:=zpl HQ s vi
   have R:ents[i]?=some kC:=by rw[<-aag];exact O
   have q6:=zpm (f:=λen=>{ en with key:=a.eval y }) R
   have hc:(ents.toList.set i { kC with key:=a.eval y }).map (·.val)=(ents.toList.map (·.val)).set i kC.val:=by rw[aan]
   obtain⟨st,J,r⟩:=Na (fs:=A.set i (j.ev e,u)) (ents:=ents.modify i λen=>{ en with key:=a.eval y }) C U
    (by rw[q6,aan,aan];exact Kj B s) (by rw[q6,hc,aan,<-lK];exact Kj D Nb)
    (zuz q6 R rfl W)
   have PG:=W i kC R;refine⟨.value (.tuple #[x',.int .i64 (i:Int)]),_,_,F _ _ ?_,?_,st,J,r⟩
   .simp only[Instr.mapEntry,L.2,Sem.run_bind,run_underlying hu,Result.andThen_ok,gn,mq,kS,Instr.keyThatStays,R,abx,aa2,XB,if_true,Sem.run_pure,dT,aaq,PG,goInt]
   .simp only[aq];refine⟨[x',.int .i64 (i:Int)],rfl,?_⟩;simp only[ai];exact⟨_,_,rfl,aq.step st C J ha,_,_,rfl,by simp only[aq],rfl⟩
 .rename_i N;obtain⟨Z,kS,G⟩:=Kg S s Y B D N
  cases Z with
  | some q'=>simp only[uy] at G
  | none =>
   cases d
   obtain⟨st,J,r⟩:=Na (fs:=A++[(j.ev e,z)]) (ents:=ents.push { key:=a.eval y,val:=g,born:=A.length }) C U
    (by rw[aas,aaM,aas];exact yR B (by simp only[aal,aau,ai];exact⟨_,_,rfl,s,rfl⟩))
    (by rw[aas,aaM,aas];exact yR D (by simp only[aal,aau,ai];exact⟨_,_,rfl,DA,rfl⟩))
    (λk x m=>by
     rw[abe] at m;split at m
     .rename_i Hd;cases m;rw[<-E];exact Hd.symm
     .exact W k x m)
   refine⟨.value (.tuple #[g,.int .i64 (A.length:Int)]),_,_,F _ _ ?_,?_,st,J,r⟩
   .simp only[Instr.mapEntry,L.2,Sem.run_bind,run_underlying hu,Result.andThen_ok,gn,mq,kS,l,dT,abl,aa1,aaQ,Sem.run_pure,goInt]
   .simp only[aq];refine⟨[g,.int .i64 (A.length:Int)],rfl,?_⟩;simp only[ai];exact⟨_,_,rfl,aq.step st C J DA,_,_,rfl,by simp only[aq],rfl⟩
 .cases d
def zuA{ents:Array MapEntry}{i:Nat}(hi:i<ents.size)(a:∀(i:Nat) (x:MapEntry),ents[i]?=some x->x.born=i):ents.findIdx? (λb=>(b.born:Int)==(i:Int))=some i:=by rw[Array.findIdx?_eq_some_iff_getElem];refine⟨hi,by simp[a i _ (aaI hi)],λj c=>?_⟩;have:=a j _ (aaI (show j<ents.size by omega));simp[this];omega
def zFH{t:TypeId}{x y z:Operand}{A B sz:X}{base:Nat}(L:o.op=.entryStore t x y z)(N:aH M.fm x A=true)(O:aH M.fm y B=true)(Q:aH M.fm z sz=true)
  (g:bj M w e a n) (C:aG M w H) (b:aX base e H (.E8 A B sz)=some (v,H1)):cY P o a M H w v H1:=by
 have h:=fy N g;have j:=fy O g;have R:=fy Q g;simp only[aX] at b;split at b
 case h_2=>cases b
 rename_i id k i S T;split at b
 case h_2=>cases b
 rename_i D E;split at b
 case isFalse=>cases b
 rename_i U;split at b
 case h_2=>cases b
 rename_i p l;cases b;obtain⟨i,rfl⟩:=Int.eq_ofNat_of_zero_le U;simp only[Int.toNat_natCast] at l |-;rw[S] at h;rw[T] at j;simp only[aq] at h j;have F:=C.rel id _ E;simp only[aK] at F;obtain⟨_,ents,G,m,V,I⟩:=F
 have d:ents.size=D.length:=by have:=gQ m;simpa using this
 have J:i<ents.size:=by rw[d];exact(aae.1 l).1
 obtain⟨kC,q⟩:∃kC,ents[i]?=some kC:=⟨_,aaI J⟩
 have W:ents.toList[i]?=some kC:=by rw[aag];exact q
 have Y:=MapKept.run_getObj_map (P:=P) G;have Z:=λob=>MapKept.run_setObj_map (P:=P) ob G
 have vi:aq M w p.1 kC.key:=by obtain⟨y2,K,h3⟩:=nZ m (i:=i) (c:=p.1) (by rw[aam,l];rfl);rw[aam,W] at K;cases K;exact h3
 have s:=zpm (f:=λen=>{ en with val:=a.eval z }) q
 have u:(ents.toList.set i { kC with val:=a.eval z }).map (·.key)=(ents.toList.map (·.key)).set i kC.key:=by rw[aan]
 obtain⟨st,ii,r⟩:=Na (fs:=D.set i (p.1,sz.ev e)) (ents:=ents.modify i λen=>{ en with val:=a.eval z }) C E
  (by rw[s,u,aan];exact Kj m vi) (by rw[s,aan,aan];exact Kj V R)
  (zuz s q rfl I)
 refine⟨.skip,_,_,?_,rfl,st,ii,r⟩;have hf:=zuA J I;simp only[execOp,L,Instr.entryStore,h.2,j,Sem.run_bind,Y,Result.andThen_ok,asInt,asIntOf,Sem.run_pure,hf,Z,aaq]
def aq.k9{c:V}{x:Value}(h:aq M w c x):aq M w c.k9 x:=by
 cases c<;>first|exact h|skip
 simp only[V.k9,aq] at h |-;obtain⟨p,a,b,d,e,f,_⟩:=h;exact⟨p,a,b,d,e,f,trivial⟩
def ai.tJ{g:V->V}(a:∀{c:V} {x:Value},aq M w c x->aq M w (g c) x):∀{cs:List V} {xs:List Value},ai M w cs xs->ai M w (cs.map g) xs
 | [],_,h=>by simpa only[ai,aau] using h
 | c::cs,_,h=>by
  simp only[ai,aal] at h |-;obtain⟨x,b,rfl,d,e⟩:=h;exact⟨x,b,rfl,a d,ai.tJ a e⟩
def V.AJ(c:V):c.k9.fg=c.fg:=by cases c<;>rfl
def aq.Fa{c:V}{x:Value}(h:aq M w c x):aq M w c.Fa x:=by
 cases c<;>first|exact h|exact aq.k9 h|skip
 simp only[V.Fa,aq] at h |-;obtain⟨p,xs,a,b⟩:=h;refine⟨?_,xs,a,ai.tJ aq.k9 b⟩;intro c e;obtain⟨d,hd,rfl⟩:=aaR.1 e;rw[V.AJ];exact p d hd
end Go.Ev
namespace Go.Ev
open Go Go.RowKit
variable {P:Program} {M M':Mm} {H H1:ae} {w w':World}
def Fu(P:Program)(t:TypeId)(z:List V):Bool :=
 match P.info? t with
 | some i=>match i.zero with
  | some a=>r7 a.cells.toList z
  | none=>false
 | none=>false
def Kl{t:TypeId}{z:List V}(h:Fu P t z=true):∃i a,P.info? t=some i/\i.zero=some a/\r7 a.cells.toList z=true:=by
 unfold Fu at h;split at h
 .rename_i i hi;split at h
  .rename_i a b;exact⟨i,a,hi,b,h⟩
  .cases h
 .cases h
def xb(P:Program)(t:TypeId)(sz:Nat):Bool:=match P.info? t with|some i=>i.size==sz|none=>false
def y0{t:TypeId}{sz:Nat}(h:xb P t sz=true):∃i,P.info? t=some i/\i.size=sz:=by
 unfold xb at h;split at h
 .rename_i i hi;exact⟨i,hi,by simpa using h⟩
 .cases h
def bI(P:Program)(fm:Fm)(o:Op)(s:dO):Bool :=
 match s with
 | .mv d=>match o with
  | .move x=>aH fm x d
  | .assign x=>aH fm x d
  | _=>false
 | .pick sc I J=>match o with
  | .pick c a b=>aH fm c sc&&aH fm a I&&aH fm b J
  | _=>false
 | .box _ d=>match o with
  | .box _ x=>aH fm x d
  | _=>false
 | .alloc _ z=>match o with
  | .alloc t=>Fu P t z
  | _=>false
 | .build z qs=>match o with
  | .build t r=>Fu P t z&&Xc P t&&tH fm (J7 P t) r.toList qs
  | _=>false
 | .bslice k z qs=>match o with
  | .buildSlice t A r=>match elemOf? P t with
   | some h=>k==A&&Fu P h z&&xb P h z.length&&decide (0<z.length)&&decide (k*z.length<=16777216) &&
     tH fm (λj=>some (j*z.length,z.length)) r.toList (qs.map λq=>(q.1*z.length,z.length,q.2))
   | none=>false
  | _=>false
 | .jD _ k z qs=>match o with
  | .buildSlice t A r=>match elemOf? P t with
   | some h=>k==A&&Fu P h z&&xb P h z.length&&decide (0<z.length)&&decide (k*z.length<=16777216) &&
     tH fm (λj=>some (j*z.length,z.length)) r.toList (qs.map λq=>(q.1*z.length,z.length,q.2))
   | none=>false
  | _=>false
 | .mark d=>match o with
  | .convert st dt x=>st==dt&&(match P.underlying st with|some (.slice h)=>J2 P h .u8|_=>false)&&aH fm x d
  | _=>false
 | .load e m _ d=>match o with
  | .load t x=>aH fm x d&&g_ P t e m
  | _=>false
 | .store e d g=>match o with
  | .store t x y=>aH fm x d&&aH fm y g&&xb P t e
  | _=>false
 | .pz u d=>match o with
  | .fieldAddr t x f=>match J1 P t f u with
   | some D=>aH fm x d&&(match P.info? D with|some i=>i.size !=0|none=>false)
   | none=>false
  | _=>false
 | .Ho u e m d=>match o with
  | .field t x f=>match J1 P t f u with
   | some D=>aH fm x d&&g_ P D e m
   | none=>false
  | _=>false
 | .qN e d g=>match o with
  | .indexAddr t x y=>match elemOf? P t with
   | some h=>aH fm x d&&aH fm y g&&xb P h e
   | none=>false
  | _=>false
 | .mQ n e d g=>match o with
  | .indexAddr t x y=>match arrOf? P t with
   | some (k,h)=>k==n&&aH fm x d&&aH fm y g&&xb P h e
   | none=>false
  | _=>false
 | .idx n e m d g=>match o with
  | .index t x y=>match arrOf? P t with
   | some (k,h)=>k==n&&aH fm x d&&aH fm y g&&g_ P h e m
   | none=>false
  | _=>false
 | .bin E d g=>match o with
  | .binOp p _ x y _=>E==p&&aH fm x d&&aH fm y g
  | _=>false
 | .beq neg d g=>match o with
  | .binOp p v x y _=>p==(if neg then .neq else .eql)&&Rl P v&&aH fm x d&&aH fm y g
  | _=>false
 | .un E d=>match o with
  | .unOp p _ x=>E==p&&aH fm x d
  | _=>false
 | .conv k d=>match o with
  | .convert st dt x=>(P.underlying st).isSome&&J2 P dt k&&aH fm x d
  | _=>false
 | .mkfn f F=>match o with
  | .makeFunc (.func K) first L=>K==fm f&&first.isEmpty&&pZ fm L.toList F
  | _=>false
 | .ext i d=>match o with
  | .extract x M=>i==M&&aH fm x d
  | _=>false
 | .len st d=>match o with
  | .call { callee:=.builtin .len,args,argTypes }=>match args.toList,argTypes.toList with
   | [x],[t]=>aH fm x d&&(if st then B8 P t else(elemOf? P t).isSome)
   | _,_=>false
  | _=>false
 | .app _ e bytes d g=>match o with
  | .call { callee:=.builtin .append,args,argTypes }=>match args.toList,argTypes.toList with
   | [x,y],[t,N]=>aH fm x d&&aH fm y g&&W7 P t N e bytes
   | _,_=>false
  | _=>false
 | .slc e d B C G=>match o with
  | .slice t x lo hi H=>match elemOf? P t with
   | some h=>aH fm x d&&xb P h e&&n8 fm lo B&&n8 fm hi C&&n8 fm H G
   | none=>false
  | _=>false
 | .qO d=>match o with
  | .nilCheck x=>aH fm x d
  | _=>false
 | .pY _ bytes z d=>match o with
  | .makeSlice t l c=>match elemOf? P t with
   | some h=>aH fm l d&&aH fm c d&&Fu P h z&&xb P h z.length&&decide (0<z.length)&&(match P.info? h with|some i=>i.bytes==bytes&&decide (0<bytes)|none=>false)
   | none=>false
  | _=>false
 | .Hp O neg d g=>match o with
  | .binOp p v x y _=>p==(if neg then .neq else .eql)&&ux P 20 v==some O&&!P.eqGuardType P.depth v&&fB P v&&aH fm x d&&aH fm y g
  | _=>false
 | .pB k neg d=>match o with
  | .binOp p v x y _=>p==(if neg then .neq else .eql)&&Xw P k v y&&aH fm x d
  | _=>false
 | .mm H xs=>match o with
  | .call { callee:=.builtin b,args,argTypes:=_ }=>(match b,H with|.max,true=>true|.min,false=>true|_,_=>false)&&pZ fm args.toList xs
  | _=>false
 | .wW d g=>match o with
  | .index t x y=>B8 P t&&aH fm x d&&aH fm y g
  | _=>false
 | .sslc d B C=>match o with
  | .slice t x lo hi none=>B8 P t&&aH fm x d&&n8 fm lo B&&n8 fm hi C
  | _=>false
 | .qP _=>match o with
  | .makeMap _ none=>true
  | _=>false
 | .tD ky Q z d g=>match o with
  | .lookup t x y R=>match mapOf? P t with
   | some (w,h)=>Q==R&&l8 P w ky&&Ki P h z&&aH fm x d&&aH fm y g
   | none=>false
  | _=>false
 | .va ky z d g=>match o with
  | .mapEntry t x y=>match mapOf? P t with
   | some (w,h)=>l8 P w ky&&Ki P h z&&aH fm x d&&aH fm y g
   | none=>false
  | _=>false
 | .E8 d g e=>match o with
  | .entryStore _ x y z=>aH fm x d&&aH fm y g&&aH fm z e
  | _=>false
 | .mput ky d g e=>match o with
  | .insert t x y z=>match mapOf? P t with
   | some (w,_)=>l8 P w ky&&aH fm x d&&aH fm y g&&aH fm z e
   | none=>false
  | .mapUpdate t x y z=>match mapOf? P t with
   | some (w,_)=>l8 P w ky&&aH fm x d&&aH fm y g&&aH fm z e
   | none=>false
  | _=>false
 | .E9 _ d=>match o with
  | .range t x=>B8 P t&&aH fm x d
  | _=>false
 | .x6 d=>match o with
  | .next x true=>aH fm x d
  | _=>false
 | .loadR e m _ d=>match o with
  | .load t x=>aH fm x d&&g_ P t e m
  | _=>false
 | .storeA e _ d g=>match o with
  | .store t x y=>aH fm x d&&aH fm y g&&xb P t e
  | _=>false
 | .loadA e m _ d=>match o with
  | .load t x=>aH fm x d&&g_ P t e m
  | _=>false
 | .storeT e _ d g=>match o with
  | .store t x y=>aH fm x d&&aH fm y g&&xb P t e
  | _=>false
 | .sJ e m d=>match o with
  | .load t x=>aH fm x d&&g_ P t e m
  | _=>false
 | .jP _ e d g=>match o with
  | .store t x y=>aH fm x d&&aH fm y g&&xb P t e
  | _=>false
 | .bsliceR _ k z qs=>match o with
  | .buildSlice t A r=>match elemOf? P t with
   | some h=>k==A&&Fu P h z&&xb P h z.length&&decide (0<z.length)&&decide (k*z.length<=16777216) &&
     tH fm (λj=>some (j*z.length,z.length)) r.toList (qs.map λq=>(q.1*z.length,z.length,q.2))
   | none=>false
  | _=>false
 | .wX n e d B C=>match o with
  | .slice t x lo hi none=>match arrOf? P t with
   | some (k,h)=>k==n&&aH fm x d&&xb P h e&&n8 fm lo B&&n8 fm hi C
   | none=>false
  | _=>false
 | .E_ e d g=>match o with
  | .call { callee:=.builtin .copy,args,argTypes }=>match args.toList,argTypes.toList with
   | [x,y],[t,_]=>match elemOf? P t with
    | some h=>aH fm x d&&aH fm y g&&xb P h e
    | none=>false
   | _,_=>false
  | _=>false
 | .Hq d=>match o with
  | .convert st dt x=>(match P.underlying st with|some (.slice h)=>J2 P h .u8|_=>false)&&B8 P dt&&aH fm x d
  | _=>false
 | .Hr d=>match o with
  | .convert st dt x=>(match P.underlying st with|some (.int _)=>true|_=>false)&&B8 P dt&&aH fm x d
  | _=>false
 | .pcall _ _|.scall _ _|.kcall _ _ _|.vcall _ _ _|.scallA _ _ _|.scallE _ _=>false
section
variable {a:Act} {n:Nat} {e:Env} {H1:ae} {o:Oper} {v:V}
def znF:∀{es:List (List V)} {s:List UInt8},B7 es=some s->∃a:List Int,es=a.map (λn=>[V.int .u8 n])/\s=a.map λn=>abq n.toNat
 | [],s,h=>by simp only[B7,aad.injEq] at h;exact⟨[],rfl,by rw[<-h];rfl⟩
 | e::es,s,h=>by
  unfold B7 at h;split at h
  .rename_i b;cases b
  .rename_i m i c;cases c;split at h
   case h_2=>cases h
   rename_i j d;cases h;obtain⟨a,f,g⟩:=znF d;exact⟨m::a,by rw[f];rfl,by rw[g];rfl⟩
  .cases h
def zqG:∀(a:List Int) (r:ByteArray),a.foldl (λr n=>r.push (abq n.toNat)) r=⟨(r.data.toList++a.map λn=>abq n.toNat).toArray⟩
 | [],r=>by simp
 | n::a,r=>by
  rw[aby,zqG a];simp[ByteArray.push]
def zsM:∀{a:List Int} {xs:List Value},ai M w (a.map λn=>V.int .u8 n) xs->xs=a.map (Value.int .u8)
 | [],xs,h=>by simpa[ai] using h
 | n::a,xs,h=>by
  simp only[aal,ai,aq] at h;obtain⟨x,b,rfl,rfl,h⟩:=h;rw[zsM h];rfl
def zFI{st dt:TypeId}{k:IntKind}{x:Operand}{d:X}{base:Nat}(g:o.op=.convert st dt x)(h:aH M.fm x d=true)(i:P.underlying st=some (.int k))(hd:P.underlying dt=some .string)
  (j:bj M w e a n) (l:aG M w H) (b:aX base e H (.Hr d)=some (v,H1)):cY P o a M H w v H1:=by
 have c:=fy h j;simp only[aX] at b;split at b
 case h_2=>cases b
 rename_i m f p;cases b;rw[p] at c;simp only[aq] at c;refine .plain (rv:=.string (Utf8.encode f)) l ?_ (by simp only[aq]);have q:=run_convert_int_string (P:=P) w st dt m f (by rw[i];rfl) hd;simp[execOp,g,c,q]
def zFJ{st dt q:TypeId}{x:Operand}{B:X}{base:Nat}(G:o.op=.convert st dt x)(I:aH M.fm x B=true)(J:P.underlying st=some (.slice q))(K:P.underlying q=some (.int .u8))(hd:P.underlying dt=some .string)
  (L:bj M w e a n) (N:aG M w H) (g:aX base e H (.Hq B)=some (v,H1)):cY P o a M H w v H1:=by
 have r:=fy I L;simp only[aX] at g;split at g
 case h_2=>cases g
 rename_i i tk C;split at g
 case h_2=>cases g
 rename_i s D;cases g;rw[C] at r;obtain⟨c,k,t⟩:=znF D;simp only[aq] at r;obtain⟨_,m,d,E,O,l,_⟩:=r;refine .plain (rv:=.string ⟨s.toArray⟩) N ?_ (by simp only[aq]);have Q:=run_convert_bytes_string (P:=P) w st dt q m i.length d J K hd
 have R:(Conv.bytesToString (.slice m i.length d)).run P w=.ok (.string ⟨s.toArray⟩) w:=by
  cases m with
  | none =>
   obtain⟨rfl,rfl⟩:=l
   have:c=[]:=by simpa using k.symm
   subst this;rw[t];simp[Conv.bytesToString]
   rfl
  | some m =>
   obtain⟨b,y,sp⟩:=m;obtain⟨p,_,l⟩:=l
   have F:i.length=c.length:=by rw[k];simp
   rw[run_bytesToString w ⟨b,y,sp⟩ i.length d c ?_,zqG,t]
   .rfl
   .rw[F,<-aah (f:=Value.int .u8) (as:=c)]
    by_cases z:i=[]
    .have:c=[]:=by rw[z] at k;simpa using k.symm
     subst this;exact run_loadCells_list w _ _ (λj v h=>by simp at h)
    have p:=p.resolve_left z;simp only at p l;subst p;obtain⟨xs,A,S⟩:=Rn l
    have T:i.flatten=c.map λn=>V.int .u8 n:=by rw[k];clear A F z k C t D l O E;induction c with
     | nil=>rfl
     | cons n c U=>simp only[aal,aa0,U];rfl
    rw[T] at A;rw[<-zsM A];refine run_loadCells_list w _ _ λj u W=>?_;rw[Addr.add_mid];exact S j u W
 simp[execOp,G,E,Q,R]
end
def Nf{α:Type}{xs:Array α}{x:α}(h:xs.toList=[x]):xs=#[x]:=by apply aaC;simpa using h
def DB{α:Type}{xs:Array α}{x y:α}(h:xs.toList=[x,y]):xs=#[x,y]:=by apply aaC;simpa using h
def zzl{e:Env}{a:Act}{n base:Nat}{o:Oper}{v:V}{s:dO}(d:bI P M.fm o.op s=true)(q:bj M w e a n)(j:aG M w H)(h:aX base e H s=some (v,H1)) :
  cY P o a M H w v H1:=by
 cases s with
 | mv A =>
  simp only[bI] at d;simp only[aX,aad.injEq,aa_.injEq] at h;obtain⟨rfl,rfl⟩:=h;split at d
  .rename_i x g;exact zDj (.inl g) d q j
  .rename_i x g;exact zDj (.inr g) d q j
  .cases d
 | pick sc sa sb =>
  simp only[bI] at d;simp only[aX] at h;split at d
  case h_2=>cases d
  rename_i c x y g;simp only[aab] at d;split at h
  case h_2=>cases h
  rename_i b hb;cases h
  exact zEd g d.1.1 d.1.2 d.2 q j hb
 | box sl A =>
  simp only[bI] at d;simp only[aX] at h;split at d
  case h_2=>cases d
  rename_i t x g;split at h
  case h_2=>cases h
  rename_i cs O;split at h
  case isFalse=>cases h
  rename_i hf;cases h
  exact zFu g d q j O hf
 | alloc sl z =>
  simp only[bI] at d;simp only[aX] at h;split at d
  case h_2=>cases d
  rename_i t g;split at h
  case isFalse=>cases h
  rename_i hf;cases h;obtain⟨i,S,m,p,u⟩:=Kl d
  exact zBN g m p u j hf
 | build z qs =>
  simp only[bI] at d;split at d
  case h_2=>cases d
  rename_i t ps g;simp only[aab] at d;obtain⟨i,S,m,p,u⟩:=Kl d.1.1
  exact zBS g m p u d.1.2 d.2 q j h
 | bslice k z qs =>
  simp only[bI] at d;split at d
  case h_2=>cases d
  rename_i t k' ps g;split at d
  case h_2=>cases d
  rename_i F B;simp only[aab,beq_iff_eq,decide_eq_true_eq] at d;obtain⟨⟨⟨⟨⟨rfl,T⟩,U⟩,W⟩,X⟩,D⟩:=d;obtain⟨i,S,m,p,u⟩:=Kl T;obtain⟨i',K,Q⟩:=y0 U;rw[m] at K;cases K
  exact zze g B m Q W X p u D q j h
 | jD sl k z qs =>
  simp only[bI] at d;split at d
  case h_2=>cases d
  rename_i t k' ps g;split at d
  case h_2=>cases d
  rename_i F B;simp only[aab,beq_iff_eq,decide_eq_true_eq] at d;obtain⟨⟨⟨⟨⟨rfl,T⟩,U⟩,W⟩,X⟩,D⟩:=d;obtain⟨i,S,m,p,u⟩:=Kl T;obtain⟨i',K,Q⟩:=y0 U;rw[m] at K;cases K
  exact zxS g B m Q W X p u D q j h
 | mark A =>
  simp only[bI] at d;split at d
  case h_2=>cases d
  rename_i st dt x g;simp only[aab,beq_iff_eq] at d;obtain⟨⟨rfl,p⟩,u⟩:=d;split at p
  case h_2=>cases p
  rename_i F B
  exact zEj g u B (J3 p) q j h
 | load sz Y old A =>
  simp only[bI] at d;split at d
  case h_2=>cases d
  rename_i t x g;simp only[aab] at d
  exact Ri g d.1 d.2 q j h
 | store sz A G =>
  simp only[bI] at d;split at d
  case h_2=>cases d
  rename_i t x y g;simp only[aab] at d;obtain⟨i,m,p⟩:=y0 d.2
  exact Rk g d.1.1 d.1.2 (by rw[m];simp[p]) q j h
 | pz I A =>
  simp only[bI] at d;split at d
  case h_2=>cases d
  rename_i t x f g;split at d
  case h_2=>cases d
  rename_i ft yC;simp only[aab] at d;obtain⟨m,p⟩:=d;split at p
  .rename_i i hi;exact zBO g m yC hi (by simpa using p) q j h
  .cases p
 | Ho I sz Y A =>
  simp only[bI] at d;split at d
  case h_2=>cases d
  rename_i t x f g;split at d
  case h_2=>cases d
  rename_i ft yC;simp only[aab] at d
  exact zFv g d.1 yC d.2 q j h
 | qN sz A G =>
  simp only[bI] at d;split at d
  case h_2=>cases d
  rename_i t x y g;split at d
  case h_2=>cases d
  rename_i F B;simp only[aab] at d;obtain⟨i,m,p⟩:=y0 d.2
  exact zBP g d.1.1 d.1.2 B m p q j h
 | mQ len sz A G =>
  simp only[bI] at d;split at d
  case h_2=>cases d
  rename_i t x y g;split at d
  case h_2=>cases d
  rename_i k F B;simp only[aab,beq_iff_eq] at d;obtain⟨⟨⟨rfl,u⟩,E⟩,J⟩:=d;obtain⟨i,m,p⟩:=y0 J
  exact zza g u E B m p q j h
 | idx len sz Y A G =>
  simp only[bI] at d;split at d
  case h_2=>cases d
  rename_i t x y g;split at d
  case h_2=>cases d
  rename_i k F B;simp only[aab,beq_iff_eq] at d;obtain⟨⟨⟨rfl,u⟩,E⟩,J⟩:=d
  exact zFw g u E B J q j h
 | bin op A G =>
  simp only[bI] at d;split at d
  case h_2=>cases d
  rename_i yb xt x y yt g;simp only[aab,beq_iff_eq] at d;obtain⟨⟨rfl,u⟩,E⟩:=d
  exact zFx g u E q j h
 | beq neg A G =>
  simp only[bI] at d;split at d
  case h_2=>cases d
  rename_i yb xt x y yt g;simp only[aab,beq_iff_eq] at d;obtain⟨⟨⟨rfl,p⟩,u⟩,E⟩:=d
  exact zFy g u E (Rm p) q j h
 | un op A =>
  simp only[bI] at d;split at d
  case h_2=>cases d
  rename_i yb xt x g;simp only[aab,beq_iff_eq] at d;obtain⟨rfl,u⟩:=d
  exact zKo g u q j h
 | conv k A =>
  simp only[bI] at d;split at d
  case h_2=>cases d
  rename_i st dt x g;simp only[aab] at d;obtain⟨sd,Rv⟩:=aa3.1 d.1.1
  exact zEe g d.2 Rv (J3 d.1.2) q j h
 | mkfn f ha =>
  simp only[bI] at d;simp only[aX,aad.injEq,aa_.injEq] at h;obtain⟨rfl,rfl⟩:=h;split at d
  case h_2=>cases d
  rename_i f' first Nc g
  simp only[aab,beq_iff_eq,Array.isEmpty_iff] at d;obtain⟨⟨m,rfl⟩,u⟩:=d
  exact zEf g m u q j
 | ext i A =>
  simp only[bI] at d;split at d
  case h_2=>cases d
  rename_i x i' g;simp only[aab,beq_iff_eq] at d;obtain⟨rfl,u⟩:=d
  exact zFz g u q j h
 | len st A =>
  simp only[bI] at d;split at d
  case h_2=>cases d
  rename_i L C g;split at d
  case h_2=>cases d
  rename_i x t m p;rw[Nf m,Nf p] at g;simp only[aab] at d;refine zFA g d.1 ?_ q j h
  cases st with
  | true=>simpa using B9 (by simpa using d.2)
  | false=>simp only[aat,if_false] at d |-;exact aa3.1 d.2
 | app sl sz bytes A G =>
  simp only[bI] at d;split at d
  case h_2=>cases d
  rename_i L C g;split at d
  case h_2=>cases d
  rename_i x y t t' m p;rw[DB m,DB p] at g;simp only[aab] at d
  exact zFB g d.1.1 d.1.2 d.2 q j h
 | slc sz A oX p9 he =>
  simp only[bI] at d;split at d
  case h_2=>cases d
  rename_i t x lo hi mx g;split at d
  case h_2=>cases d
  rename_i F B;simp only[aab] at d;obtain⟨⟨⟨⟨m,p⟩,u⟩,E⟩,J⟩:=d;obtain⟨i,N,Z⟩:=y0 p
  exact zFC g m B N Z u E J q j h
 | qO A =>
  simp only[bI] at d;split at d
  case h_2=>cases d
  rename_i x g
  exact zBQ g d q j h
 | pY s bytes z A =>
  simp only[bI] at d;split at d
  case h_2=>cases d
  rename_i t l c g;split at d
  case h_2=>cases d
  rename_i F B;simp only[aab,decide_eq_true_eq] at d;obtain⟨⟨⟨⟨⟨m,p⟩,u⟩,E⟩,J⟩,N⟩:=d;obtain⟨i,S,Z,h8,h9⟩:=Kl u;obtain⟨i',K,Q⟩:=y0 E;rw[Z] at K;cases K;rw[Z] at N;simp only[aab,beq_iff_eq,decide_eq_true_eq] at N
  exact zEi g m p B Z Q N.1 N.2 J h8 h9 q j h
 | Hp ks neg A G =>
  simp only[bI] at d;split at d
  case h_2=>cases d
  rename_i yb xt x y yt g;simp only[aab,beq_iff_eq,abo] at d;obtain⟨⟨⟨⟨⟨rfl,m⟩,p⟩,u⟩,E⟩,J⟩:=d
  exact zFE g E J m p u q j h
 | pB k neg A =>
  simp only[bI] at d;split at d
  case h_2=>cases d
  rename_i yb xt x y yt g;simp only[aab,beq_iff_eq] at d;obtain⟨⟨rfl,m⟩,p⟩:=d
  exact zBZ g p m q j h
 | mm mx xs =>
  simp only[bI] at d;split at d
  case h_2=>cases d
  rename_i b L ts g;simp only[aab] at d
  have hb:b=(if mx then .max else .min):=by
   have:=d.1
   split at this<;>first|rfl|cases this
  subst hb
  exact zKr g d.2 q j h
 | wW A G =>
  simp only[bI] at d;split at d
  case h_2=>cases d
  rename_i t x y g;simp only[aab] at d
  exact zEl g d.1.2 d.2 (B9 d.1.1) q j h
 | sslc A oX p9 =>
  simp only[bI] at d;split at d
  case h_2=>cases d
  rename_i t x lo hi g;simp only[aab] at d
  exact zEm g d.1.1.2 (B9 d.1.1.1) d.1.2 d.2 q j h
 | qP s =>
  simp only[bI] at d;split at d
  case h_2=>cases d
  rename_i t g
  exact zB0 g j h
 | tD ky ok z A G =>
  simp only[bI] at d;split at d
  case h_2=>cases d
  rename_i t x y AE g;split at d
  case h_2=>cases d
  rename_i kt F R;simp only[aab,beq_iff_eq] at d;obtain⟨⟨⟨⟨rfl,m⟩,p⟩,u⟩,E⟩:=d
  exact zEn g u E R m p q j h
 | mput ky A G sz =>
  simp only[bI] at d;split at d
  .rename_i t x y z g;split at d
   case h_2=>cases d
   rename_i kt F R;simp only[aab] at d;exact zwZ (.inl g) d.1.1.2 d.1.2 d.2 R d.1.1.1 q j h
  .rename_i t x y z g;split at d
   case h_2=>cases d
   rename_i kt F R;simp only[aab] at d;exact zwZ (.inr g) d.1.1.2 d.1.2 d.2 R d.1.1.1 q j h
  .cases d
 | E9 s A =>
  simp only[bI] at d;split at d
  case h_2=>cases d
  rename_i t x g;simp only[aab] at d
  exact zFF g d.2 (B9 d.1) q j h
 | x6 A =>
  simp only[bI] at d;split at d
  case h_2=>cases d
  rename_i x g
  exact zFG g d q j h
 | loadR sz Y r A =>
  simp only[bI] at d;split at d
  case h_2=>cases d
  rename_i t x g;simp only[aab] at d;refine Ri (base:=base) (old:=false) g d.1 d.2 q j ?_;simp only[aX] at h |-;split at h
  case h_2=>cases h
  rename_i id I D;split at h
  case isFalse=>cases h
  rw[D]
  simpa[loadAt] using h
 | storeA sz rs A G =>
  simp only[bI] at d;split at d
  case h_2=>cases d
  rename_i t x y g;simp only[aab] at d;obtain⟨i,m,p⟩:=y0 d.2;refine Rk (base:=base) (sz:=sz) g d.1.1 d.1.2 (by rw[m];simp[p]) q j ?_;simp only[aX] at h |-;split at h
  case h_2=>cases h
  rename_i id I D;split at h
  case isFalse=>cases h
  rw[D];unfold storeAt at h;split at h
  .rename_i ds cs Aw O;rw[Aw];simp only[O];exact h
  .cases h
 | loadA sz Y rs A =>
  simp only[bI] at d;split at d
  case h_2=>cases d
  rename_i t x g;simp only[aab] at d;refine Ri (base:=base) (old:=false) g d.1 d.2 q j ?_;simp only[aX] at h |-;split at h
  case h_2=>cases h
  rename_i id I D;split at h
  case isFalse=>cases h
  rw[D]
  simpa[loadAt] using h
 | storeT sz r A G =>
  simp only[bI] at d;split at d
  case h_2=>cases d
  rename_i t x y g;simp only[aab] at d;obtain⟨i,m,p⟩:=y0 d.2;refine Rk (base:=base) (sz:=sz) g d.1.1 d.1.2 (by rw[m];simp[p]) q j ?_;simp only[aX] at h |-;split at h
  case h_2=>cases h
  rename_i id I D;split at h
  case isFalse=>cases h
  rw[D];unfold storeAt at h;split at h
  .rename_i ds cs Aw O;rw[Aw];simp only[O];exact h
  .cases h
 | sJ sz Y A =>
  simp only[bI] at d;split at d
  case h_2=>cases d
  rename_i t x g;simp only[aab] at d;refine Ri (base:=base) (old:=false) g d.1 d.2 q j ?_;simp only[aX] at h |-;split at h
  case h_2=>cases h
  rename_i cs D;rw[D]
  exact h
 | jP s sz A G =>
  simp only[bI] at d;split at d
  case h_2=>cases d
  rename_i t x y g;simp only[aab] at d;obtain⟨i,m,p⟩:=y0 d.2;refine Rk (base:=base) (sz:=sz) g d.1.1 d.1.2 (by rw[m];simp[p]) q j ?_;simp only[aX] at h |-;split at h
  case h_2=>cases h
  rename_i id I D;split at h
  case isFalse=>cases h
  rw[D];unfold storeAt at h;split at h
  .rename_i ds cs Aw O;rw[Aw];simp only[O];exact h
  .cases h
 | Hq A =>
  simp only[bI] at d;split at d
  case h_2=>cases d
  rename_i st dt x g;simp only[aab] at d;obtain⟨⟨m,p⟩,u⟩:=d;split at m
  case h_2=>cases m
  rename_i F hs
  exact zFJ g u hs (J3 m) (B9 p) q j h
 | Hr A =>
  simp only[bI] at d;split at d
  case h_2=>cases d
  rename_i st dt x g;simp only[aab] at d;obtain⟨⟨m,p⟩,u⟩:=d;split at m
  case h_2=>cases m
  rename_i k hs
  exact zFI g u hs (B9 p) q j h
 | va ks z x k =>
  simp only[bI] at d;split at d
  case h_2=>cases d
  rename_i t x' y' g;split at d
  case h_2=>cases d
  rename_i kt F R;simp only[aab] at d
  exact zEo g d.1.2 d.2 R d.1.1.1 d.1.1.2 q j h
 | E8 x i v =>
  simp only[bI] at d;split at d
  case h_2=>cases d
  rename_i t x' y' z' g;simp only[aab] at d
  exact zFH g d.1.1 d.1.2 d.2 q j h
 | bsliceR sp k z qs =>
  simp only[bI] at d;split at d
  case h_2=>cases d
  rename_i t k' ps g;split at d
  case h_2=>cases d
  rename_i F B;simp only[aab,beq_iff_eq,decide_eq_true_eq] at d;obtain⟨⟨⟨⟨⟨rfl,T⟩,U⟩,W⟩,X⟩,D⟩:=d;obtain⟨i,S,m,p,u⟩:=Kl T;obtain⟨i',K,Q⟩:=y0 U;rw[m] at K;cases K
  exact zxT g B m Q W X p u D q j h
 | wX len sz A oX p9 =>
  simp only[bI] at d;split at d
  case h_2=>cases d
  rename_i t x lo hi g;split at d
  case h_2=>cases d
  rename_i k F B;simp only[aab,beq_iff_eq] at d;obtain⟨⟨⟨⟨rfl,m⟩,p⟩,u⟩,E⟩:=d;obtain⟨i,J,N⟩:=y0 p
  exact zEg g m B J N u E q j h
 | E_ sz A G =>
  simp only[bI] at d;split at d
  case h_2=>cases d
  rename_i L C g;split at d
  case h_2=>cases d
  rename_i x y t t' eo HS;split at d
  case h_2=>cases d
  rename_i F B;simp only[aab] at d;obtain⟨i,J,N⟩:=y0 d.2;rw[DB eo,DB HS] at g
  exact zFD g d.1.1 d.1.2 B J N q j h
 | kcall ro f xs=>simp[bI] at d
 | pcall f xs=>simp[bI] at d
 | scall f xs=>simp[bI] at d
 | scallA rs f xs=>simp[bI] at d
 | scallE f xs=>simp[bI] at d
 | vcall ro f xs=>simp[bI] at d
def y5(P:Program)(fm:Fm)(f:Nat)(args:List V)(H:ae)(r:V)(H':ae):Prop :=
 H.length<=H'.length/\∀(M:Mm) (w:World) (jF:List Value),M.fm=fm->aG M w H->ai M w args jF ->
  ((∃ F, P.funcs[fm f]? = some F ∧ F.body.isSome = true ∧ F.name ≠ "runtime.NumGoroutine") ∧
  Calls P (fm f) jF.toArray w λen w'=>∃rv M',en=.returned rv/\aq M' w' r rv/\ez M H w M' H' w'/\eQ M M' H.length/\aG M' w' H')
abbrev FR(ro:Option Nat):Fence:={ Fence.wide with round:=ro }
def AK:Ex->Exit
 | .nx=>.normal
 | .exit id=>.exit id
 | .ret=>.ret
def Mk(s:Nat)(a b:Act):Prop:=∀d∈b.defers,d∈a.defers\/∃D,d.target=.collected D/\s<=D
def Mk.refl(s:Nat)(a:Act):Mk s a a:=λd h=>.inl h
def Mk.of_eq{s:Nat}{a b:Act}(h:b.defers=a.defers):Mk s a b:=λd hd=>.inl (h▸hd)
def Mk.trans{s s':Nat}{a c e:Act}(h:Mk s a c)(k:Mk s' c e)(f:s<=s'):Mk s a e:=λd hd=>by
 rcases k d hd with b|⟨D,b,g⟩
 .exact h d b
 .exact .inr ⟨D,b,an⟩
def HU(M:Mm)(H:ae)(w:World)(a:Act)(n:Nat)(k:Nat)(x:Ex)(e':Env)(H':ae)(Q:Exit->Act->World->Prop):Prop :=
 ∀b w' M',bj M' w' e' b n->aG M' w' H'->ez M H w M' H' w'->eQ M M' k->Mk w.heap.size a b->Q (AK x) b w'
def Ng(P:Program)(fm:Fm)(s:ba)(e:Env)(H:ae)(x:Ex)(e':Env)(H':ae):Prop :=
 H.length<=H'.length/\∀(l n:Nat) (c:Code) (M:Mm) (w:World) (a:Act) (Q:Exit->Act->World->Prop),fm.ur n s c->bj M w e a n->aG M w H->M.fm=fm ->
  HU M H w a n H.length x e' H' Q->c.wpIn (FR (some l)) 0 P Q a w
inductive SS (P:Program) (fm:Fm) (base:Nat) (o:aF):Env->ae->Env->ae->Prop
 | ev {e H v H1}:wanted e o=some true->aX base e H o.op=some (v,H1)->SS P fm base o e H (e.put o.dst v) H1
 | skip {e H}:wanted e o=some false->SS P fm base o e H (e.put o.dst .lW) H
 | pcall {e H f xs r H1}:wanted e o=some true->o.op=.pcall f xs->y5 P fm f (yV (xs.map (X.ev e))) [] r H1->SS P fm base o e H (e.put o.dst (vc H1 r).out) H
 | scall {e H f xs r H1}:wanted e o=some true->o.op=.scall f xs->y5 P fm f (xs.map (X.ev e)) H r H1->SS P fm base o e H (e.put o.dst (r.cl H.length)) (ak H.length H1)
 | scallA {e H rs f xs r H1}:wanted e o=some true->o.op=.scallA rs f xs->y5 P fm f (xs.map (X.ev e)) H r H1->J0 e rs H (ak H.length H1)->SS P fm base o e H (e.put o.dst (r.cl H.length)) (ak H.length H1)
 | scallE {e H f xs r H1}:wanted e o=some true->o.op=.scallE f xs->y5 P fm f (xs.map (X.ev e)) H r H1->LX base (xs.map (X.ev e)) H (ak H.length H1)->SS P fm base o e H (e.put o.dst (r.cl H.length)) (ak H.length H1)
 | kcall {e H ro f xs r H1}:wanted e o=some true->o.op=.kcall ro f xs->y5 P fm f (xs.map (X.ev e)) H r H1->(ro=true->base<=H.length/\H1.take H.length=H)->SS P fm base o e H (e.put o.dst r) H1
 | vcall {e H ro fx xs f cap r H1}:wanted e o=some true->o.op=.vcall ro fx xs->fx.ev e=.fn f cap->y5 P fm f (xs.map (X.ev e)++cap) H r H1->(ro=true->ak H.length H1=H) ->
   SS P fm base o e H (e.put o.dst (r.cl H.length)) (ak H.length H1)
 | j8 {e H fx xs id e0 ps as bo e1 H1 f0 qQ qR qS x e2 H2 g0 qT qU qV}:wanted e o=some true->o.op=.vcall false fx xs->fx.ev e=.yld id->H[id]?=some (some (.loop e0 ps as bo .ready))->xs.length=ps.length ->
   Ng P fm as (rZ ps (xs.map (X.ev e)) (gP e0)) H .nx e1 H1->H1[id]?=some (some (.loop f0 qQ qR qS .ready))->Ng P fm bo e1 (H1.set id (some (.loop f0 qQ qR qS .busy))) x e2 H2 ->
   H2[id]?=some (some (.loop g0 qT qU qV .busy)) ->
   SS P fm base o e H (e.put o.dst (.bool (decide (x=.nx)))) (ak H.length (H2.set id (some (.loop g0 qT qU qV (if x=.nx then .ready else .done x)))))
def tK(fm:Fm)(o:Op)(s:dO):Bool :=
 match s with
 | .pcall f xs=>match o with
  | .call { callee:=.value (.func a),args,argTypes:=_ }=>a==fm f&&pZ fm args.toList xs
  | _=>false
 | .scall f xs=>match o with
  | .call { callee:=.value (.func a),args,argTypes:=_ }=>a==fm f&&pZ fm args.toList xs
  | _=>false
 | .scallA _ f xs=>match o with
  | .call { callee:=.value (.func a),args,argTypes:=_ }=>a==fm f&&pZ fm args.toList xs
  | _=>false
 | .scallE f xs=>match o with
  | .call { callee:=.value (.func a),args,argTypes:=_ }=>a==fm f&&pZ fm args.toList xs
  | _=>false
 | .kcall _ f xs=>match o with
  | .call { callee:=.value (.func a),args,argTypes:=_ }=>a==fm f&&pZ fm args.toList xs
  | _=>false
 | .vcall _ b xs=>match o with
  | .call { callee:=.value fo,args,argTypes:=_ }=>aH fm fo b&&pZ fm args.toList xs
  | _=>false
 | _=>false
def XD(b:Array Oper)(g:Option (Nat×Bool))(s:Option (Nat×Bool)):Bool :=
 match g,s with
 | none,none=>true
 | some (j,a),some (t,c)=>a==c&&(match(b[j]?).bind (·.dst) with|some d=>d==t|none=>false)
 | _,_=>false
def HV(P:Program)(fm:Fm)(n:Nat)(a:Array Oper)(o:Oper)(s:aF):Bool :=
 (match o.dst,s.dst with|none,none=>true|some d,some d'=>d==d'&&decide (d<n)|_,_=>false)&&XD a o.guard s.guard &&
  (bI P fm o.op s.op||tK fm o.op s.op)
def DC{e:Env}{a:Act}{n:Nat}{h:Array Oper}{o:Oper}{s:aF}{b:Bool}(f:XD h o.guard s.guard=true)(p:bj M w e a n)(g:wanted e s=some b) :
  Region.wanted o (yielded h a.tmps)=b:=by
 unfold XD at f;unfold wanted at g;unfold Region.wanted;split at f
 .rename_i k l;simp only[l,aad.injEq] at g;simp only[k];exact g
 .rename_i j q t v k l;simp only[l] at g;simp only[k];simp only[aab,beq_iff_eq] at f;obtain⟨rfl,f⟩:=f;split at f
  case h_2=>cases f
  rename_i d hd;simp only[beq_iff_eq] at f;subst f;split at g
  case h_3=>cases g
  case h_2 =>
   rename_i m;simp only[aad.injEq] at g;subst g;have:=p.rel d;rw[m] at this;simp only[aq] at this
   have r:yielded h a.tmps j=none:=by
    unfold yielded;simp only[hd,Option.bind_some];rw[aaj] at this
    cases i:a.tmps[d]? with
    | none=>rfl
    | some x=>rw[i] at this;simp only[aa2] at this;subst this;rfl
   rw[r];rfl
  rename_i c m;simp only[aad.injEq] at g;subst g;have:=p.rel d;rw[m] at this;simp only[aq] at this
  have u:a.tmps[d]?=some (.bool c):=by
   rw[aaj] at this
   cases i:a.tmps[d]? with
   | none=>rw[i] at this;simp[undef] at this
   | some x=>rw[i] at this;simp at this;rw[this]
  simp[yielded,hd,u]
 .cases f
def zB1{e:Env}{a:Act}{n:Nat}{d:Option Nat}{v:V}{rv:Value}(b:bj M w e a n)(hd:∀k,d=some k->k<n)(c:d.isSome=true->aq M w v rv):bj M w (e.put d v) (a.put d rv) n:=by
 cases d with
 | none=>exact b
 | some k =>
  have f:=hd k rfl;refine⟨by simp[Act.put,b.size],by simpa[Act.put] using b.defers,λi=>?_,b.oI⟩;simp only[Env.iY,Act.put];have g:=b.size
  by_cases hi:i=k
  .subst hi;rw[if_pos rfl];rw[aaj,aaF an];exact c rfl
  .rw[if_neg hi,aaj,aaP an,<-aaj];exact b.rel i
def ziE(f:aG M w H){D:Nat}{o:Option (List Deferred)}(b:w.heap[D]?=some (.deferred o)):¬uu M H D:=by
 rintro⟨id,c⟩;unfold aV at c;split at c
 .rename_i n d;have:=f.rel id _ d;simp only[aK,c] at this;obtain⟨_,_,_,_,_,xs,e,a,_⟩:=this;rw[b] at a;cases a
 .rename_i h i d;have:=f.rel id _ d;simp only[aad.injEq] at c;subst c
  cases h with
  | zone n=>exact absurd rfl (i n)
  | cells g=>simp only[aK] at this;obtain⟨_,_,xs,e,a,_⟩:=this;rw[b] at a;cases a
  | jo g=>simp only[aK] at this;obtain⟨_,_,xs,e,a,_⟩:=this;rw[b] at a;cases a
  | map j=>simp only[aK] at this;obtain⟨_,ents,a,_⟩:=this;rw[b] at a;cases a
  | dF t pos=>simp only[aK] at this;rw[b] at this;cases this.2
  | loop k l as bo st=>simp only[aK] at this;obtain⟨_,r,a,_⟩:=this;rw[b] at a;cases a
  | grow g m p=>simp only[aK] at this;obtain⟨_,_,_,_,xs,e,a,_⟩:=this;rw[b] at a;cases a
 .cases c
def RB{a:Act}{H':ae}(h:ez M H w M' H' w')(c:aG M w H)(hd:a.defers.Nodup/\∀d∈a.defers,∃D,d={ target:=.collected D,args:=#[] }/\w.heap[D]?=some (.deferred (some []))) :
  a.defers.Nodup/\∀d∈a.defers,∃D,d={ target:=.collected D,args:=#[] }/\w'.heap[D]?=some (.deferred (some [])) :=
 ⟨hd.1,λd e=>by
  obtain⟨D,f,b⟩:=hd.2 d e
  exact⟨D,f,(h.same D (aaG.1 b).1 (ziE c b)).trans b⟩⟩
def bj.step{e:Env}{a:Act}{n:Nat}{H':ae}(h:ez M H w M' H' w')(c:aG M w H)(hi:eQ M M' H.length)(b:bj M w e a n):bj M' w' e a n :=
 ⟨b.size,RB h c b.defers,λi=>aq.step h c hi (b.rel i),b.oI.step h c hi⟩
open Go Go.RowKit
variable {P:Program} {M M':Mm} {H H1:ae} {w w':World} {fm:Fm}
mutual
def aq.free{M1 M2:Mm}(d:∀id,M1.al id=false)(i:∀b o,Rd M1 b o->Rd M2 b o)(h:∀f,M2.fm f=M1.fm f):∀{c:V} {x:Value},aq M1 w c x->aq M2 w c x
 | .undef,_,_=>by simp only[aq]
 | .lW,_,e=>by simpa only[aq] using e
 | .any,_,e=>by simpa only[aq] using e
 | .int _ _,_,e=>by simpa only[aq] using e
 | .bool _,_,e=>by simpa only[aq] using e
 | .str _,_,e=>by simpa only[aq] using e
 | .nilp,_,e=>by simpa only[aq] using e
 | .nilf,_,e=>by simpa only[aq] using e
 | .nilm,_,e=>by simpa only[aq] using e
 | .mp id,_,e=>by simp only[aq,d] at e;exact absurd e.1 ir
 | .yld id,_,e=>by simp only[aq,d] at e;exact absurd e.1 ir
 | .gs id k,_,e=>by simp only[aq,d] at e;exact absurd e.1 ir
 | .ptr id m,_,e=>by simp only[aq,d] at e;exact absurd e.1 ir
 | .rs id m k _,_,e=>by simp only[aq,d] at e;exact absurd e.1 ir
 | .cptr r,_,e=>by
  simp only[aq] at e |-;obtain⟨p,b,o,g,e⟩:=e
  exact⟨p,b,o,g,fj.free d i h e⟩
 | .vs t tk,_,e=>by
  simp only[aq] at e |-;obtain⟨p,a,j,g,s,l,n⟩:=e;refine⟨p,a,j,g,s,?_,?_⟩
  .cases a with
   | none=>exact l
   | some u=>exact⟨l.1,l.2.1,fV.free d i h l.2.2⟩
  .cases tk with
   | no=>trivial
   | full=>exact n
   | own q=>simp only[lY,d] at n;exact absurd n.1 ir
 | .fn f j,_,e=>by
  simp only[aq] at e |-;obtain⟨xs,g,e⟩:=e
  exact⟨xs,by rw[h];exact g,ai.free d i h e⟩
 | .agg r,_,e=>by
  simp only[aq] at e |-;obtain⟨p,xs,g,e⟩:=e
  exact⟨p,xs,g,ai.free d i h e⟩
 | .bf r,_,e=>by
  simp only[aq] at e |-;obtain⟨xs,g,e⟩:=e;exact⟨xs,g,ai.free d i h e⟩
def ai.free{M1 M2:Mm}(a:∀id,M1.al id=false)(d:∀b o,Rd M1 b o->Rd M2 b o)(g:∀f,M2.fm f=M1.fm f):∀{cs:List V} {xs:List Value},ai M1 w cs xs->ai M2 w cs xs
 | [],_,e=>by simpa only[ai] using e
 | c::cs,_,e=>by
  simp only[ai] at e |-;obtain⟨x,h,i,j,k⟩:=e;exact⟨x,h,i,aq.free a d g j,ai.free a d g k⟩
def fj.free{M1 M2:Mm}(d:∀id,M1.al id=false)(a:∀b o,Rd M1 b o->Rd M2 b o)(g:∀f,M2.fm f=M1.fm f){b:Nat}:∀{cs:List V} {o:Nat},fj M1 w b cs o->fj M2 w b cs o
 | [],_,_=>by simp only[fj]
 | c::cs,o,e=>by
  simp only[fj] at e |-;obtain⟨⟨x,h,rd,i⟩,j⟩:=e;exact⟨⟨x,h,a _ _ rd,aq.free d a g i⟩,fj.free d a g j⟩
def fV.free{M1 M2:Mm}(a:∀id,M1.al id=false)(c:∀b o,Rd M1 b o->Rd M2 b o)(d:∀f,M2.fm f=M1.fm f){b:Nat}:∀{es:List (List V)} {o:Nat},fV M1 w b es o->fV M2 w b es o
 | [],_,_=>by simp only[fV]
 | e::es,o,k=>by
  simp only[fV] at k |-;exact⟨fj.free a c d k.1,fV.free a c d k.2⟩
end
def zsN(M:Mm)(id:Nat):(M.upto 0).al id=false:=by simp[Mm.upto]
def zxW(H:ae):ak 0 H=[]:=by simp[ak]
def Km{o:Oper}{a:Act}{f:FuncId}{args:Array Operand}{ts:Array TypeId}{fo:Operand}{caps:Array Value}(ho:o.op=.call { callee:=.value fo,args:=args,argTypes:=ts })
  (hf : a.eval fo = .func (.func f) #[] caps) (hF : ∃ F, P.funcs[f]? = some F ∧ F.body.isSome = true ∧ F.name ≠ "runtime.NumGoroutine") :
  (execOp a.eval o).run P w=.ok (.enter f (args.map a.eval++caps)) w:=by
 obtain⟨F,h1,h2,h3⟩:=hF
 cases hb:F.body with
 | none=>rw[hb] at h2;cases h2
 | some c=>simp[execOp,ho,resolve,hf,Deferred.ofValue,invoke,callFunc,h1,h3,hb]
def aq.pure'{M1 M2:Mm}(a:∀b o,Rd M1 b o->Rd M2 b o)(d:∀f,M2.fm f=M1.fm f){c:V}{x:Value}(e:c.pure=true)(h:aq M1 w c x):aq M2 w c x:=by have:=aq.free (M1:=M1.upto 0) (M2:=M2) (λid=>zsN M1 id) a d (aq.upto 0 h);rwa[V.qm 0 c e] at this
def aq.nf{c:V}{x:Value}(h:aq M w c x):aq M w c.nf x:=by
 cases c<;>first|exact aq.Fa h|skip
 simp only[V.nf,aq] at h |-;obtain⟨xs,a,b⟩:=h;exact⟨xs,a,ai.tJ aq.Fa b⟩
def zB2{cs:List V}{xs:List Value}(h:ai M w (a_ 0 cs) xs):ai M w (yV cs) xs:=by rw[iW] at h;have:=ai.tJ aq.nf h;rw[aaz] at this;exact this
def zuB{H':ae}{M2:Mm}{r:V}{rv:Value}(h:aq M' w' r rv)(z:aG M' w' H')(s:∀b o,Rd M' b o->Rd M2 b o)(A:∀b,uu M' H' b->∀o,Rd M2 b o)(t:∀f,M2.fm f=M'.fm f):aq M2 w' ((yU H' r).cl 0) rv:=by
 have a:aq M2 w' (r.cl 0) rv:=aq.free (M1:=M'.upto 0) (λid=>zsN M' id) s t (aq.upto 0 h)
 cases r<;>simp only[yU]<;>try exact a
 rename_i id g n sz
 cases u:H'[id]? with
 | none=>exact a
 | some B=>cases B with
  | none=>exact a
  | some C=>cases C with
   | zone k=>exact a
   | jo k=>exact a
   | map k=>exact a
   | dF k q=>exact a
   | loop L M as bo st=>exact a
   | grow k q N=>exact a
   | cells cs =>
    simp only
    by_cases d:g+n*sz<=cs.length/\cs.all V.pure=true
    .rw[if_pos d];obtain⟨D,l⟩:=d;have l:=aaO.1 l;simp only[aq] at h;obtain⟨O,m,rfl,E⟩:=h;have v:=z.rel id _ u;simp only[aK] at v;obtain⟨_,_,xs,F,G,H⟩:=v;obtain⟨I,w,y⟩:=Rs (sz:=sz) (k:=n) (cs:=cs.drop g) (by rw[aaA];omega);have J:uu M' H' (M'.j id):=⟨id,by simp[aV,u]⟩;simp only[V.cl,Tk.cl,aq];refine⟨λe h c d=>l c (List.mem_of_mem_drop ((y e h).2 c d)),some ⟨M'.j id,g,none⟩,m,by rw[w],by rw[w];exact E,⟨.inr rfl,⟨sz,λe h=>(y e h).1⟩,?_⟩,trivial⟩
     rw[JY,I];refine Dl λi c d=>?_;rw[abm] at d;split at d
     .rw[aaZ] at d;obtain⟨x,K,p⟩:=nZ H d;refine⟨x,?_,A _ J _,aq.pure' s t (l c (abb d)) p⟩;rw[cell_of_row w' (M'.j id) (g+i) xs F (0,0) G];exact Rj K
     .cases d
    .rw[if_neg d];exact a
def zEp{H':ae}{M2:Mm}{r:V}{rv:Value}(a:aq M' w' r rv)(d:aG M' w' H')(e:∀b o,Rd M' b o->Rd M2 b o)(g:∀b,uu M' H' b->∀o,Rd M2 b o)(h:∀f,M2.fm f=M'.fm f):aq M2 w' ((vc H' r).cl 0) rv:=by
 cases r<;>simp only[vc]<;>try exact zuB a d e g h
 rename_i vs;simp only[aq] at a;obtain⟨xs,rfl,a⟩:=a;simp only[V.cl,aq];refine⟨xs,rfl,?_⟩;rw[iW,aaz];refine Am (by have:=gQ a;simpa using this) λi c x j l=>?_;rw[aam,aaf] at j;obtain⟨u,m,rfl⟩:=j;obtain⟨p,k,n⟩:=nZ a m;rw[l] at k;cases k;exact zuB n d e g h
def zzm(j:aG M w H){H':ae}{r:V}{rv:Value}(k:aq M' w' r rv)(a:ez (M.upto 0) [] w M' H' w')(m:aG M' w' H') :
  ∃e,ez M H w e H w'/\eQ M e H.length/\aG e w' H/\aq e w' (vc H' r).out rv:=by
 have h:∀b,¬uu (M.upto 0) [] b:=by rintro b ⟨id,n⟩;simp[aV] at n
 have g:iD w w':=⟨a.os,a.tape,a.output,a.size,λb d=>a.same b d (h b)⟩;obtain⟨s,i,p⟩:=MH (M':={ M with gh:=λb=>if b<w.heap.size then M.gh b else none }) j g ⟨rfl,rfl,rfl,rfl,λb d=>by simp[d]⟩;refine⟨_,s,i,p,?_⟩;refine aq.nf (zEp (M2:={ M with gh:=λb=>if b<w.heap.size then M.gh b else none }) k m (λb o rd l c=>?_) (λb q o l c=>?_) (λf=>by rw[a.fm];rfl))
 .simp only at c;split at c
  .rename_i d;exact rd l (by rw[a.limo b d (h b)];exact c)
  .cases c
 .simp only at c;split at c
  .rename_i d;exact absurd (a.own b d q) (h b)
  .cases c
def Fw{ro:Option Nat}{ρ:Operand->Value}{o:Oper}(h:∀c,o.op≠.defer c):Oper.semAt ro ρ o=execOp ρ o:=by
 cases ro with
 | none=>rfl
 | some l=>exact Oper.semAt_some l ρ o h
def HW{ro:Option Nat}{n:Nat}{f:FuncId}{args:Array Value}{R:Ending->World->Prop}(h:Calls P f args w R):CallsIn (FR ro) n P f args w R:=(callsIn_wide (n:=n)).2 h
def zxX{o:Op}{s:dO}(h:bI P fm o s=true):∀c,o≠.defer c:=by
 rintro c rfl
 cases s<;>simp[bI] at h
def XF(d:aG M w H){id:Nat}{e0:List (Nat×V)}{ps:List Nat}{as bo:ba}{st st':B5}{r r':Loop}(a:H[id]?=some (some (.loop e0 ps as bo st)))(g:w.heap[M.j id]?=some (.loop r))(c:r'.tmps=r.tmps)(e:r'.params=r.params)(l:r'.assign=r.assign)(m:r'.body=r.body)
  (n:WJ st' r'):∃M',ez M H w M' (H.set id (some (.loop e0 ps as bo st'))) (w.putObj (M.j id) (.loop r'))/\eQ M M' H.length/\aG M' (w.putObj (M.j id) (.loop r')) (H.set id (some (.loop e0 ps as bo st')))/\M'.j=M.j:=by
 have h:=d.rel id _ a;simp only[aK] at h;obtain⟨o,A,k,B,t,u,v,x⟩:=h;rw[g] at k;cases k;have y:=(aaG.1 g).1
 obtain⟨s,i,q⟩:=Rb (blk1:=.loop e0 ps as bo st') (w':=w.putObj (M.j id) (.loop r')) d a rfl rfl o 0 rfl rfl rfl World.putObj_size (λb a=>World.putObj_heap_other a) λf z=>by
  simp only[aK];refine⟨by simp[Mm.cI],r',World.putObj_heap_same y,n,?_,by rw[c,l];exact u,by rw[c,m];exact v,λp e=>by rw[c];exact aq.step f d z (x p e)⟩;rw[LPs,e,c];exact t
 exact⟨_,s,i,q,rfl⟩
def zuC:∀{ps:List Nat} {vs:List V} {xs:List Value} {tmps:Array Value} {e:Env},ai M w vs xs->(∀p∈ps,p<tmps.size)->ps.length=vs.length->(∀i,aq M w (e i) (tmps.getD i undef)) ->
  (∀i,aq M w (rZ ps vs e i) (((ps.zip xs).foldl (fun(t:Array Value) (q:Nat×Value)=>t.setIfInBounds q.1 q.2) tmps).getD i undef))/\((ps.zip xs).foldl (fun(t:Array Value) (q:Nat×Value)=>t.setIfInBounds q.1 q.2) tmps).size=tmps.size
 | [],[],xs,tmps,e,h,_,_,b=>by
  simp only[ai] at h;subst h
  exact⟨b,rfl⟩
 | [],_::_,_,_,_,_,_,a,_=>by simp at a
 | _::_,[],_,_,_,_,_,a,_=>by simp at a
 | p::ps,v::vs,xs,tmps,e,h,c,a,b=>by
  simp only[ai] at h;obtain⟨x,d,rfl,f,g⟩:=h;have j:=c p ir
  have:=zuC (ps:=ps) (vs:=vs) (xs:=d) (tmps:=tmps.setIfInBounds p x) (e:=e.put (some p) v) g (λq k=>by simpa using c q (by simp[k])) (by simpa using a) (λi=>by
   simp only[Env.iY]
   by_cases hi:i=p
   .subst hi;rw[if_pos rfl,aaj,aaF j];exact f
   .rw[if_neg hi,aaj,aaP an,<-aaj]
    exact b i)
  exact⟨this.1,by rw[abi,aby,this.2];simp⟩
def zw0{tmps:Array Value}:∀{e0:List (Nat×V)},(∀p∈e0,aq M w p.2 (tmps.getD p.1 undef))->∀i,aq M w (gP e0 i) (tmps.getD i undef)
 | [],_,i=>by simp only[gP,aq]
 | (d,v)::e0,h,i=>by
  simp only[gP];split
  .rename_i hi;subst hi;exact h (i,v) ir
  .exact zw0 (λp a=>h p (by simp[a])) i
def SS.sound{ro:Option Nat}{base n:Nat}{s:aF}{o:Oper}{hh:Array Oper}{e e1:Env}{a:Act}(h:SS P fm base s e H e1 H1)(c:HV P fm n hh o s=true)(p:bj M w e a n)(J:aG M w H)(hm:M.fm=fm)
  {K:Act->World->Prop} {Q:Exit->Act->World->Prop}
  (hk:∀a' w' M',bj M' w' e1 a' n->aG M' w' H1->ez M H w M' H1 w'->eQ M M' H.length->a'.defers=a.defers->K a' w') :
  if Region.wanted o (yielded hh a.tmps)=true then o.wpIn (FR ro) 0 P a w K Q else(∀f,o.about P w a.eval=some f->(FR ro).fn f)/\K (a.put o.dst undef) w:=by
 subst hm;unfold HV at c;simp only[aab,aa4] at c;obtain⟨⟨hd,V⟩,c⟩:=c
 have XG:o.dst=s.dst/\∀k,s.dst=some k->k<n:=by
  split at hd
  .rename_i B D;exact⟨by rw[B,D],λk hk=>by rw[D] at hk;cases hk⟩
  .rename_i d d' B D;simp only[aab,beq_iff_eq,decide_eq_true_eq] at hd;obtain⟨rfl,hd⟩:=hd;exact⟨by rw[B,D],λk hk=>by rw[D] at hk;cases hk;exact hd⟩
  .cases hd
 obtain⟨RC,Fx⟩:=XG
 have u:∀w' M' rv v,ez M H w M' H1 w'->eQ M M' H.length->aG M' w' H1->aq M' w' v rv->e1=e.put s.dst v->K (a.put o.dst rv) w':=by intro w' M' rv v B D W h4 h5;subst h5;rw[RC];exact hk _ _ _ (zB1 (bj.step B J D p) Fx (λ_=>h4)) W B D (by cases s.dst<;>rfl)
 cases h with
 | ev A G =>
  rw[DC V p A,if_pos rfl]
  have yH:bI P M.fm o.op s.op=true:=by
   rcases c with c|c
   .exact c
   .exfalso;unfold tK at c;split at c
    .rename_i m;rw[m] at G;simp[aX] at G
    .rename_i m;rw[m] at G;simp[aX] at G
    .rename_i m;rw[m] at G;simp[aX] at G
    .rename_i m;rw[m] at G;simp[aX] at G
    .rename_i m;rw[m] at G;simp[aX] at G
    .rename_i m;rw[m] at G;simp[aX] at G
    .cases c
  obtain⟨nx,w',M',C,AL,B,D,W⟩:=zzl yH p J G;unfold Oper.wpIn;refine⟨λ_ _=>trivial,?_⟩;rw[Fw (zxX yH),C]
  cases nx with
  | value rv=>exact u _ _ _ _ B D W AL rfl
  | skip =>
   simp only at AL
   exact u w' M' undef _ B D W (by rw[AL];simp only[aq]) rfl
  | _=>exact AL.elim
 | skip A =>
  rw[DC V p A];simp only[aat,if_false];refine⟨λ_ _=>trivial,?_⟩
  exact u w M undef .lW (ez.refl M H w) (eQ.refl _ _) J (by simp only[aq]) rfl
 | pcall A y N =>
  rename_i f xs r H2;rw[DC V p A,if_pos rfl]
  have g:tK M.fm o.op s.op=true:=by
   rcases c with c|c
   .rw[y] at c;simp[bI] at c
   .exact c
  rw[y] at g;simp only[tK] at g;split at g
  case h_2=>cases g
  rename_i f' args ts z;simp only[aab,beq_iff_eq] at g;obtain⟨rfl,I⟩:=g
  have h0:aG (M.upto 0) w []:=by have:=(Av J 0).2.2;rwa[zxW] at this
  obtain⟨O,R⟩:=N.2 (M.upto 0) w (args.toList.map a.eval) rfl h0 (zB2 (ai.upto 0 (Dq I p)));have C:=Km (P:=P) (w:=w) (a:=a) (caps:=#[]) z rfl O;unfold Oper.wpIn;refine⟨λ_ _=>trivial,?_⟩;rw[Fw (by rw[z];simp),C]
  have E:args.map a.eval++#[]=(args.toList.map a.eval).toArray:=by apply aaC;simp
  rw[E];refine⟨λh=>by(cases h),HW (R.mono ?_)⟩;rintro en w' ⟨rv,M',rfl,S,m,_,T⟩;obtain⟨vZ,B,D,W,h4⟩:=zzm J S m T
  exact u _ _ _ _ B D W h4 rfl
 | scall A y N =>
  rename_i f xs r H2;rw[DC V p A,if_pos rfl]
  have g:tK M.fm o.op s.op=true:=by
   rcases c with c|c
   .rw[y] at c;simp[bI] at c
   .exact c
  rw[y] at g;simp only[tK] at g;split at g
  case h_2=>cases g
  rename_i f' args ts z;simp only[aab,beq_iff_eq] at g;obtain⟨rfl,I⟩:=g;obtain⟨O,R⟩:=N.2 M w (args.toList.map a.eval) rfl J (Dq I p);have C:=Km (P:=P) (w:=w) (a:=a) (caps:=#[]) z rfl O;unfold Oper.wpIn;refine⟨λ_ _=>trivial,?_⟩;rw[Fw (by rw[z];simp),C]
  have E:args.map a.eval++#[]=(args.toList.map a.eval).toArray:=by apply aaC;simp
  rw[E];refine⟨λh=>by(cases h),HW (R.mono ?_)⟩;rintro en w' ⟨rv,M',rfl,S,m,hi,T⟩;obtain⟨U,L,X⟩:=Av T H.length
  exact u _ _ _ _ (m.trans U) (hi.trans L (aar _)) X (aq.upto _ S) rfl
 | scallA A y N _ =>
  rename_i rs f xs r H2;rw[DC V p A,if_pos rfl]
  have g:tK M.fm o.op s.op=true:=by
   rcases c with c|c
   .rw[y] at c;simp[bI] at c
   .exact c
  rw[y] at g;simp only[tK] at g;split at g
  case h_2=>cases g
  rename_i f' args ts z;simp only[aab,beq_iff_eq] at g;obtain⟨rfl,I⟩:=g;obtain⟨O,R⟩:=N.2 M w (args.toList.map a.eval) rfl J (Dq I p);have C:=Km (P:=P) (w:=w) (a:=a) (caps:=#[]) z rfl O;unfold Oper.wpIn;refine⟨λ_ _=>trivial,?_⟩;rw[Fw (by rw[z];simp),C]
  have E:args.map a.eval++#[]=(args.toList.map a.eval).toArray:=by apply aaC;simp
  rw[E];refine⟨λh=>by(cases h),HW (R.mono ?_)⟩;rintro en w' ⟨rv,M',rfl,S,m,hi,T⟩;obtain⟨U,L,X⟩:=Av T H.length
  exact u _ _ _ _ (m.trans U) (hi.trans L (aar _)) X (aq.upto _ S) rfl
 | scallE A y N _ =>
  rename_i f xs r H2;rw[DC V p A,if_pos rfl]
  have g:tK M.fm o.op s.op=true:=by
   rcases c with c|c
   .rw[y] at c;simp[bI] at c
   .exact c
  rw[y] at g;simp only[tK] at g;split at g
  case h_2=>cases g
  rename_i f' args ts z;simp only[aab,beq_iff_eq] at g;obtain⟨rfl,I⟩:=g;obtain⟨O,R⟩:=N.2 M w (args.toList.map a.eval) rfl J (Dq I p);have C:=Km (P:=P) (w:=w) (a:=a) (caps:=#[]) z rfl O;unfold Oper.wpIn;refine⟨λ_ _=>trivial,?_⟩;rw[Fw (by rw[z];simp),C]
  have E:args.map a.eval++#[]=(args.toList.map a.eval).toArray:=by apply aaC;simp
  rw[E];refine⟨λh=>by(cases h),HW (R.mono ?_)⟩;rintro en w' ⟨rv,M',rfl,S,m,hi,T⟩;obtain⟨U,L,X⟩:=Av T H.length
  exact u _ _ _ _ (m.trans U) (hi.trans L (aar _)) X (aq.upto _ S) rfl
 | kcall A y N _ =>
  rename_i ro f xs r;rw[DC V p A,if_pos rfl]
  have g:tK M.fm o.op s.op=true:=by
   rcases c with c|c
   .rw[y] at c;simp[bI] at c
   .exact c
  rw[y] at g;simp only[tK] at g;split at g
  case h_2=>cases g
  rename_i f' args ts z;simp only[aab,beq_iff_eq] at g;obtain⟨rfl,I⟩:=g;obtain⟨O,R⟩:=N.2 M w (args.toList.map a.eval) rfl J (Dq I p);have C:=Km (P:=P) (w:=w) (a:=a) (caps:=#[]) z rfl O;unfold Oper.wpIn;refine⟨λ_ _=>trivial,?_⟩;rw[Fw (by rw[z];simp),C]
  have E:args.map a.eval++#[]=(args.toList.map a.eval).toArray:=by apply aaC;simp
  rw[E];refine⟨λh=>by(cases h),HW (R.mono ?_)⟩;rintro en w' ⟨rv,M',rfl,S,m,hi,T⟩
  exact u _ _ _ _ m hi T S rfl
 | vcall A y df N _ =>
  rename_i ro fx xs f hq r H2;rw[DC V p A,if_pos rfl]
  have g:tK M.fm o.op s.op=true:=by
   rcases c with c|c
   .rw[y] at c;simp[bI] at c
   .exact c
  rw[y] at g;simp only[tK] at g;split at g
  case h_2=>cases g
  rename_i fo args ts z;simp only[aab] at g;obtain⟨y6,I⟩:=g;have fW:=fy y6 p;rw[df] at fW;simp only[aq] at fW;obtain⟨caps,Nh,AM⟩:=fW;obtain⟨O,R⟩:=N.2 M w (args.toList.map a.eval++caps) rfl J (yR (Dq I p) AM);have C:=Km (P:=P) (w:=w) (a:=a) (caps:=caps.toArray) z Nh O;unfold Oper.wpIn;refine⟨λ_ _=>trivial,?_⟩;rw[Fw (by rw[z];simp),C]
  have E:args.map a.eval++caps.toArray=(args.toList.map a.eval++caps).toArray:=by apply aaC;simp
  rw[E];refine⟨λh=>by(cases h),HW (R.mono ?_)⟩;rintro en w' ⟨rv,M',rfl,S,m,hi,T⟩;obtain⟨U,L,X⟩:=Av T H.length
  exact u _ _ _ _ (m.trans U) (hi.trans L (aar _)) X (aq.upto _ S) rfl
 | j8 A y df hb eS ha ji lE im =>
  rename_i fx xs id e0 ps as bo e1 hn f0 qQ qR qS x e2 H2 g0 qT qU qV;rw[DC V p A,if_pos rfl]
  have g:tK M.fm o.op s.op=true:=by
   rcases c with c|c
   .rw[y] at c;simp[bI] at c
   .exact c
  rw[y] at g;simp only[tK] at g;split at g
  case h_2=>cases g
  rename_i fo args ts z;simp only[aab] at g;obtain⟨y6,I⟩:=g;have fW:=fy y6 p;rw[df] at fW;simp only[aq] at fW;obtain⟨gU,Nh⟩:=fW;have E:=Dq I p;have Y:=gQ E;simp only[aah] at Y;obtain⟨l,hl⟩:=ax (M.j id);have h0:=J.rel id _ hb;simp only[aK] at h0;obtain⟨mg,r,vj,hu,zM,GZ,CM,uc⟩:=h0;have aj:id<H.length:=(aae.1 hb).1
  have dh:(args.map a.eval).size=r.params.size:=by
   have B:=congrArg List.length zM.1
   have D:args.size=xs.length:=by simpa using Y
   simp at B |-;omega
  have C:(execOp a.eval o).run P w=.ok (.round l r.fn ((r.params.zip (args.map a.eval)).foldl (λtmps (t,a)=>tmps.setIfInBounds t a) r.tmps) r.assign r.body) w:=by have:=run_yield (P:=P) (l:=M.j id) (args:=args.map a.eval) vj dh;rw[hl];simp[execOp,z,resolve,Nh,Deferred.ofValue,invoke,this]
  obtain⟨tm,RD⟩:∃tm,tm=(r.params.zip (args.map a.eval)).foldl (λtmps (t,a)=>tmps.setIfInBounds t a) r.tmps:=⟨_,rfl⟩
  have XH:tm=(ps.zip (args.toList.map a.eval)).foldl (fun(t:Array Value) (q:Nat×Value)=>t.setIfInBounds q.1 q.2) r.tmps:=by rw[RD,<-Array.foldl_toList,Array.toList_zip,zM.1];simp
  rw[<-RD] at C;obtain⟨Z,Fy⟩:=zuC (ps:=ps) (tmps:=r.tmps) E zM.2 (by simp[eS]) (zw0 uc);rw[<-XH] at Z Fy;unfold Oper.wpIn;refine⟨λ_ _=>trivial,?_⟩;rw[Fw (by rw[z];simp),C];refine⟨λh=>by(cases h),?_⟩;refine roundIn_of_wpIn (F:=FR ro) (n:=0) (l:=l) trivial ?_;refine ha.2 l r.tmps.size r.assign M w _ _ GZ ⟨Fy,⟨ir,λd hd=>by cases hd⟩,Z,p.oI⟩ J rfl ?_;intro a1 w1 M1 t1 r1 U i1 m1
  have HX:M1.j id=l:=by rw[hl];exact(i1 id aj gU).2.1
  have B:=r1.rel id _ ji;simp only[aK] at B;obtain⟨_,rc1,AN,HY,_⟩:=B;obtain⟨M2,L,i2,r2,XI⟩:=XF (st':=.busy) (r':={ rc1 with state:=.busy }) r1 ji AN rfl rfl rfl rfl rfl;rw[HX] at AN L r2;refine⟨_,run_beginRound AN HY.1,?_⟩;refine lE.2 l r.tmps.size r.body M2 _ a1 _ CM (bj.step L r1 i2 t1) r2 (L.fm.trans U.fm) ?_;intro a3 w3 M3 t3 r3 X i3 m3
  have th:id<hn.length:=(aae.1 ji).1;have qY:M1.al id=true:=(i1 id aj gU).1;have js:=(i2 id th qY)
  have hj:M3.j id=l:=by rw[(i3 id (by simpa using th) js.1).2.1,XI];exact HX
  have W:=r3.rel id _ im;simp only[aK] at W;obtain⟨_,rc3,sM,_⟩:=W
  have Ni:H.length<=H2.length:=by have:=ha.1;have:=lE.1;simp at this;omega
  have wU:∀(i:Option Code) (st':B5) (b:Bool),WJ st' { rc3 with state:=if i.isNone then .ready else .done,pending:=i }->i.isNone=b->decide (x=.nx)=b->(if x=.nx then B5.ready else .done x)=st' ->
    ∃v w',(Instr.endRound l i).run P w3=.ok v w'/\K (a.put o.dst v) w':=by
   intro i st' b jy cM hp XJ;obtain⟨M4,s4,i4,r4,_⟩:=XF (st':=st') (r':={ rc3 with state:=if i.isNone then .ready else .done,pending:=i }) r3 im sM rfl rfl rfl rfl jy;rw[hj] at s4 r4;have AO:=sM;rw[hj] at AO;refine⟨_,_,run_endRound i AO,?_⟩;obtain⟨u1,u2,u3⟩:=Av r4 H.length;rw[<-XJ] at s4 r4 u1 u3;refine u _ (M4.upto H.length) (.bool i.isNone) (.bool (decide (x=.nx))) ((((U.trans L).trans X).trans s4).trans u1) ?_ u3 (by simp only[aq];rw[cM,hp]) rfl
   have e2:=ha.1;have e3:=lE.1;simp only[aaq] at e3;exact(((i1.trans i2 e2).trans i3 (by simp only[aaq];exact e2)).trans i4 Ni).trans u2 (aar _)
  cases x with
  | nx=>exact wU none .ready true ⟨rfl,rfl⟩ rfl rfl rfl
  | ret=>exact wU (some .ret) (.done .ret) false ⟨rfl,rfl⟩ rfl rfl rfl
  | exit k=>exact wU (some (.exit k)) (.done (.exit k)) false ⟨rfl,rfl⟩ rfl rfl rfl
def XK{sz id off:Nat}{a:Bool}{v:V}(h:loadAt H sz a id off=some (v,H1)):H1=H:=by
 unfold loadAt at h
 repeat' split at h
 all_goals first
  | (cases h;done)
  | (rw[aaf] at h;obtain⟨_,_,h⟩:=h;cases h;rfl)
def XL{sz id off:Nat}{u v:V}(h:storeAt H sz id off u=some (v,H1)):∃cs,H1=H.set id (some (.cells cs)):=by
 unfold storeAt at h
 repeat' split at h
 all_goals first
  | (cases h;done)
  | (cases h;exact⟨_,rfl⟩)
def zEq{base:Nat}{e:Env}{s:dO}{v:V}(h:aX base e H s=some (v,H1)):H1.length=H.length:=by
 cases s<;>simp only[aX] at h
 case loadR|loadA =>
  repeat' split at h
  all_goals first
   | (cases h;done)
   | rw[XK h]
 case storeA|jP|storeT =>
  repeat' split at h
  all_goals first
   | (cases h;done)
   | (obtain⟨a,h⟩:=XL h;rw[h];simp)
 all_goals first
  | (cases h;rfl)
  | (repeat' split at h)<;>first
   | (cases h;done)
   | (cases h;rfl)
   | (cases h;simp;done)
   | (rw[aaf] at h;obtain⟨_,_,h⟩:=h;cases h;rfl)
 all_goals first
  | (rw[aaf] at h;obtain⟨_,_,h⟩:=h;cases h;rfl)
def SS.len{base:Nat}{s:aF}{e c:Env}(h:SS P fm base s e H c H1):H.length<=H1.length:=by
 cases h with
 | ev _ d=>exact aaK (zEq d).symm
 | skip=>exact aar _
 | pcall=>exact aar _
 | scallE _ _ a _=>simp only[ak,aah,aap];exact aaK (aaJ a.1).symm
 | scallA _ _ a _=>simp only[ak,aah,aap];exact aaK (aaJ a.1).symm
 | scall _ _ a=>simp only[ak,aah,aap];exact aaK (aaJ a.1).symm
 | kcall _ _ a _=>exact a.1
 | vcall _ _ _ a=>simp only[ak,aah,aap];exact aaK (aaJ a.1).symm
 | j8 _ _ _ _ _ f _ g _ =>
  have i:=f.1;have b:=g.1;simp only[aaq] at b;simp only[ak,aah,aap,aaq];exact aaK (aaJ (Nat.le_trans i b)).symm
open Go Go.RowKit
variable {P:Program} {M M':Mm} {H H1 H2:ae} {w w':World} {fm:Fm}
def X.aW:X->List Nat
 | .t i=>[i]
 | .c _=>[]
def sN:List X->List Nat
 | []=>[]
 | x::xs=>x.aW++sN xs
def AP:Option X->List Nat
 | none=>[]
 | some x=>x.aW
def dO.aW:dO->List Nat
 | .sJ _ _ x=>x.aW
 | .jP _ _ a x=>a.aW++x.aW
 | .mv x|.box _ x|.load _ _ _ x|.pz _ x|.Ho _ _ _ x|.un _ x|.conv _ x|.ext _ x|.len _ x|.qO x|.pY _ _ _ x=>x.aW
 | .pick c a b=>c.aW++a.aW++b.aW
 | .alloc _ _=>[]
 | .build _ d=>sN (d.map (·.2.2))
 | .bslice _ _ d=>sN (d.map (·.2))
 | .bsliceR _ _ _ d=>sN (d.map (·.2))
 | .jD _ _ _ d=>sN (d.map (·.2))
 | .mark x=>x.aW
 | .store _ a x=>a.aW++x.aW
 | .qN _ x i|.mQ _ _ x i|.idx _ _ _ x i|.bin _ x i|.beq _ x i|.app _ _ _ x i=>x.aW++i.aW
 | .mkfn _ e=>sN e
 | .slc _ x lo hi g=>x.aW++AP lo++AP hi++AP g
 | .pB _ _ x|.Hq x|.Hr x|.E9 _ x|.x6 x=>x.aW
 | .mm _ xs=>sN xs
 | .Hp _ _ x y|.wW x y|.E_ _ x y|.tD _ _ _ x y|.va _ _ x y=>x.aW++y.aW
 | .sslc x lo hi|.wX _ _ x lo hi=>x.aW++AP lo++AP hi
 | .qP _=>[]
 | .loadR _ _ r x=>r::x.aW
 | .storeA _ rs a x=>rs++a.aW++x.aW
 | .loadA _ _ rs x=>rs++x.aW
 | .storeT _ r a x=>r::(a.aW++x.aW)
 | .mput _ x k v|.E8 x k v=>x.aW++k.aW++v.aW
 | .pcall _ xs|.scall _ xs|.scallE _ xs|.kcall _ _ xs=>sN xs
 | .scallA rs _ xs=>rs++sN xs
 | .vcall _ f xs=>f.aW++sN xs
def aF.aW(o:aF):List Nat:=o.op.aW++(match o.guard with|some (g,_)=>[g]|none=>[])
def X.bq{e f:Env}{x:X}(h:∀i∈x.aW,f i=e i):x.ev f=x.ev e:=by
 cases x with
 | t i=>exact h i (by simp[X.aW])
 | c v=>rfl
def Cf{e f:Env}:∀{xs:List X},(∀i∈sN xs,f i=e i)->xs.map (X.ev f)=xs.map (X.ev e)
 | [],_=>rfl
 | x::xs,h=>by
  simp only[sN,aai] at h;simp only[aal,X.bq (λi hi=>h i (.inl hi)),Cf (λi hi=>h i (.inr hi))]
def XM{e f:Env}:∀{ps:List (Nat×Nat×X)} {cs:List V},(∀i∈sN (ps.map (·.2.2)),f i=e i)->nV f cs ps=nV e cs ps
 | [],_,_=>rfl
 | (a,b,x)::ps,cs,h=>by
  simp only[aal,sN,aai] at h;simp only[nV,X.bq (λi hi=>h i (.inl hi))];split
  .split
   .exact XM (λi hi=>h i (.inr hi))
   .rfl
  .rfl
def zpn{e f:Env}{sz:Nat}:∀{ps:List (Nat×X)} {es:List (List V)},(∀i∈sN (ps.map (·.2)),f i=e i)->Ao f sz es ps=Ao e sz es ps
 | [],_,_=>rfl
 | (j,x)::ps,es,h=>by
  simp only[aal,sN,aai] at h;simp only[Ao,X.bq (λi hi=>h i (.inl hi))];split
  .split
   .exact zpn (λi hi=>h i (.inr hi))
   .rfl
  .rfl
def XN{e f:Env}{len:Nat}{lo hi mx:Option X}(a:∀i∈AP lo,f i=e i)(b:∀i∈AP hi,f i=e i)(c:∀i∈AP mx,f i=e i):sm f len lo hi mx=sm e len lo hi mx:=by
 unfold sm
 cases lo<;>cases hi<;>cases mx<;>simp only[AP] at a b c<;>(try simp only[X.bq a])<;>(try simp only[X.bq b])<;>(try simp only[X.bq c])<;>(try rfl)
def zqH{e f:Env}{mx:Bool}{k:IntKind}:∀{xs:List X} {p:Int},(∀i∈sN xs,f i=e i)->r6 f mx k p xs=r6 e mx k p xs
 | [],_,_=>rfl
 | x::xs,p,h=>by
  simp only[sN,aai] at h;simp only[r6,X.bq (λi hi=>h i (.inl hi))];split
  .split
   .exact zqH (λi hi=>h i (.inr hi))
   .rfl
  .rfl
def zsO{base:Nat}{e f:Env}{s:dO}(h:∀i∈s.aW,f i=e i):aX base f H s=aX base e H s:=by
 cases s<;>simp only[dO.aW,aai] at h<;>simp only[aX]
 case mv|box|load|sJ|pz|Ho|un|conv|ext|len|qO|pY|pB|Hq|Hr|E9|x6|mark=>rw[X.bq h]
 case mm mx xs =>
  cases xs with
  | nil=>rfl
  | cons x xs =>
   simp only[sN,aai] at h;simp only[X.bq (λi hi=>h i (.inl hi)),zqH (λi hi=>h i (.inr hi))]
 case loadR =>
  simp only[abA] at h;rw[X.bq (λi hi=>h i (.inr hi)),h _ (.inl rfl)]
 case storeA sz rs a x =>
  have b:rs.map f=rs.map e:=abg λr b=>h r (.inl (.inl b))
  have d:∀id,rs.all (λr=>(f r).ptrId? !=some id)=rs.all (λr=>(e r).ptrId? !=some id):=by
   intro id
   have c:∀g:Env,rs.all (λr=>(g r).ptrId? !=some id)=(rs.map g).all (λv=>v.ptrId? !=some id):=λg=>by rw[abE];rfl
   rw[c,c,b]
  rw[X.bq (λi hi=>h i (.inl (.inr hi))),X.bq (λi hi=>h i (.inr hi))];simp only[d]
 case loadA sz ag rs x =>
  have b:rs.map f=rs.map e:=abg λr b=>h r (.inl b)
  have d:∀id,rs.all (λr=>(f r).ptrId? !=some id)=rs.all (λr=>(e r).ptrId? !=some id):=by
   intro id
   have c:∀g:Env,rs.all (λr=>(g r).ptrId? !=some id)=(rs.map g).all (λv=>v.ptrId? !=some id):=λg=>by rw[abE];rfl
   rw[c,c,b]
  rw[X.bq (λi hi=>h i (.inr hi))];simp only[d]
 case storeT =>
  simp only[abA,aai] at h;rw[X.bq (λi hi=>h i (.inr (.inl hi))),X.bq (λi hi=>h i (.inr (.inr hi))),h _ (.inl rfl)]
 case mput|E8=>rw[X.bq (λi hi=>h i (.inl (.inl hi))),X.bq (λi hi=>h i (.inl (.inr hi))),X.bq (λi hi=>h i (.inr hi))]
 case sslc|wX =>
  rw[X.bq (λi hi=>h i (.inl (.inl hi)))];simp only[XN (λi hi=>h i (.inl (.inr hi))) (λi hi=>h i (.inr hi)) (λi hi=>by simp[AP] at hi:∀i∈AP none,f i=e i)]
 case pick=>rw[X.bq (λi hi=>h i (.inl (.inl hi))),X.bq (λi hi=>h i (.inl (.inr hi))),X.bq (λi hi=>h i (.inr hi))]
 case build=>rw[XM h]
 case bslice|jD=>rw[zpn h]
 case bsliceR s n z ps=>rw[XM (ps:=ps.map λq=>(q.1*z.length,z.length,q.2)) (by rw[aaz];exact h)]
 case store|jP|qN|mQ|idx|bin|beq|app|Hp|wW|E_|tD|va=>rw[X.bq (λi hi=>h i (.inl hi)),X.bq (λi hi=>h i (.inr hi))]
 case mkfn=>rw[Cf h]
 case slc =>
  rw[X.bq (λi hi=>h i (.inl (.inl (.inl hi))))];split
  .rw[XN (λi hi=>h i (.inl (.inl (.inr hi)))) (λi hi=>h i (.inl (.inr hi))) (λi hi=>h i (.inr hi))]
  .rw[XN (λi hi=>h i (.inl (.inl (.inr hi)))) (λi hi=>h i (.inl (.inr hi))) (λi hi=>h i (.inr hi))]
  .rfl
def yc{e f:Env}{o:aF}(h:∀i∈o.aW,f i=e i):wanted f o=wanted e o:=by
 unfold wanted;split
 .rfl
 .rename_i g a b;rw[h g (by simp[aF.aW,b])]
def dO.root:dO->Option Nat
 | .loadR _ _ r _=>some r
 | _=>none
def dO.slot:dO->Option Nat
 | .box s _|.alloc s _|.pY s _ _ _|.bsliceR s _ _ _|.jP s _ _ _=>some s
 | _=>none
def dO.jG:dO->List Nat
 | .storeA _ rs _ _=>rs
 | .scallA rs _ _=>rs
 | _=>[]
def dO.cls:dO->Nat
 | .load _ _ true _=>1
 | .load _ _ false _=>3
 | .box _ _|.alloc _ _|.pY _ _ _ _|.bsliceR _ _ _ _=>2
 | .app _ _ _ _ _=>5
 | .vcall true _ _=>3
 | .kcall true _ _=>8
 | .loadR _ _ _ _=>6
 | .storeA _ _ _ _=>7
 | .jP _ _ _ _=>9
 | .scallA _ _ _=>10
 | .scallE _ _=>4
 | .tD _ _ _ _ _=>3
 | .store _ _ _|.scall _ _|.vcall false _ _|.qP _|.mput _ _ _ _|.va _ _ _ _|.E8 _ _ _|.E9 _ _|.x6 _|.E_ _ _ _|.kcall false _ _|.jD _ _ _ _|.mark _|.loadA _ _ _ _|.storeT _ _ _ _=>4
 | _=>0
def Fz(base:Nat)(H a:ae):Prop:=∀(id:Nat) (cs:List V),id<base->H[id]?=some (some (.cells cs))->a[id]?=some (some (.cells cs))
def XO(base:Nat)(H:ae)(id:Nat):Prop:=(base<=id/\k8 H id=true)\/∃k,H[id]?=some (some (.zone k))
structure Chr (P:Program) (fm:Fm) (base:Nat) (o:aF) (e:Env) (H:ae) (e1:Env) (H1:ae) (v:V):Prop where
 env:e1=e.put o.dst v
 same:∀f,(∀i∈o.aW,f i=e i)->SS P fm base o f H (f.put o.dst v) H1
 c0:o.op.cls=0->H1=H/\∀f Hb,(∀i∈o.aW,f i=e i)->SS P fm base o f Hb (f.put o.dst v) Hb
 c1:o.op.cls=1->H1=H/\∀f Hb,(∀i∈o.aW,f i=e i)->Fz base H Hb->SS P fm base o f Hb (f.put o.dst v) Hb
 c2:o.op.cls=2->(H1=H/\∀f Hb,(∀i∈o.aW,f i=e i)->SS P fm base o f Hb (f.put o.dst v) Hb) \/
  ∃s cE,o.op.slot=some s/\(∃cs,cE=az.cells cs)/\k8 H (base+s)=true/\H1=H.set (base+s) (some cE)/\∀f Hb,(∀i∈o.aW,f i=e i)->k8 Hb (base+s)=true->SS P fm base o f Hb (f.put o.dst v) (Hb.set (base+s) (some cE))
 c3:o.op.cls=3->H1=H
 c6:o.op.cls=6->H1=H/\∀f Hb,(∀i∈o.aW,f i=e i)->(∀r id,o.op.root=some r->(e r).ptrId?=some id->Hb[id]?=H[id]?)->SS P fm base o f Hb (f.put o.dst v) Hb
 c7:o.op.cls=7->(H1=H/\∀f Hb,(∀i∈o.aW,f i=e i)->SS P fm base o f Hb (f.put o.dst v) Hb) \/
  ∃id cE,H1=H.set id (some cE)/\∀r∈o.op.jG,(e r).ptrId?≠some id
 c8:o.op.cls=8->Fz base H H1/\Fz base H1 H
 c5:o.op.cls=5->(H1=H/\∀f Hb,(∀i∈o.aW,f i=e i)->SS P fm base o f Hb (f.put o.dst v) Hb) \/
  ∃id k,XO base H id/\H1=H.set id (some (.zone k))/\∀f Hb,(∀i∈o.aW,f i=e i)->Hb[id]?=H[id]?->SS P fm base o f Hb (f.put o.dst v) (Hb.set id (some (.zone k)))
 c9:o.op.cls=9->(H1=H/\∀f Hb,(∀i∈o.aW,f i=e i)->SS P fm base o f Hb (f.put o.dst v) Hb) \/
  ∃s cs cE,o.op.slot=some s/\H[base+s]?=some (some (.cells cs))/\H1=H.set (base+s) (some cE)/\∀f Hb,(∀i∈o.aW,f i=e i)->Hb[base+s]?=H[base+s]?->SS P fm base o f Hb (f.put o.dst v) (Hb.set (base+s) (some cE))
 c10:o.op.cls=10->J0 e o.op.jG H H1
def zFK{base:Nat}{e:Env}{s:dO}{v:V}(h:aX base e H s=some (v,H1))(c:s.cls=0):H1=H/\∀a,aX base e a s=some (v,a):=by
 cases s<;>simp only[dO.cls,reduceCtorEq] at c<;>simp only[aX] at h |-
 case mv|mkfn=>simp only[aad.injEq,aa_.injEq] at h;obtain⟨rfl,rfl⟩:=h;simp
 case bin|un =>
  rw[aaf] at h;obtain⟨u,b,h⟩:=h;cases h;exact⟨rfl,λa=>by rw[b];rfl⟩
 case load sz ag old x=>cases old<;>simp at c
 case vcall ro f xs=>cases h
 case kcall ro f xs=>cases h
 all_goals
  revert h
  repeat' split
  all_goals intro h
  all_goals first
   | (cases h;done)
   | (simp only[aad.injEq,aa_.injEq] at h;obtain⟨rfl,rfl⟩:=h;exact⟨rfl,λ_=>rfl⟩)
   | (rw[aaf] at h;obtain⟨u,b,h⟩:=h;cases h;exact⟨rfl,λa=>by rw[b];rfl⟩)
def zFL{base:Nat}{e:Env}{s:dO}{v:V}(h:aX base e H s=some (v,H1))(c:s.cls=1):H1=H/\∀b:ae,Fz base H b->aX base e b s=some (v,b):=by
 cases s with
 | load o p d x =>
  cases d
  .simp[dO.cls] at c
  .simp only[aX] at h |-;split at h
   .rename_i id k q;split at h
    .cases h
    .rename_i j;split at h
     .rename_i l m;split at h
      .rename_i a;rw[aaf] at h;obtain⟨u,g,h⟩:=h;cases h;refine⟨rfl,λb n=>?_⟩;rw[if_neg j,n id l (by simp at j;omega) m];simp only;rw[if_pos a,g];rfl
      .cases h
     .cases h
   .split at h
    .rename_i a;rw[aaf] at h;obtain⟨u,g,h⟩:=h;cases h;refine⟨rfl,λb _=>?_⟩;rw[if_pos a,g];rfl
    .cases h
   .cases h
 | vcall i f xs=>cases i<;>simp[dO.cls] at c
 | kcall i f xs=>cases i<;>simp[dO.cls] at c
 | _=>simp[dO.cls] at c
def SS.chr{base:Nat}{o:aF}{e V:Env}(h:SS P fm base o e H V H1):∃v,Chr P fm base o e H V H1 v:=by
 have w:∀{f:Env},(∀i∈o.aW,f i=e i)->∀i∈o.op.aW,f i=e i:=λh i hi=>h i (by simp[aF.aW,hi])
 cases h with
 | ev A b =>
  rename_i v
  have j:∀f d H2,(∀i∈o.aW,f i=e i)->aX base e d o.op=some (v,H2)->SS P fm base o f d (f.put o.dst v) H2 :=
   λf d H2 c h=>SS.ev (by rw[yc c];exact A) (by rw[zsO (w c)];exact h)
  have jd:o.op.cls≠8:=by
   intro a;unfold dO.cls at a
   split at a<;>first|(cases a;done)|skip
   rename_i m;rw[m] at b;simp[aX] at b
  refine⟨v,rfl,λf c=>j f H H1 c b,?_,?_,?_,?_,?_,?_,λa=>absurd a jd,?_,?_,?_⟩
  .intro a;obtain⟨I,W⟩:=zFK b a;exact⟨I,λf d c=>j f d d c (W d)⟩
  .intro a;obtain⟨I,W⟩:=zFL b a;exact⟨I,λf d c L=>j f d d c (W d L)⟩
  .intro a;right
   cases l:o.op with
   | box s x =>
    rw[l] at b;simp only[aX] at b;split at b
    case h_2=>cases b
    rename_i F J;split at b
    case isFalse=>cases b
    rename_i c;cases b;refine⟨s,.cells F,rfl,⟨_,rfl⟩,c,rfl,λf d n D=>j f d _ n ?_⟩;rw[l];simp only[aX,J]
    rw[if_pos D]
   | alloc s z =>
    rw[l] at b;simp only[aX] at b;split at b
    case isFalse=>cases b
    rename_i c;cases b;refine⟨s,.cells z,rfl,⟨_,rfl⟩,c,rfl,λf d n D=>j f d _ n ?_⟩;rw[l];simp only[aX]
    rw[if_pos D]
   | pY s bytes z x =>
    rw[l] at b;simp only[aX] at b;split at b
    case h_2=>cases b
    rename_i kd k Y;split at b
    case isFalse=>cases b
    rename_i c;cases b;refine⟨s,.cells (aaL k.toNat z).flatten,rfl,⟨_,rfl⟩,c.1,rfl,λf d n D=>j f d _ n ?_⟩;rw[l];simp only[aX,Y]
    rw[if_pos ⟨D,c.2⟩]
   | bsliceR s k z ps =>
    rw[l] at b;simp only[aX] at b;split at b
    case isFalse=>cases b
    rename_i c;split at b
    case h_2=>cases b
    rename_i F J;cases b;refine⟨s,.cells F,rfl,⟨_,rfl⟩,c,rfl,λf d n D=>j f d _ n ?_⟩;rw[l];simp only[aX,J]
    rw[if_pos D]
   | load E K t x=>rw[l] at a;cases t<;>simp[dO.cls] at a
   | vcall p f xs=>rw[l] at a;cases p<;>simp[dO.cls] at a
   | kcall p f xs=>rw[l] at a;cases p<;>simp[dO.cls] at a
   | _=>rw[l] at a;simp[dO.cls] at a
  .intro a
   cases l:o.op with
   | load E K t x =>
    rw[l] at b;simp only[aX] at b;revert b
    repeat' split
    all_goals intro b
    all_goals first
     | (cases b;done)
     | (rw[aaf] at b;obtain⟨u,C,b⟩:=b;cases b;rfl)
   | vcall p f xs=>rw[l] at b;simp[aX] at b
   | kcall p f xs=>rw[l] at b;simp[aX] at b
   | tD ks ok z x k =>
    rw[l] at b;simp only[aX] at b;revert b
    repeat' split
    all_goals intro b
    all_goals first
     | (cases b;done)
     | (cases b;rfl)
   | _=>rw[l] at a;simp[dO.cls] at a
  .intro a
   cases l:o.op with
   | loadR E K r x =>
    rw[l] at b;have Qs:=b;simp only[aX] at b;split at b
    case h_2=>cases b
    rename_i id M Q;split at b
    case isFalse=>cases b
    rename_i B;have uR:=XK b;subst uR;refine⟨rfl,λf d c L=>j f d d c ?_⟩;have R:=L r id (by simp[dO.root]) B;rw[l];simp only[aX,Q];rw[if_pos B];unfold loadAt at b |-;rw[R];revert b
    repeat' split
    all_goals intro b
    all_goals first
     | (cases b;done)
     | (rw[aaf] at b |-;obtain⟨u,C,b⟩:=b;cases b;exact⟨_,C,rfl⟩)
   | load E K t x=>rw[l] at a;cases t<;>simp[dO.cls] at a
   | vcall p f xs=>rw[l] at a;cases p<;>simp[dO.cls] at a
   | kcall p f xs=>rw[l] at a;cases p<;>simp[dO.cls] at a
   | _=>rw[l] at a;simp[dO.cls] at a
  .intro a
   cases l:o.op with
   | storeA E rs x y =>
    rw[l] at b;simp only[aX] at b;split at b
    case h_2=>cases b
    rename_i id M Q;split at b
    case isFalse=>cases b
    rename_i Kn;obtain⟨F,hh⟩:=XL b;refine .inr ⟨id,_,hh,λr hr=>?_⟩;rw[aaO] at Kn
    simpa using Kn r hr
   | load E K t x=>rw[l] at a;cases t<;>simp[dO.cls] at a
   | vcall p f xs=>rw[l] at a;cases p<;>simp[dO.cls] at a
   | kcall p f xs=>rw[l] at a;cases p<;>simp[dO.cls] at a
   | _=>rw[l] at a;simp[dO.cls] at a
  .intro a
   cases l:o.op with
   | app s E bytes x y =>
    rw[l] at b;simp only[aX] at b;split at b
    case h_2=>cases b
    rename_i es tk fs Z hy;split at b
    .rename_i S;cases b;refine .inl ⟨rfl,λf d c=>j f d d c ?_⟩;rw[l];simp only[aX,Z,hy];rw[if_pos S]
    .rename_i S;split at b
     case isFalse=>cases b
     rename_i R;right
     cases tk with
     | no=>cases b
     | full =>
      simp only at b;split at b
      case isFalse=>cases b
      rename_i D;cases b;refine⟨base+s,_,.inl ⟨abt _ _,D⟩,rfl,λf d c B=>j f d _ c ?_⟩;rw[l];simp only[aX,Z,hy]
      rw[if_neg S,if_pos R,if_pos (by rw[uv] at D |-;rw[B];exact D)]
     | own q =>
      simp only at b;split at b
      case h_2=>cases b
      rename_i k N;split at b
      case isFalse=>cases b
      rename_i Y;cases b;refine⟨q,_,.inr ⟨k,N⟩,rfl,λf d c B=>j f d _ c ?_⟩;rw[l];simp only[aX,Z,hy];rw[if_neg S,if_pos R,B,N];simp only
      rw[if_pos Y]
   | load E K t x=>rw[l] at a;cases t<;>simp[dO.cls] at a
   | vcall p f xs=>rw[l] at a;cases p<;>simp[dO.cls] at a
   | kcall p f xs=>rw[l] at a;cases p<;>simp[dO.cls] at a
   | _=>rw[l] at a;simp[dO.cls] at a
  .intro a
   cases l:o.op with
   | jP s E x y =>
    rw[l] at b;simp only[aX] at b;split at b
    case h_2=>cases b
    rename_i id M Q;split at b
    case isFalse=>cases b
    rename_i B;subst B;right;unfold storeAt at b;split at b
    case h_2=>cases b
    rename_i ds F Aw J;split at b
    case isFalse=>cases b
    rename_i he;cases b;refine⟨s,F,_,rfl,J,rfl,λf d n L=>j f d _ n ?_⟩;rw[l];simp only[aX,Q];rw[if_pos trivial];unfold storeAt;rw[Aw,L,J];simp only
    rw[if_pos he]
   | load E K t x=>rw[l] at a;cases t<;>simp[dO.cls] at a
   | vcall p f xs=>rw[l] at a;cases p<;>simp[dO.cls] at a
   | kcall p f xs=>rw[l] at a;cases p<;>simp[dO.cls] at a
   | _=>rw[l] at a;simp[dO.cls] at a
  .intro a;exfalso;unfold dO.cls at a
   split at a<;>first|(cases a;done)|skip
   rename_i m
   rw[m] at b;simp[aX] at b
 | skip A =>
  have j:∀f d,(∀i∈o.aW,f i=e i)->SS P fm base o f d (f.put o.dst .lW) d:=λf d c=>SS.skip (by rw[yc c];exact A)
  exact⟨.lW,rfl,λf c=>j f H c,λ_=>⟨rfl,λf d c=>j f d c⟩,λ_=>⟨rfl,λf d c _=>j f d c⟩,λ_=>.inl ⟨rfl,λf d c=>j f d c⟩,λ_=>rfl,λ_=>⟨rfl,λf d c _=>j f d c⟩,λ_=>.inl ⟨rfl,λf d c=>j f d c⟩,λ_=>⟨λ_ _ _ h=>h,λ_ _ _ h=>h⟩,λ_=>.inl ⟨rfl,λf d c=>j f d c⟩,λ_=>.inl ⟨rfl,λf d c=>j f d c⟩,λ_ _ _ _ _=>rfl⟩
 | pcall A m c =>
  rename_i g xs r H2
  have j:∀f d,(∀i∈o.aW,f i=e i)->SS P fm base o f d (f.put o.dst (vc H2 r).out) d:=λf d n =>
   SS.pcall (by rw[yc n];exact A) m (by rw[Cf (λi hi=>w n i (by rw[m];exact hi))];exact c)
  refine⟨(vc H2 r).out,rfl,λf n=>j f H n,λ_=>⟨rfl,j⟩,?_,?_,?_,?_,?_,?_,?_,?_,?_⟩<;>(intro a;exfalso;rw[m] at a;cases a)
 | scall A m c =>
  rename_i g xs r H2
  refine⟨r.cl H.length,rfl,λf n=>SS.scall (by rw[yc n];exact A) m (by rw[Cf (λi hi=>w n i (by rw[m];exact hi))];exact c),?_,?_,?_,?_,?_,?_,?_,?_,?_,?_⟩ <;>
   (intro a;exfalso;rw[m] at a;cases a)
 | scallE A m c T =>
  rename_i g xs r H2;refine⟨r.cl H.length,rfl,λf n=>?_,?_,?_,?_,?_,?_,?_,?_,?_,?_,?_⟩
  .have U:=Cf (xs:=xs) (e:=e) (f:=f) (λi hi=>w n i (by rw[m];exact hi));exact SS.scallE (by rw[yc n];exact A) m (by rw[U];exact c) (by rw[U];exact T)
  all_goals (intro a;exfalso;rw[m] at a;cases a)
 | scallA A m c T =>
  rename_i rs g xs r H2;have M7:∀f:Env,(∀i∈o.aW,f i=e i)->∀i∈rs,f i=e i:=λf n i hi=>w n i (by rw[m];simp only[dO.aW,aai];exact .inl hi);have U:∀f:Env,(∀i∈o.aW,f i=e i)->∀i∈sN xs,f i=e i:=λf n i hi=>w n i (by rw[m];simp only[dO.aW,aai];exact .inr hi);refine⟨r.cl H.length,rfl,λf n=>SS.scallA (by rw[yc n];exact A) m (by rw[Cf (U f n)];exact c) (λq N id B=>T q N id (by rw[<-M7 f n q N];exact B)),?_,?_,?_,?_,?_,?_,?_,?_,?_,?_⟩
  case refine_10=>intro _;rw[m];exact T
  all_goals (intro a;exfalso;rw[m] at a;cases a)
 | kcall A m c O =>
  rename_i p g xs r;refine⟨r,rfl,λf n=>SS.kcall (by rw[yc n];exact A) m (by rw[Cf (λi hi=>w n i (by rw[m];exact hi))];exact c) O,?_,?_,?_,?_,?_,?_,?_,?_,?_,?_⟩
  case refine_7 =>
   intro a;rw[m] at a
   cases p with
   | false=>simp[dO.cls] at a
   | true =>
    obtain⟨hb,ht⟩:=O rfl
    have G:∀id,id<base->H1[id]?=H[id]?:=λid B=>by
     have I:(H1.take H.length)[id]?=H[id]?:=by rw[ht]
     rw[abm,if_pos an] at I;exact I
    exact⟨λid F B h=>by rw[G id B];exact h,λid F B h=>by rw[G id B] at h;exact h⟩
  all_goals (intro a;exfalso;rw[m] at a;cases p<;>simp[dO.cls] at a)
 | vcall A m df c O =>
  rename_i p fx xs g hj r H2;refine⟨r.cl H.length,rfl,λf n=>?_,?_,?_,?_,?_,?_,?_,?_,?_,?_,?_⟩
  .have C:=w n;rw[m] at C;simp only[dO.aW,aai] at C;exact SS.vcall (by rw[yc n];exact A) m (by rw[X.bq (λi hi=>C i (.inl hi))];exact df) (by rw[Cf (λi hi=>C i (.inr hi))];exact c) O
  .intro a;rw[m] at a;cases p<;>simp[dO.cls] at a
  .intro a;rw[m] at a;cases p<;>simp[dO.cls] at a
  .intro a;rw[m] at a;cases p<;>simp[dO.cls] at a
  .intro a;rw[m] at a
   cases p with
   | true=>exact O rfl
   | false=>simp[dO.cls] at a
  .intro a;rw[m] at a;cases p<;>simp[dO.cls] at a
  .intro a;rw[m] at a;cases p<;>simp[dO.cls] at a
  .intro a;rw[m] at a;cases p<;>simp[dO.cls] at a
  .intro a;rw[m] at a;cases p<;>simp[dO.cls] at a
  .intro a;rw[m] at a;cases p<;>simp[dO.cls] at a
  .intro a;rw[m] at a;cases p<;>simp[dO.cls] at a
 | j8 A m df hb hl ha ji lE im =>
  rename_i fx xs id e0 ps as bo V hm f0 qQ qR qS x e2 H2 g0 qT qU qV;refine⟨.bool (decide (x=.nx)),rfl,λf n=>?_,?_,?_,?_,?_,?_,?_,?_,?_,?_,?_⟩
  .have C:=w n;rw[m] at C;simp only[dO.aW,aai] at C;exact SS.j8 (by rw[yc n];exact A) m (by rw[X.bq (λi hi=>C i (.inl hi))];exact df) hb hl (by rw[Cf (λi hi=>C i (.inr hi))];exact ha) ji lE im
  all_goals (intro a;exfalso;rw[m] at a;simp[dO.cls] at a)
def V.lit:V->Bool
 | .int _ _|.bool _|.str _|.nilp|.nilf|.nilm=>true
 | .vs [] .full=>true
 | _=>false
def zEr{c:V}{x:Value}(h:c.lit=true)(b:aq M w c x):aq M' w' c x:=by
 cases c with
 | vs g tk =>
  cases g with
  | cons e g=>simp[V.lit] at h
  | nil =>
   cases tk<;>simp[V.lit] at h
   simp only[aq] at b |-;obtain⟨p,a,d,i,j,f,k⟩:=b;refine⟨p,a,d,i,j,?_,k⟩
   cases a with
   | none=>exact f
   | some l=>exact⟨f.1,f.2.1,by simp only[fV]⟩
 | _=>first|(simp[V.lit] at h;done)|(simpa only[aq] using b)
def zuD:∀{cs:List V} {xs:List Value},cs.all V.lit=true->ai M w cs xs->ai M' w' cs xs
 | [],_,_,e=>by simpa only[ai] using e
 | c::cs,_,h,e=>by
  simp only[abc,aab] at h;simp only[ai] at e |-;obtain⟨x,a,b,d,f⟩:=e;exact⟨x,a,b,zEr h.1 d,zuD h.2 f⟩
structure More (M1 M2:Mm):Prop where
 al:∀i,M1.al i=true->M2.al i=true/\M2.j i=M1.j i/\M2.z i=M1.z i
 gh:M2.gh=M1.gh
 fm:M2.fm=M1.fm
mutual
def aq.more{M1 M2:Mm}(d:More M1 M2):∀{c:V} {x:Value},aq M1 w c x->aq M2 w c x
 | .undef,_,_=>by simp only[aq]
 | .lW,_,e=>by simpa only[aq] using e
 | .any,_,e=>by simpa only[aq] using e
 | .int _ _,_,e=>by simpa only[aq] using e
 | .bool _,_,e=>by simpa only[aq] using e
 | .str _,_,e=>by simpa only[aq] using e
 | .nilp,_,e=>by simpa only[aq] using e
 | .nilf,_,e=>by simpa only[aq] using e
 | .nilm,_,e=>by simpa only[aq] using e
 | .mp id,_,e=>by simp only[aq] at e |-;obtain⟨a,b,_⟩:=d.al id e.1;exact⟨a,by rw[b];exact e.2⟩
 | .yld id,_,e=>by simp only[aq] at e |-;obtain⟨a,b,_⟩:=d.al id e.1;exact⟨a,by rw[b];exact e.2⟩
 | .gs id k,_,e=>by simp only[aq] at e |-;obtain⟨a,b,z⟩:=d.al id e.1;exact⟨a,by rw[b,z];exact e.2⟩
 | .ptr id l,_,e=>by simp only[aq] at e |-;obtain⟨a,b,_⟩:=d.al id e.1;exact⟨a,by rw[b];exact e.2⟩
 | .rs id l k _,_,e=>by simp only[aq] at e |-;obtain⟨a,b,_⟩:=d.al id e.1;exact⟨a,by rw[b];exact e.2⟩
 | .cptr m,_,e=>by
  simp only[aq] at e |-;obtain⟨p,b,o,g,e⟩:=e
  exact⟨p,b,o,g,fj.more d e⟩
 | .vs r tk,_,e=>by
  simp only[aq] at e |-;obtain⟨p,a,h,g,n,i,j⟩:=e;refine⟨p,a,h,g,n,?_,?_⟩
  .cases a with
   | none=>exact i
   | some s=>exact⟨i.1,i.2.1,fV.more d i.2.2⟩
  .cases tk with
   | no=>trivial
   | full=>exact j
   | own q=>simp only[lY] at j |-;obtain⟨a,_,z⟩:=d.al q j.1;rw[z];exact⟨a,j.2⟩
 | .fn f h,_,e=>by
  simp only[aq] at e |-;obtain⟨xs,g,e⟩:=e
  exact⟨xs,by rw[d.fm];exact g,ai.more d e⟩
 | .agg m,_,e=>by
  simp only[aq] at e |-;obtain⟨p,xs,g,e⟩:=e
  exact⟨p,xs,g,ai.more d e⟩
 | .bf m,_,e=>by
  simp only[aq] at e |-;obtain⟨xs,g,e⟩:=e;exact⟨xs,g,ai.more d e⟩
def ai.more{M1 M2:Mm}(a:More M1 M2):∀{cs:List V} {xs:List Value},ai M1 w cs xs->ai M2 w cs xs
 | [],_,e=>by simpa only[ai] using e
 | c::cs,_,e=>by
  simp only[ai] at e |-;obtain⟨x,b,d,f,g⟩:=e;exact⟨x,b,d,aq.more a f,ai.more a g⟩
def fj.more{M1 M2:Mm}(a:More M1 M2){b:Nat}:∀{cs:List V} {o:Nat},fj M1 w b cs o->fj M2 w b cs o
 | [],_,_=>by simp only[fj]
 | c::cs,o,e=>by
  simp only[fj] at e |-;obtain⟨⟨x,d,rd,f⟩,g⟩:=e;exact⟨⟨x,d,λl h=>rd l (by rw[<-a.gh];exact h),aq.more a f⟩,fj.more a g⟩
def fV.more{M1 M2:Mm}(a:More M1 M2){b:Nat}:∀{es:List (List V)} {o:Nat},fV M1 w b es o->fV M2 w b es o
 | [],_,_=>by simp only[fV]
 | e::es,o,k=>by
  simp only[fV] at k |-;exact⟨fj.more a k.1,fV.more a k.2⟩
end
def aK.more{M1 M2:Mm}(g:More M1 M2){id:Nat}{l:az}(i:M2.j id=M1.j id)(m:M2.z id=M1.z id)(h:aK M1 w id l):aK M2 w id l:=by
 cases l with
 | cells n =>
  simp only[aK,i,g.gh] at h |-;obtain⟨a,b,xs,e,c,d⟩:=h
  exact⟨a,b,xs,e,c,ai.more g d⟩
 | zone k=>simpa only[aK,m,g.gh] using h
 | jo n =>
  simp only[aK,i,g.gh] at h |-;obtain⟨a,b,xs,e,c,d⟩:=h
  exact⟨a,b,xs,e,c,ai.more g d⟩
 | map E =>
  simp only[aK,i,g.gh] at h |-;obtain⟨b,ents,c,d,d',f⟩:=h
  exact⟨b,ents,c,ai.more g d,ai.more g d',f⟩
 | dF t pos=>simpa only[aK,i,g.gh] using h
 | grow n F G =>
  simp only[aK,i,m,g.gh] at h |-;obtain⟨a,b,o,q,xs,e,c,s,d,u⟩:=h
  exact⟨a,b,o,q,xs,e,c,s,ai.more g d,u⟩
 | loop H I as bo st =>
  simp only[aK,i,g.gh,g.fm] at h |-;obtain⟨a,r,v,x,y,A,B,C⟩:=h;exact⟨a,r,v,x,y,A,B,λp D=>aq.more g (C p D)⟩
def aK.upto(n:Nat){id:Nat}{j:az}(h:aK M w id j):aK (M.upto n) w id (j.cl n):=by
 cases j with
 | cells l =>
  simp only[aK,az.cl] at h |-;obtain⟨a,b,xs,e,c,d⟩:=h;refine⟨λv g=>?_,b,xs,e,c,by rw[iW,aah,<-iW];exact ai.upto n d⟩;rw[iW,aaR] at g;obtain⟨c',i,rfl⟩:=g
  exact V.qk n c' (a c' i)
 | grow l F G =>
  simp only[aK,az.cl] at h |-;obtain⟨a,b,m,o,xs,e,c,s,d,u⟩:=h;refine⟨λv g=>?_,b,m,o,xs,e,c,s,by rw[iW,aah,<-iW];exact ai.upto n d,by rw[iW,aah];exact u⟩;rw[iW,aaR] at g;obtain⟨c',i,rfl⟩:=g
  exact V.qk n c' (a c' i)
 | zone k=>simpa only[aK,az.cl,Mm.upto] using h
 | jo l =>
  simp only[aK,az.cl] at h |-;obtain⟨a,b,xs,e,c,d⟩:=h;refine⟨λv g=>?_,by rw[iW,aah];exact b,xs,e,c,by rw[iW,aah,<-iW];exact ai.upto n d⟩;rw[iW,aaR] at g;obtain⟨c',i,rfl⟩:=g
  rw[V.qm n c' (a c' i)];exact a c' i
 | map H =>
  simp only[aK,az.cl] at h |-;obtain⟨b,ents,c,d,d',f⟩:=h;refine⟨b,ents,by rw[aah];exact c,?_,?_,f⟩
  .have:=ai.upto n d;rw[iW,aaz] at this;rw[aaz];exact this
  .have:=ai.upto n d';rw[iW,aaz] at this
   rw[aaz];exact this
 | dF t pos=>simpa only[aK,az.cl,Mm.upto] using h
 | loop I J as bo st =>
  simp only[aK,az.cl] at h |-;obtain⟨a,r,x,y,z,A,B,C⟩:=h;refine⟨a,r,x,y,z,A,B,λp D=>?_⟩;obtain⟨q,E,rfl⟩:=aaR.1 D;exact aq.upto n (C q E)
def y5.frame{base k f:Nat}{args:List V}{r:V}{z:List V}(hf:y5 P fm f args H r H1)(O:H[k]?=some none)(dE:base<=k)(ha:∀v∈args,v.cl base=v)(hH:H.map (abJ (az.cl base))=H)(qG:H1[k]?=some none)
  (hz:z.all V.lit=true):y5 P fm f args (H.set k (some (.cells z))) r (H1.set k (some (.cells z))):=by
 have aj:k<H.length:=(aae.1 O).1;have th:k<H1.length:=(aae.1 qG).1;refine⟨by simpa using hf.1,λM w jF hm B eo=>?_⟩;have C:∀id,id≠k->(H.set k (some (az.cells z)))[id]?=H[id]?:=λid h=>getElem?_set_ne h;have S:∀id,id≠k->(H1.set k (some (az.cells z)))[id]?=H1[id]?:=λid h=>getElem?_set_ne h;have T:(H.set k (some (az.cells z)))[k]?=some (some (.cells z)):=aao aj;have U:(H1.set k (some (az.cells z)))[k]?=some (some (.cells z)):=aao th
 obtain⟨M0,n⟩:∃M0:Mm,M0={ M with al:=λi=>decide (i≠k)&&M.al i }:=⟨_,rfl⟩
 have FA:More (M.upto base) M0:=⟨λi hi=>by
  subst n;simp only[Mm.upto,aab,decide_eq_true_eq] at hi |-
  exact⟨⟨an,hi.2⟩,trivial,trivial⟩,by subst n;rfl,by subst n;rfl⟩
 have F:∀{c:V} {x:Value},c.cl base=c->aq M w c x->aq M0 w c x:=λQ G=>by
  have:=aq.more FA (aq.upto base G);rwa[Q] at this
 have nH:∀{id:Nat} {cE:az},id≠k->H[id]?=some (some cE)->aK M w id cE->aK M0 w id cE:=fun{id cE} d m h=>by
  have jU:cE.cl base=cE:=by
   have q:(H.map (abJ (az.cl base)))[id]?=H[id]?:=by rw[hH]
   rw[aam,m] at q;simpa using q
  have:=aK.more FA (id:=id) (by subst n;rfl) (by subst n;rfl) (aK.upto base h);rwa[jU] at this
 have DD:M.al k=true:=(B.rE k).2 ⟨_,T⟩;have Nj:=B.rel k _ T;simp only[aK] at Nj;obtain⟨Ro,sv,xs,te,I,DA⟩:=Nj
 have R:∀id,id≠k->aV M0 H id=aV M (H.set k (some (.cells z))) id:=λid d=>by subst n;simp only[aV,C id d]
 have cE:aV M (H.set k (some (.cells z))) k=some (M.j k):=by simp[aV,T]
 have s:aV M0 H k=none:=by simp[aV,O]
 have W:¬uu M0 H (M.j k):=by
  rintro⟨id,bH⟩
  have d:id≠k:=λe=>by rw[e,s] at bH;cases bH
  rw[R id d] at bH;exact d (B.inj id k _ bH cE)
 have X:∀b,uu M0 H b->uu M (H.set k (some (.cells z))) b:=by
  rintro b ⟨id,bH⟩
  have d:id≠k:=λe=>by rw[e,s] at bH;cases bH
  exact⟨id,by rw[<-R id d];exact bH⟩
 have Nk:aG M0 w H:=by
  refine⟨λid=>?_,λid b m=>?_,λid y b q u=>?_,λg J Y=>?_⟩
  .by_cases d:id=k
   .subst d;rw[O];subst n;simp
   .have:=B.rE id;rw[C id d] at this;rw[<-this];subst n;simp[d]
  .have d:id≠k:=λe=>by rw[e,O] at m;cases m
   exact nH d m (B.rel id b (by rw[C id d];exact m))
  .have d:id≠k:=λe=>by rw[e,s] at q;cases q
   have D:y≠k:=λe=>by rw[e,s] at u;cases u
   rw[R id d] at q;rw[R y D] at u;exact B.inj id y b q u
  .have Z:M.fm.gl g=some J:=by subst n;exact Y
   exact F (by simp only[V.cl]) (B.oI g J Z)
 have H6:ai M0 w args jF:=Am (gQ eo) λi c x Q hx=>by
  obtain⟨x',aS,G⟩:=nZ eo Q;rw[hx] at aS;cases aS;exact F (ha c (abb Q)) G
 obtain⟨hF,i_⟩:=hf.2 M0 w jF (by subst n;exact hm) Nk H6;refine⟨hF,i_.mono ?_⟩;rintro en w' ⟨rv,M',rfl,G,t,hi,K⟩
 have qY:M'.al k=false:=by
  cases h:M'.al k with
  | false=>rfl
  | true=>obtain⟨b,m⟩:=(K.rE k).1 h;rw[qG] at m;cases m
 obtain⟨E,p⟩:∃E:Mm,E={ M' with al:=λi=>decide (i=k)||M'.al i,j:=λi=>if i=k then M.j k else M'.j i,z:=λi=>if i=k then M.z k else M'.z i }:=⟨_,rfl⟩
 have j2:E.j k=M.j k:=by subst p;simp
 have AQ:More M' E:=⟨λi hi=>by
  have d:i≠k:=λe=>by rw[e,qY] at hi;cases hi
  subst p
  simp[hi,d],by subst p;rfl,by subst p;rfl⟩
 have dh:M.j k<w.heap.size:=(aaG.1 I).1;have XQ:w'.heap[M.j k]?=w.heap[M.j k]?:=t.same _ dh W
 have nR:M'.gh (M.j k)=some 0:=by rw[t.limo _ dh W];subst n;exact sv
 have L:∀id,id≠k->aV E (H1.set k (some (.cells z))) id=aV M' H1 id:=λid d=>by subst p;simp only[aV,S id d,d,if_false]
 have H7:aV E (H1.set k (some (.cells z))) k=some (M.j k):=by simp[aV,U,j2]
 have Nm:¬uu M' H1 (M.j k):=λA=>W (t.own _ dh A);refine⟨rv,E,rfl,aq.more AQ G,?_,?_,?_⟩
 .exact{
   os:=t.os
   tape:=t.tape
   output:=t.output
   size:=t.size
   same:=λb m A=>t.same b m λh=>A (X b h)
   cells:=λb l o m N A=>t.cells b l o m (by subst n;exact N) A
   nY:=λb m N=>by
    have:=t.nY b m (by subst n;exact N);subst p;exact this
   jq:=λb l m N=>by
    have:=t.jq b l m (by subst n;exact N);subst p;exact this
   limo:=λb m A=>by
    have:=t.limo b m λh=>A (X b h);subst p;subst n;exact this
   own:=λb m A=>by
    obtain⟨id,bH⟩:=A
    by_cases d:id=k
    .subst d;rw[H7] at bH;cases bH;exact⟨_,cE⟩
    .rw[L id d] at bH;exact X b (t.own b m ⟨id,bH⟩)
   fm:=by
    have:=t.fm
    subst p;subst n;exact this }
 .intro id bH gU
  by_cases d:id=k
  .subst d;subst p;simp[vb.refl]
  .have h0:M0.al id=true:=by subst n;simp[d,gU]
   obtain⟨a,b,c⟩:=hi id (by simpa using bH) h0;subst p;subst n;simp[d,a,b,c]
 .refine⟨λid=>?_,λid b m=>?_,λid y b q u=>?_,λg J Y=>?_⟩
  .by_cases d:id=k
   .subst d;rw[U];subst p;simp
   .have:=K.rE id;rw[S id d,<-this];subst p;simp[d]
  .by_cases d:id=k
   .subst d;rw[U] at m;cases m;simp only[aK,j2];refine⟨Ro,by subst p;exact nR,xs,te,XQ.trans I,zuD hz DA⟩
   .rw[S id d] at m;exact aK.more AQ (by subst p;simp[d]) (by subst p;simp[d]) (K.rel id b m)
  .by_cases d:id=k
   .subst d;rw[H7] at q;cases q
    by_cases D:y=id
    .exact D.symm
    .rw[L y D] at u;exact absurd ⟨y,u⟩ Nm
   .by_cases D:y=k
    .subst D;rw[H7] at u;cases u;rw[L id d] at q;exact absurd ⟨id,q⟩ Nm
    .rw[L id d] at q;rw[L y D] at u;exact K.inj id y b q u
  .have Z:M'.fm.gl g=some J:=by subst p;exact Y
   exact aq.more AQ (K.oI g J Z)
def XR(a b:Nat):Bool :=
 match a,b with
 | 0,_=>true
 | _,0=>true
 | 1,1|1,2|2,1|2,2|1,3|3,1|3,3|1,5|5,1|2,5|5,2|6,6|6,7|7,6|1,8|8,1|1,9|9,1|2,9|9,2|9,9|6,10|10,6|1,6|6,1|3,6|6,3=>true
 | _,_=>false
def zjp(o p:dO):Bool :=
 (match o.root with|some r=>(p.cls !=7&&p.cls !=10)||p.jG.contains r|none=>true)&&(match p.root with|some r=>(o.cls !=7&&o.cls !=10)||o.jG.contains r|none=>true) &&
  (match o.slot,p.slot with|some s,some s'=>s !=s'||(o.cls !=9&&p.cls !=9)|_,_=>true)
def zzn(o p:aF):Bool :=
 match o.op,p.op with
 | .scallE _ _,.alloc _ z=>z.all V.lit&&(match o.dst with|some d=>!(p.aW.contains d)&&p.dst !=some d|none=>true)&&(match p.dst with|some d=>!(o.aW.contains d)|none=>true)
 | _,_=>false
def XS(o p:aF):Bool :=
 zjp o.op p.op&&XR o.op.cls p.op.cls&&(match o.dst with|some d=>!(p.aW.contains d)&&p.dst !=some d|none=>true)&&(match p.dst with|some d=>!(o.aW.contains d)|none=>true)
def XT(o p:aF):Bool :=
 (match o.op,p.op with
 | .loadA _ _ rs _,.storeT _ r _ _=>rs.contains r
 | .storeT _ r _ _,.loadA _ _ rs _=>rs.contains r
 | .loadA _ _ _ _,.loadA _ _ _ _=>true
 | _,_=>false)&&(match o.dst with|some d=>!(p.aW.contains d)&&p.dst !=some d|none=>true)&&(match p.dst with|some d=>!(o.aW.contains d)|none=>true)
def Nn(o p:aF):Bool:=XS o p||zzn o p||XT o p
def Ko{e:Env}{d:Option Nat}{v:V}{a:List Nat}(h:(match d with|some d=>!(a.contains d)|none=>true)=true):∀i∈a,e.put d v i=e i:=by
 intro i hi
 cases d with
 | none=>rfl
 | some d =>
  simp only[abo,List.contains_eq_mem,decide_eq_false_iff_not] at h;rw[Env.iY,if_neg (fun(b:i=d)=>h (by rw[<-b];exact hi))]
def XU{e:Env}{d d':Option Nat}{u v:V}(h:∀k,d=some k->d'≠some k):(e.put d u).put d' v=(e.put d' v).put d u:=by
 cases d with
 | none=>rfl
 | some k =>
  cases d' with
  | none=>rfl
  | some a =>
   have:=h k rfl
   funext i
   simp only[Env.iY]
   by_cases b:i=k<;>by_cases c:i=a<;>simp_all
def SS.No{base:Nat}{o p:aF}{e e1 e2:Env}(h:SS P fm base o e H e1 H1)(k:SS P fm base p e1 H1 e2 H2)(hi:XS o p=true) :
  ∃f C,SS P fm base p e H f C/\SS P fm base o f C e2 H2:=by
 obtain⟨u,n⟩:=h.chr;obtain⟨v,q⟩:=k.chr;unfold XS at hi;simp only[aab] at hi;obtain⟨⟨⟨L,hc⟩,A⟩,h2⟩:=hi
 have qj:∀i∈p.aW,e1 i=e i:=by
  rw[n.env];refine Ko ?_
  cases hd:o.dst with
  | none=>rfl
  | some d=>rw[hd] at A;simp only[aab] at A;exact A.1
 have t:∀i∈p.aW,e i=e1 i:=λi hi=>(qj i hi).symm;have w:∀i∈o.aW,(e.put p.dst v) i=e i:=Ko h2
 have x:(e.put p.dst v).put o.dst u=e2:=by rw[q.env,n.env];exact(XU (λk hk kT=>by rw[hk] at A;simp[kT] at A)).symm
 have F:H1=H->H2=H1->∃f C,SS P fm base p e H f C/\SS P fm base o f C e2 H2:=by intro HO Ce;subst HO;subst Ce;exact⟨_,_,q.same e t,by have:=n.same _ w;rw[x] at this;exact this⟩
 have cp:∀a b:Nat,XR a b=true->a=0\/b=0\/(a=1/\b=1)\/(a=1/\b=2)\/(a=2/\b=1)\/(a=2/\b=2)\/(a=1/\b=3)\/(a=3/\b=1)\/(a=3/\b=3)\/(a=1/\b=5)\/(a=5/\b=1)\/(a=2/\b=5)\/(a=5/\b=2)\/(a=6/\b=6)\/(a=6/\b=7)\/(a=7/\b=6)\/(a=1/\b=8)\/(a=8/\b=1)\/(a=1/\b=9)\/(a=9/\b=1)\/(a=2/\b=9)\/(a=9/\b=2)\/(a=9/\b=9)\/(a=6/\b=10)\/(a=10/\b=6)\/(a=1/\b=6)\/(a=6/\b=1)\/(a=3/\b=6)\/(a=6/\b=3):=by
  intro a b h;unfold XR at h
  split at h<;>simp_all
 have AR:∀(s:Nat) (B:az) (C:ae),Fz base C (C.set (base+s) (some B)):=λs B C id T J h=>by rw[getElem?_set_ne an];exact h
 have ye:∀(s:Nat) (B:az) (C:ae),Fz base (C.set (base+s) (some B)) C:=λs B C id T J h=>by rw[getElem?_set_ne an] at h;exact h
 have H8:∀(id k:Nat) (C:ae),XO base C id->Fz base C (C.set id (some (.zone k))):=by
  intro id k C M j T hj h
  by_cases vL:j=id
  .subst vL
   rcases M with⟨A,_⟩|⟨k',A⟩
   .omega
   .rw[A] at h;cases h
  .rw[getElem?_set_ne vL];exact h
 have DE:∀(id k:Nat) (C:ae),XO base C id->Fz base (C.set id (some (.zone k))) C:=by
  intro id k C M j T hj h
  by_cases vL:j=id
  .subst vL
   have aj:j<C.length:=by
    rcases M with⟨_,A⟩|⟨k',A⟩
    .exact Hu A
    .exact(aae.1 A).1
   rw[aao aj] at h;cases h
  .rw[getElem?_set_ne vL] at h;exact h
 have AS:∀s s',o.op.slot=some s->p.op.slot=some s'->o.op.cls=9\/p.op.cls=9->base+s'≠base+s:=by
  intro s s' A h2 y Z
  have yX:s'=s:=an
  subst yX;unfold zjp at L;simp only[A,h2,aab] at L
  rcases y with y|y<;>simp[y] at L
 rcases cp _ _ hc with h0|h0|⟨c,g⟩|⟨c,g⟩|⟨c,g⟩|⟨c,g⟩|⟨c,g⟩|⟨c,g⟩|⟨c,g⟩|⟨c,g⟩|⟨c,g⟩|⟨c,g⟩|⟨c,g⟩|⟨c,g⟩|⟨c,g⟩|⟨c,g⟩|⟨c,g⟩|⟨c,g⟩|⟨c,g⟩|⟨c,g⟩|⟨c,g⟩|⟨c,g⟩|⟨c,g⟩|⟨c,g⟩|⟨c,g⟩|⟨c,g⟩|⟨c,g⟩|⟨c,g⟩|⟨c,g⟩
 .obtain⟨m,z⟩:=n.c0 h0;subst m;exact⟨_,_,q.same e t,by have:=z _ H2 w;rw[x] at this;exact this⟩
 .obtain⟨m,z⟩:=q.c0 h0;subst m;exact⟨_,_,z e H t,by have:=n.same _ w;rw[x] at this;exact this⟩
 .exact F (n.c1 c).1 (q.c1 g).1
 .obtain⟨m,z⟩:=n.c1 c;subst m
  rcases q.c2 g with⟨l,_⟩|⟨s,B,K,⟨Kp,U⟩,G,l,I⟩
  .exact F rfl l
  .subst l;exact⟨_,_,q.same e t,by have:=z _ (H1.set (base+s) (some B)) w (AR s B H1);rw[x] at this;exact this⟩
 .obtain⟨m,z⟩:=q.c1 g;subst m
  rcases n.c2 c with⟨l,_⟩|⟨s,B,K,⟨Kp,U⟩,G,l,I⟩
  .exact F l rfl
  .subst l;exact⟨_,_,z e H t (ye s B H),by have:=n.same _ w;rw[x] at this;exact this⟩
 .rcases n.c2 c with⟨m,N⟩|⟨s,B,K,⟨Kp,U⟩,G,m,I⟩
  .subst m;exact⟨_,_,q.same e t,by have:=N _ H2 w;rw[x] at this;exact this⟩
  .rcases q.c2 g with⟨l,O⟩|⟨s',R,y7,⟨atV,hf⟩,V,l,W⟩
   .subst l;exact⟨_,_,O e H t,by have:=n.same _ w;rw[x] at this;exact this⟩
   .subst m;subst l
    have D:base+s'≠base+s:=by intro Z;rw[Z] at V;have:=uv.1 V;rw[aao (Hu G)] at this;cases this
    have AT:k8 H (base+s')=true:=by rw[uv] at V |-;rwa[getElem?_set_ne D] at V
    have Dz:k8 (H.set (base+s') (some R)) (base+s)=true:=by rw[uv] at G |-;rwa[getElem?_set_ne (λh=>D h.symm)]
    have:=I _ (H.set (base+s') (some R)) w Dz;rw[x,aaH _ _ D] at this;exact⟨_,_,W e H t AT,this⟩
 .exact F (n.c1 c).1 (q.c3 g)
 .exact F (n.c3 c) (q.c1 g).1
 .exact F (n.c3 c) (q.c3 g)
 .obtain⟨m,z⟩:=n.c1 c;subst m
  rcases q.c5 g with⟨l,_⟩|⟨id,S,M,l,vk⟩
  .exact F rfl l
  .subst l;exact⟨_,_,q.same e t,by have:=z _ (H1.set id (some (.zone S))) w (H8 id S H1 M);rw[x] at this;exact this⟩
 .obtain⟨m,z⟩:=q.c1 g;subst m
  rcases n.c5 c with⟨l,_⟩|⟨id,S,M,l,vk⟩
  .exact F l rfl
  .subst l;exact⟨_,_,z e H t (DE id S H M),by have:=n.same _ w;rw[x] at this;exact this⟩
 .rcases n.c2 c with⟨m,N⟩|⟨s,B,K,⟨Kp,U⟩,G,m,I⟩
  .subst m;exact⟨_,_,q.same e t,by have:=N _ H2 w;rw[x] at this;exact this⟩
  .rcases q.c5 g with⟨l,O⟩|⟨id,S,M,l,vk⟩
   .subst l;exact⟨_,_,O e H t,by have:=n.same _ w;rw[x] at this;exact this⟩
   .subst m;subst l
    by_cases D:id=base+s
    .subst D;exfalso
     rcases M with⟨_,A⟩|⟨k',A⟩
     .rw[uv,aao (Hu G)] at A;cases A
     .rw[aao (Hu G)] at A;rw[U] at A;cases A
    .have J:H[id]?=(H.set (base+s) (some B))[id]?:=(getElem?_set_ne D).symm
     have Dz:k8 (H.set id (some (.zone S))) (base+s)=true:=by rw[uv] at G |-;rwa[getElem?_set_ne (λh=>D h.symm)]
     have:=I _ (H.set id (some (.zone S))) w Dz;rw[x,aaH _ _ D] at this;exact⟨_,_,vk e H t J,this⟩
 .rcases q.c2 g with⟨m,N⟩|⟨s,B,K,⟨Kp,U⟩,G,m,I⟩
  .subst m;exact⟨_,_,N e H t,by have:=n.same _ w;rw[x] at this;exact this⟩
  .rcases n.c5 c with⟨l,O⟩|⟨id,S,M,l,vk⟩
   .subst l;exact⟨_,_,q.same e t,by have:=O _ H2 w;rw[x] at this;exact this⟩
   .subst l;subst m
    have aj:id<H.length:=by
     rcases M with⟨_,A⟩|⟨k',A⟩
     .exact Hu A
     .exact(aae.1 A).1
    have D:base+s≠id:=by intro h;rw[h,uv,aao aj] at G;cases G
    have AT:k8 H (base+s)=true:=by rw[uv] at G |-;rwa[getElem?_set_ne D] at G
    have:=vk _ (H.set (base+s) (some B)) w (getElem?_set_ne (λh=>D h.symm));rw[x,aaH _ _ D] at this;exact⟨_,_,I e H t AT,this⟩
 .exact F (n.c6 c).1 (q.c6 g).1
 .obtain⟨m,z⟩:=n.c6 c;subst m
  have X:∀r,o.op.root=some r->r∈p.op.jG/\r∈p.aW:=by
   intro r E;simp only[zjp,E,g,aab] at L
   have y:r∈p.op.jG:=by simpa using L.1.1
   refine⟨y,?_⟩;unfold dO.jG at y;split at y
   .rename_i Q;simp only[aF.aW,Q,dO.aW,aai];exact .inl (.inl (.inl y))
   .rename_i Q;simp only[aF.aW,Q,dO.aW,aai];exact .inl (.inl y)
   .cases y
  rcases q.c7 g with⟨l,_⟩|⟨id,B,l,Kn⟩
  .exact F rfl l
  .have:=z _ H2 w λr Np E J=>by
    obtain⟨y,Y⟩:=X r E;have h5:=Kn r y;rw[qj r Y] at h5;rw[l,getElem?_set_ne (λZ=>h5 (by rw[J,Z]))]
   exact⟨_,_,q.same e t,by rw[x] at this;exact this⟩
 .obtain⟨m,z⟩:=q.c6 g;subst m
  have X:∀r,p.op.root=some r->r∈o.op.jG/\r∈p.aW:=by
   intro r E;simp only[zjp,E,c,aab] at L
   have y:r∈o.op.jG:=by simpa using L.1.2
   refine⟨y,?_⟩;unfold dO.root at E;split at E
   .rename_i Q;cases E;simp[aF.aW,Q,dO.aW]
   .cases E
  rcases n.c7 c with⟨l,_⟩|⟨id,B,l,Kn⟩
  .exact F l rfl
  .refine⟨_,_,z e H t λr Np E J=>?_,by have:=n.same _ w;rw[x] at this;exact this⟩;obtain⟨y,Y⟩:=X r E;have h5:=Kn r y;rw[qj r Y] at J;rw[l,getElem?_set_ne (λZ=>h5 (by rw[J,Z]))]
 .obtain⟨m,z⟩:=n.c1 c;subst m;exact⟨_,_,q.same e t,by have:=z _ H2 w (q.c8 g).1;rw[x] at this;exact this⟩
 .obtain⟨m,z⟩:=q.c1 g;subst m;exact⟨_,_,z e H t (n.c8 c).2,by have:=n.same _ w;rw[x] at this;exact this⟩
 .obtain⟨m,z⟩:=n.c1 c;subst m
  rcases q.c9 g with⟨l,_⟩|⟨s,T,B,K,dD,l,I⟩
  .exact F rfl l
  .subst l;exact⟨_,_,q.same e t,by have:=z _ (H1.set (base+s) (some B)) w (AR s B H1);rw[x] at this;exact this⟩
 .obtain⟨m,z⟩:=q.c1 g;subst m
  rcases n.c9 c with⟨l,_⟩|⟨s,T,B,K,dD,l,I⟩
  .exact F l rfl
  .subst l;exact⟨_,_,z e H t (ye s B H),by have:=n.same _ w;rw[x] at this;exact this⟩
 .rcases n.c2 c with⟨m,N⟩|⟨s,B,K,⟨Kp,U⟩,G,m,I⟩
  .subst m;exact⟨_,_,q.same e t,by have:=N _ H2 w;rw[x] at this;exact this⟩
  .rcases q.c9 g with⟨l,O⟩|⟨s',fZ,R,y7,Ds,l,W⟩
   .subst l;exact⟨_,_,O e H t,by have:=n.same _ w;rw[x] at this;exact this⟩
   .subst m;subst l;have D:=AS s s' K y7 (.inr g)
    have Dz:k8 (H.set (base+s') (some R)) (base+s)=true:=by rw[uv] at G |-;rwa[getElem?_set_ne (λh=>D h.symm)]
    have:=I _ (H.set (base+s') (some R)) w Dz;rw[x,aaH _ _ D] at this;exact⟨_,_,W e H t (getElem?_set_ne D).symm,this⟩
 .rcases q.c2 g with⟨m,N⟩|⟨s',R,y7,⟨Kp,U⟩,V,m,W⟩
  .subst m;exact⟨_,_,N e H t,by have:=n.same _ w;rw[x] at this;exact this⟩
  .rcases n.c9 c with⟨l,O⟩|⟨s,T,B,K,dD,l,I⟩
   .subst l;exact⟨_,_,q.same e t,by have:=O _ H2 w;rw[x] at this;exact this⟩
   .subst l;subst m;have D:=AS s s' K y7 (.inl c)
    have AT:k8 H (base+s')=true:=by rw[uv] at V |-;rwa[getElem?_set_ne D] at V
    have:=I _ (H.set (base+s') (some R)) w (getElem?_set_ne (λh=>D h.symm));rw[x,aaH _ _ D] at this;exact⟨_,_,W e H t AT,this⟩
 .rcases n.c9 c with⟨m,N⟩|⟨s,T,B,K,dD,m,I⟩
  .subst m;exact⟨_,_,q.same e t,by have:=N _ H2 w;rw[x] at this;exact this⟩
  .rcases q.c9 g with⟨l,O⟩|⟨s',fZ,R,y7,Ds,l,W⟩
   .subst l;exact⟨_,_,O e H t,by have:=n.same _ w;rw[x] at this;exact this⟩
   .subst m;subst l;have D:=AS s s' K y7 (.inl c);have:=I _ (H.set (base+s') (some R)) w (getElem?_set_ne (λh=>D h.symm));rw[x,aaH _ _ D] at this;exact⟨_,_,W e H t (getElem?_set_ne D).symm,this⟩
 .obtain⟨m,z⟩:=n.c6 c;subst m
  have X:∀r,o.op.root=some r->r∈p.op.jG/\r∈p.aW:=by
   intro r E;simp only[zjp,E,g,aab] at L
   have y:r∈p.op.jG:=by simpa using L.1.1
   refine⟨y,?_⟩;unfold dO.jG at y;split at y
   .rename_i Q;simp only[aF.aW,Q,dO.aW,aai];exact .inl (.inl (.inl y))
   .rename_i Q;simp only[aF.aW,Q,dO.aW,aai];exact .inl (.inl y)
   .cases y
  have:=z _ H2 w λr Np E J=>by
   obtain⟨y,Y⟩:=X r E;exact q.c10 g r y Np (by rw[qj r Y];exact J)
  exact⟨_,_,q.same e t,by rw[x] at this;exact this⟩
 .obtain⟨m,z⟩:=q.c6 g;subst m
  have X:∀r,p.op.root=some r->r∈o.op.jG/\r∈p.aW:=by
   intro r E;simp only[zjp,E,c,aab] at L
   have y:r∈o.op.jG:=by simpa using L.1.2
   refine⟨y,?_⟩;unfold dO.root at E;split at E
   .rename_i Q;cases E;simp[aF.aW,Q,dO.aW]
   .cases E
  refine⟨_,_,z e H t λr Np E J=>?_,by have:=n.same _ w;rw[x] at this;exact this⟩;obtain⟨y,Y⟩:=X r E;exact(n.c10 c r y Np (by rw[<-qj r Y];exact J)).symm
 .exact F (n.c1 c).1 (q.c6 g).1
 .exact F (n.c6 c).1 (q.c1 g).1
 .exact F (n.c3 c) (q.c6 g).1
 .exact F (n.c6 c).1 (q.c3 g)
def ztI{n k:Nat}{H:ae}(h:(ak n H)[k]?=some none):H[k]?=some none:=by
 rw[Re] at h;split at h
 .cases a:H[k]? with
  | none=>simp[a] at h
  | some o=>cases o with
   | none=>rfl
   | some b=>simp[a] at h
 .cases h
def zFM(n:Nat){c:V}(h:c.lit=true):c.cl n=c:=by
 cases c with
 | vs a tk=>cases a<;>cases tk<;>simp[V.lit] at h;simp[V.cl,Tk.cl]
 | _=>first|(simp[V.lit] at h;done)|rfl
def XV(n:Nat):∀{z:List V},z.all V.lit=true->a_ n z=z
 | [],_=>rfl
 | c::z,h=>by
  simp only[abc,aab] at h;simp only[a_,zFM n h.1,XV n h.2]
def m9(base:Nat)(f:Env)(H:ae)(o:aF):Option (V×ae):=match wanted f o with
 | some true=>aX base f H o.op
 | some false=>some (.lW,H)
 | none=>none
def Kq{base:Nat}{o:aF}{e f:Env}(h:SS P fm base o e H f H1)(b:(∃sz g rs x,o.op=.loadA sz g rs x)\/∃sz r a x,o.op=.storeT sz r a x):∃v,f=e.put o.dst v/\m9 base e H o=some (v,H1):=by
 cases h with
 | ev d i=>exact⟨_,rfl,by unfold m9;rw[d];exact i⟩
 | skip d=>exact⟨_,rfl,by unfold m9;rw[d]⟩
 | pcall _ c=>rw[c] at b;rcases b with⟨_,_,_,_,h⟩|⟨_,_,_,_,h⟩<;>cases h
 | scall _ c=>rw[c] at b;rcases b with⟨_,_,_,_,h⟩|⟨_,_,_,_,h⟩<;>cases h
 | scallA _ c=>rw[c] at b;rcases b with⟨_,_,_,_,h⟩|⟨_,_,_,_,h⟩<;>cases h
 | scallE _ c=>rw[c] at b;rcases b with⟨_,_,_,_,h⟩|⟨_,_,_,_,h⟩<;>cases h
 | kcall _ c=>rw[c] at b;rcases b with⟨_,_,_,_,h⟩|⟨_,_,_,_,h⟩<;>cases h
 | vcall _ c=>rw[c] at b;rcases b with⟨_,_,_,_,h⟩|⟨_,_,_,_,h⟩<;>cases h
 | j8 _ c=>rw[c] at b;rcases b with⟨_,_,_,_,h⟩|⟨_,_,_,_,h⟩<;>cases h
def SS.FB{base:Nat}{o:aF}{e:Env}{v:V}(h:m9 base e H o=some (v,H1)):SS P fm base o e H (e.put o.dst v) H1:=by
 unfold m9 at h;split at h
 .rename_i a;exact SS.ev a h
 .rename_i a;cases h;exact SS.skip a
 .cases h
def RF{base:Nat}{o:aF}{e f:Env}(h:∀i∈o.aW,f i=e i)(H:ae):m9 base f H o=m9 base e H o:=by unfold m9;rw[yc h,zsO (λi hi=>h i (by simp[aF.aW,hi]))]
def RG{base sz:Nat}{c:Bool}{rs:List Nat}{x:X}{o:aF}{e:Env}{v:V}(d:o.op=.loadA sz c rs x)(h:m9 base e H o=some (v,H1)) :
  H1=H/\∀a:ae,(∀id,rs.all (λr=>(e r).ptrId? !=some id)=true->a[id]?=H[id]?)->m9 base e a o=some (v,a):=by
 unfold m9 at h |-;split at h
 .rename_i f;rw[d] at h |-;simp only[aX] at h |-;split at h
  case h_2=>cases h
  rename_i id g l;split at h
  case isFalse=>cases h
  rename_i b;refine⟨XK h,λa i=>?_⟩;rw[if_pos b];have j:=i id b;unfold loadAt at h |-;rw[j];revert h
  repeat' split
  all_goals intro h
  all_goals first
   | (cases h;done)
   | (rw[aaf] at h |-;obtain⟨u,k,h⟩:=h;cases h;exact⟨_,k,rfl⟩)
 .rename_i f;cases h;exact⟨rfl,λa _=>by simp only⟩
 .cases h
def zqJ{base sz r:Nat}{a x:X}{o:aF}{e:Env}{v:V}(b:o.op=.storeT sz r a x)(h:m9 base e H o=some (v,H1)):∀id,(e r).ptrId?≠some id->H1[id]?=H[id]?:=by
 intro id c;unfold m9 at h;split at h
 .rw[b] at h;simp only[aX] at h;split at h
  case h_2=>cases h
  rename_i j d k;split at h
  case isFalse=>cases h
  rename_i f;obtain⟨l,g⟩:=XL h;rw[g,getElem?_set_ne (λi=>c (by rw[f,i]))]
 .cases h;rfl
 .cases h
def SS.Nq{base:Nat}{o p:aF}{e C w:Env}(h:SS P fm base o e H C H1)(k:SS P fm base p C H1 w H2)(hi:XT o p=true) :
  ∃f g,SS P fm base p e H f g/\SS P fm base o f g w H2:=by
 unfold XT at hi;simp only[aab] at hi;obtain⟨⟨z,q⟩,D⟩:=hi
 have A:∀u,∀i∈p.aW,e.put o.dst u i=e i:=λu=>by
  refine Ko ?_
  cases hd:o.dst with
  | none=>rfl
  | some d=>rw[hd] at q;simp only[aab] at q;exact q.1
 have E:∀v,∀i∈o.aW,(e.put p.dst v) i=e i:=λv=>Ko D
 have F:∀u v,(e.put p.dst v).put o.dst u=(e.put o.dst u).put p.dst v:=λu v =>
  (XU (λk G I=>by rw[G] at q;simp[I] at q)).symm
 have l:∀u v g,m9 base e H p=some (v,g)->m9 base e g o=some (u,H2)->w=(e.put o.dst u).put p.dst v->∃f g,SS P fm base p e H f g/\SS P fm base o f g w H2:=by intro u v g b c J;refine⟨_,_,SS.FB b,?_⟩;have:=SS.FB (P:=P) (fm:=fm) (e:=e.put p.dst v) (by rw[RF (E v)];exact c);rw[F,<-J] at this;exact this
 split at z
 .rename_i K L rs x M r a y c b;obtain⟨u,j,m⟩:=Kq h (.inl ⟨_,_,_,_,c⟩);obtain⟨v,s,rv⟩:=Kq k (.inr ⟨_,_,_,_,b⟩);obtain⟨n,B⟩:=RG c m;subst n;rw[j,RF (A u)] at rv;refine l u v H2 rv (B H2 λid t=>zqJ b rv id ?_) (by rw[s,j]);rw[aaO] at t;simpa using t r (by simpa using z)
 .rename_i K r a y M L rs x c b;obtain⟨u,j,m⟩:=Kq h (.inr ⟨_,_,_,_,c⟩);obtain⟨v,s,rv⟩:=Kq k (.inl ⟨_,_,_,_,b⟩);rw[j,RF (A u)] at rv;obtain⟨n,B⟩:=RG b rv;subst n;refine l u v H (B H λid t=>(zqJ c m id ?_).symm) m (by rw[s,j]);rw[aaO] at t;simpa using t r (by simpa using z)
 .rename_i c b;obtain⟨u,j,m⟩:=Kq h (.inl ⟨_,_,_,_,c⟩);obtain⟨v,s,rv⟩:=Kq k (.inl ⟨_,_,_,_,b⟩);rw[j,RF (A u)] at rv;obtain⟨n,_⟩:=RG c m;subst n;obtain⟨n,_⟩:=RG b rv;subst n;exact l u v _ rv m (by rw[s,j])
 .cases z
def SS.swap{base:Nat}{o p:aF}{e N x:Env}(h:SS P fm base o e H N H1)(k:SS P fm base p N H1 x H2)(hi:Nn o p=true) :
  ∃f m,SS P fm base p e H f m/\SS P fm base o f m x H2:=by
 unfold Nn at hi;rw[aa4,aa4] at hi
 rcases hi with(hi|hi)|hi
 .exact h.No k hi
 case inr=>exact h.Nq k hi
 unfold zzn at hi;split at hi
 case h_2=>cases hi
 rename_i f xs s z b l;simp only[aab] at hi;obtain⟨⟨G,y⟩,U⟩:=hi
 have V:∀u,∀i∈p.aW,e.put o.dst u i=e i:=λu=>by
  refine Ko ?_
  cases hd:o.dst with
  | none=>rfl
  | some d=>rw[hd] at y;simp only[aab] at y;exact y.1
 have I:∀v,∀i∈o.aW,(e.put p.dst v) i=e i:=λv=>Ko U
 have D:∀u v,(e.put p.dst v).put o.dst u=(e.put o.dst u).put p.dst v:=λu v =>
  (XU (λk W Y=>by rw[W] at y;simp[Y] at y)).symm
 have c:∀u m E,SS P fm base p (e.put o.dst u) m x E->(E=m/\x=(e.put o.dst u).put p.dst .lW/\(∀f n,(∀i∈p.aW,f i=e i)->SS P fm base p f n (f.put p.dst .lW) n)) \/
   (k8 m (base+s)=true/\E=m.set (base+s) (some (.cells z))/\x=(e.put o.dst u).put p.dst (.ptr (base+s) 0) /\
    ∀f n,(∀i∈p.aW,f i=e i)->k8 n (base+s)=true->SS P fm base p f n (f.put p.dst (.ptr (base+s) 0)) (n.set (base+s) (some (.cells z)))):=by
  intro u m E Z
  have w:∀f:Env,(∀i∈p.aW,f i=e i)->wanted f p=wanted (e.put o.dst u) p:=λf j=>by
   rw[yc (e:=e) j,yc (e:=e) (V u)]
  cases Z with
  | ev J q =>
   right;rw[l] at q;simp only[aX] at q;split at q
   case isFalse=>cases q
   rename_i cJ;cases q;refine⟨cJ,rfl,rfl,λf n j wG=>SS.ev ((w f j).trans J) ?_⟩;rw[l]
   simp only[aX,wG,if_true]
  | skip J=>exact .inl ⟨rfl,rfl,λf n j=>SS.skip ((w f j).trans J)⟩
  | pcall _ a=>rw[l] at a;cases a
  | scall _ a=>rw[l] at a;cases a
  | scallA _ a=>rw[l] at a;cases a
  | scallE _ a=>rw[l] at a;cases a
  | kcall _ a=>rw[l] at a;cases a
  | vcall _ a=>rw[l] at a;cases a
  | j8 _ a=>rw[l] at a;cases a
 cases h with
 | ev _ q=>rw[b] at q;simp[aX] at q
 | skip w =>
  have A:∀v,wanted (e.put p.dst v) o=some false:=λv=>(yc (I v)).trans w
  rcases c _ _ _ k with⟨rfl,rfl,t⟩|⟨j,rfl,rfl,t⟩
  .exact⟨_,_,t e _ (λ_ _=>rfl),by rw[<-D];exact SS.skip (A _)⟩
  .exact⟨_,_,t e _ (λ_ _=>rfl) j,by rw[<-D];exact SS.skip (A _)⟩
 | pcall _ a=>rw[b] at a;cases a
 | scall _ a=>rw[b] at a;cases a
 | scallA _ a=>rw[b] at a;cases a
 | kcall _ a=>rw[b] at a;cases a
 | vcall _ a=>rw[b] at a;cases a
 | j8 _ a=>rw[b] at a;cases a
 | scallE w a j O =>
  rename_i g ys r K;rw[b] at a;cases a;have F:∀v,xs.map (X.ev (e.put p.dst v))=xs.map (X.ev e):=λv=>Cf λi hi=>I v i (by simp[aF.aW,b,dO.aW,hi]);have A:∀v,wanted (e.put p.dst v) o=some true:=λv=>(yc (I v)).trans w
  rcases c _ _ _ k with⟨rfl,rfl,t⟩|⟨tM,rfl,rfl,t⟩
  .exact⟨_,_,t e _ (λ_ _=>rfl),by rw[<-D];exact SS.scallE (A _) b (by rw[F];exact j) (by rw[F];exact O)⟩
  .obtain⟨Q,R,B⟩:=O;have S:=uv.1 tM
   have C:H[base+s]?=some none:=by
    have:((ak H.length K).drop base)[s]?=(H.drop base)[s]?:=by rw[B]
    rw[aaZ,aaZ,S] at this;exact this.symm
   have L:=ztI S;have M:=j.frame (z:=z) C (abt base s) Q R L G
   have T:ak (H.set (base+s) (some (az.cells z))).length (K.set (base+s) (some (.cells z)))=(ak H.length K).set (base+s) (some (.cells z)):=by rw[aaq,ak,ak,List.take_set,aan];simp[az.cl,XV _ G]
   refine⟨_,_,t e _ (λ_ _=>rfl) (uv.2 C),?_⟩
   have:=SS.scallE (P:=P) (base:=base) (o:=o) (e:=e.put p.dst (.ptr (base+s) 0)) (H:=H.set (base+s) (some (.cells z))) (A _) b (by rw[F];exact M) (by
    rw[F,T];refine⟨Q,?_,?_⟩
    .rw[aan,R];simp[az.cl,XV _ G]
    .rw[abB,abB,B])
   rw[T,D,aaq] at this;exact this
end Go.Ev
