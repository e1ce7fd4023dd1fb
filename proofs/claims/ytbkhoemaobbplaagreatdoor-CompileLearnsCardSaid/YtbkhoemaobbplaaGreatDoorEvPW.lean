/- A law's row: arguments that read as data are canonical, and read behind the call as they read before. -/
import Derived.OpenShut
import Derived.ChangeShapes
import Derived.WideShapes
import Derived.Carry
import Derived.Test.YtbkhoemaobbplaaGreatDoorEvMW
import Derived.LaidMore
import Derived.Stop.Joined
import Derived.Laws.IdiomRangeMap
set_option linter.defProp false
set_option linter.unusedSimpArgs false
set_option linter.unusedVariables false
open Option renaming map_eq_some_iff->aab,some->aae,bind_eq_some_iff->aah,map_some->aao,bind_eq_bind->aar,pure_def->aas
open List renaming getElem?_eq_some_iff->aad,getElem?_eq_getElem->aaf,getElem?_map->aai,mem_of_getElem?->aaj,getElem?_of_mem->aal,length_map->aan,getElem?_eq_none->aap,getElem?_range->aaq,mapM_cons->aat,map_cons->aau
open Array renaming length_toList->aag
open Bool renaming and_eq_true->aam
open Nat renaming le_refl->aay
namespace Go.Ev
open Go Go.RowKit Go.ChangeShapes Go.WideShapes
variable {P:Program} {fm:Fm} {w:World} {Hh:Type} {enc:TypeId×Value->Hh}
def Jj:Ty->V->Prop
 | .agg b,v=>∃a,v=.agg a/\jx (.agg b) a
 | .arr n e,v=>∃a,v=.agg a/\jx (.arr n e) a
 | t,v=>jx t [v]
def KB:List Ty->List V->Prop
 | [],vs=>vs=[]
 | t::ts,vs=>∃v r,vs=v::r/\Jj t v/\KB ts r
def R4{v:Value}{c:V}(h:ai (M0 fm) w [c] v.cells.toList)(b:∀cs,v≠.agg cs)(d:∀cs,v≠.tuple cs):aq (M0 fm) w c v:=by
 simp only[ai] at h;obtain⟨x,g,a,e,f⟩:=h;subst f
 have:v.cells=#[v]:=by cases v<;>first|rfl|(exact absurd rfl (b _))|(exact absurd rfl (d _))
 rw[this] at a;simp at a;subst a;exact e
def zCb{r:Nat}{ty:Ty}{t:TypeId}{v:Value}{d:DataW Hh}{ps:List MemPlace}(b:fC P t ty=true)(g:Value.okWide P w .any r t v)(hd:DataW.Trod enc P w 0 (λ_=>true) true t v d ps) :
  ∃c,Jj ty c/\aq (M0 fm) w c v:=by
 obtain⟨q,hd⟩:=hd;obtain⟨h,f,i⟩:=RV (fm:=fm) b hd
 cases ty with
 | int k =>
  obtain⟨n,rfl⟩:=okWide_int (J3 (by simpa only[fC] using b)) g;simp only[jx] at f;obtain⟨m,rfl,l⟩:=f
  exact⟨_,⟨m,rfl,l⟩,R4 i ir ir⟩
 | bool =>
  obtain⟨n,rfl⟩:=okWide_bool (Rm (by simpa only[fC] using b)) g;simp only[jx] at f;obtain⟨m,rfl⟩:=f
  exact⟨_,⟨m,rfl⟩,R4 i ir ir⟩
 | str =>
  obtain⟨n,rfl⟩:=okWide_string (B9 (by simpa only[fC] using b)) g;simp only[jx] at f;obtain⟨m,rfl,l⟩:=f
  exact⟨_,⟨m,rfl,l⟩,R4 i ir ir⟩
 | sl e =>
  simp only[fC] at b;split at b
  case h_2=>cases b
  rename_i s j;obtain⟨a,u,x,rfl⟩:=okWide_slice j g;simp only[jx] at f;obtain⟨y,rfl,z,A⟩:=f
  exact⟨_,⟨y,rfl,z,A⟩,R4 i ir ir⟩
 | agg B =>
  have o:∀c∈h,c.fg=true:=λc p=>V.bZ (jx.pure f c p);simp only[fC] at b;split at b
  case h_2=>cases b
  rename_i gs j;unfold Value.okWide at g;rw[j] at g;obtain⟨xs,rfl,_,_⟩:=g;refine⟨.agg h,⟨h,rfl,f⟩,?_⟩;simp only[aq]
  exact⟨o,xs.toList,ir,i⟩
 | arr n e =>
  have o:∀c∈h,c.fg=true:=λc p=>V.bZ (jx.pure f c p);simp only[fC] at b;split at b
  case h_2=>cases b
  rename_i m s j;unfold Value.okWide at g;rw[j] at g;obtain⟨xs,rfl,_,_⟩:=g;refine⟨.agg h,⟨h,rfl,f⟩,?_⟩;simp only[aq];exact⟨o,xs.toList,ir,i⟩
def zsS{m:Nat}:∀{tys:List Ty} {ts:List TypeId} {vs:List Value} {ds:List (DataW Hh)} {ps:List MemPlace},(∀(i:Nat) (ty:Ty) (t:TypeId),tys[i]?=some ty->ts[i]?=some t->fC P t ty=true)->tys.length=ts.length ->
  (∀(j:Nat) t v,ts[j]?=some t->vs[j]?=some v->Value.okWide P w .any m t v)->DataW.TrodAll enc P w 0 (λ_=>true) true ts vs ds ps ->
  ∃cs,KB tys cs/\ai (M0 fm) w cs vs
 | [],[],vs,ds,ps,_,_,_,h=>by
  obtain⟨rfl,rfl,rfl⟩:=trodAll_nil h
  exact⟨[],by simp only[KB],by simp only[ai]⟩
 | ty::tys,t::ts,vs,ds,ps,k,e,l,h=>by
  obtain⟨v,n,d,o,p,q,rfl,rfl,rfl,r,s⟩:=trodAll_cons h;obtain⟨c,u,x⟩:=zCb (fm:=fm) (k 0 ty t rfl rfl) (l 0 t v rfl rfl) r;obtain⟨cs,y,z⟩:=zsS (tys:=tys) (λi a b f g=>k (i+1) a b (by simpa using f) (by simpa using g)) (by simpa using e) (λj a b f g=>l (j+1) a b (by simpa using f) (by simpa using g)) s;refine⟨c::cs,?_,?_⟩
  .simp only[KB];exact⟨c,cs,rfl,u,y⟩
  .simp only[ai];exact⟨v,n,rfl,x,z⟩
 | [],_::_,_,_,_,_,e,_,_=>by simp at e
 | _::_,[],_,_,_,_,e,_,_=>by simp at e
def zsT(e:laidOutB P=true):∀{ts:List TypeId} {vs:List Value} {ds:List (DataW Hh)} {ps:List MemPlace} {a:World},(ts.all λt=>P.readableRec t&&decide (t<P.types.size))=true->Below w.heap.size w a ->
  DataW.TrodAll enc P w 0 (λ_=>true) true ts vs ds ps->∃i,DataW.TrodAll enc P a 0 (λb=>decide (b<w.heap.size)) true ts vs ds i
 | [],vs,ds,ps,a,_,_,h=>by
  obtain⟨rfl,rfl,rfl⟩:=trodAll_nil h
  exact⟨[],trodAll_mk0⟩
 | t::ts,vs,ds,ps,a,c,f,h=>by
  obtain⟨v,r,d,j,p,q,rfl,rfl,rfl,g,k⟩:=trodAll_cons h;simp only[List.all_cons,aam,decide_eq_true_eq] at c;obtain⟨s,l⟩:=zsT e c.2 f k
  have n:∀x∈p,x.block<w.heap.size:=by obtain⟨m,o⟩:=g;exact DataW.trod_lt m _ _ _ o
  exact⟨_,trodAll_cons_mk (Below.trod e c.1.1 c.1.2 g f n) l⟩
def zCc{v:V}{b:Bool}(h:v.out=.bool b):v=.bool b:=by
 unfold V.out at h
 cases v<;>simp only[V.cl] at h
 case bool=>exact h
 case ptr id off=>rw[if_neg an] at h;cases h
 case rs id off n sz=>rw[if_neg an] at h;cases h
 all_goals cases h
def zCd{H':ae}{r:V}(h:(vc H' r).out=.bool true):r=.bool true:=by
 have h:=zCc h
 cases r<;>simp only[vc,yU] at h<;>first|exact h|(cases h;done)|skip
 split at h
 .split at h<;>cases h
 .cases h
section
variable (c:Nat->ba->Code->Prop)
def KC:aH { fm with ur:=c }=aH fm:=rfl
def zsU:pZ { fm with ur:=c }=pZ fm:=by
 funext o
 induction o with
 | nil=>funext x;cases x<;>simp only[pZ]
 | cons a o b=>funext x;cases x<;>simp only[pZ,KC,b]
def zzE:n8 { fm with ur:=c }=n8 fm:=by
 funext o x
 cases o<;>cases x<;>simp only[n8,KC]
def zuV:tH { fm with ur:=c }=tH fm:=by
 funext pl o
 induction o with
 | nil=>funext x;cases x<;>simp only[tH]
 | cons a o b=>funext x;cases x<;>simp only[tH,KC,b]
def zCe:bI P { fm with ur:=c }=bI P fm:=by
 funext o s
 unfold bI;simp only[KC,zsU,zzE,zuV]
def zwa:tK { fm with ur:=c }=tK fm:=by
 funext o s
 unfold tK;simp only[KC,zsU]
def zwb:HV P { fm with ur:=c }=HV P fm:=by
 funext n ops o s
 unfold HV;simp only[zCe,zwa]
def zuW:sO P { fm with ur:=c }=sO P fm:=by
 funext n ops os
 induction os with
 | nil=>funext x;cases x<;>simp only[sO]
 | cons a o b=>funext x;cases x<;>simp only[sO,zwb,b]
def zuX(rd:Bool)(n:Nat)(s:ba)(k:Code):dI P { fm with ur:=c } rd n s k=dI P fm rd n s k:=by fun_induction dI P fm rd n s k<;>simp_all [dI,KC,zuW]
def zzF(a:FuncId)(fn:aI):DH P { fm with ur:=c } a fn=DH P fm a fn:=by unfold DH;simp only[zuX]
end
def pq(P:Program)(fm:Fm)(f k:Nat):Prop:=∀c args H r H',yW k args H r H'->y5 P { fm with ur:=c } f args H r H'
def wV(P:Program)(fm:Fm)(f:Nat)(fn:aI):Prop:=DH P fm (fm f) fn=true\/∃k,fn.body=.nat k/\pq P fm f k
def zx9(g:B6 (M0 fm) w){G:aP}(q:∀f fn,G f=some fn->wV P fm f fn){f:Nat}{args:List V}(h:FP G f args (.bool true)){d:List Value}(t:ai (M0 fm) w args d) :
  Calls P (fm f) d.toArray w λe w'=>e=.returned (.bool true)/\Below w.heap.size w w':=by
 obtain⟨C,H',u,j⟩:=h;have j:=zCd j;subst j;obtain⟨a,i⟩:∃a:Fm,a={ fm with ur:=λn s c=>dI P fm true n s c=true }:=⟨_,rfl⟩
 have v:a.ur=λn s c=>dI P a true n s c=true:=by
  subst i
  funext n s c
  rw[zuX]
 have l:∀f fn,G f=some fn->DH P a (a f) fn=true\/∃k,fn.body=.nat k/\∀args H r H',yW k args H r H'->y5 P a f args H r H':=by
  subst i;intro f fn h
  rcases q f fn h with h|⟨k,m,h⟩
  .exact .inl ((zzF _ _ _).trans h)
  .exact .inr ⟨k,m,h _⟩
 have o:∀f,a f=fm f:=by subst i;exact λf=>rfl
 have x:B6 (M0 a) w:=by subst i;exact λy z h=>aq.free (M1:=M0 fm) (M2:=M0 { fm with ur:=λn s c=>dI P fm true n s c=true }) (λ_=>rfl) (λ_ _ rd=>rd) (λ_=>rfl) (g y z h)
 have A:ai (M0 a) w args d:=ai.free (M1:=M0 fm) (M2:=M0 a) (λ_=>rfl) (λ_ _ rd=>rd) o t;have:=(sound v l u).2 (M0 a) w d rfl (zKs a w x) A;rw[o] at this;refine this.2.mono ?_;rintro e w' ⟨rv,M',rfl,p,b,_,_⟩;simp only[aq] at p;subst p;refine⟨rfl,b.os,b.tape,b.output,b.size,λk m=>b.same k m ?_⟩;rintro⟨id,B⟩;simp[aV] at B
open Go Go.RowKit
def zEv{P:Program}{tys:List Ty}{ts:List TypeId}(h:(tys.zip ts).all (λx=>fC P x.2 x.1)=true):∀(i:Nat) (ty:Ty) (t:TypeId),tys[i]?=some ty->ts[i]?=some t->fC P t ty=true:=by intro i ty t a b;have c:(ty,t)∈tys.zip ts:=aaj (i:=i) (by rw[List.getElem?_zip_eq_some];exact⟨a,b⟩);exact(List.all_eq_true.1 h) _ c
variable {P:Program} {w:World} {fm:Fm}
def og{H:Type}:Nat->DataW H->Option (List V)
 | _,.lit (.int k n)=>some [.int k n]
 | _,.lit (.bool b)=>some [.bool b]
 | _,.lit (.string s)=>some [.str s]
 | k+1,.agg ds=>(ds.mapM (og k)).map List.flatten
 | _,_=>none
section
variable {H:Type} {enc:TypeId×Value->H} {sp:Nat->Bool} {hd:Bool}
mutual
def YJ:∀{ty:Ty} {fuel k:Nat} {t:TypeId} {cs:List Value} {d:DataW H} {ps:List MemPlace} {vs:List V},fC P t ty=true->DataW.trod enc P w 0 sp hd fuel t cs=some (d,ps)->og k d=some vs ->
  ai (M0 fm) w vs cs
 | ty,0,k,t,cs,d,ps,vs,_,h,_=>by simp[DataW.trod] at h
 | .int kd,fuel+1,k,t,cs,d,ps,vs,f,h,g=>by
  simp only[fC] at f;have j:=J3 f;unfold DataW.trod at h;rw[j] at h
  split at h<;>try (simp_all;done)
  rename_i M N n D;cases D;split at h
  case isFalse=>cases h
  rename_i z;obtain⟨rfl,z⟩:=z;cases h;simp only[og,aae.injEq] at g;subst g
  simp[ai,aq]
 | .bool,fuel+1,k,t,cs,d,ps,vs,f,h,g=>by
  simp only[fC] at f;have j:=Rm f;unfold DataW.trod at h;rw[j] at h
  split at h<;>simp_all
  rename_i b;obtain⟨rfl,_⟩:=h;simp only[og,aae.injEq] at g;subst g
  simp[ai,aq]
 | .str,fuel+1,k,t,cs,d,ps,vs,f,h,g=>by
  simp only[fC] at f;have j:=B9 f;unfold DataW.trod at h;rw[j] at h
  split at h<;>simp_all
  rename_i s;obtain⟨_,rfl,_⟩:=h;simp only[og,aae.injEq] at g;subst g
  simp[ai,aq]
 | .sl e,fuel+1,k,t,cs,d,ps,vs,f,h,g=>by
  simp only[fC] at f;split at f
  case h_2=>cases f
  rename_i A j;unfold DataW.trod at h;rw[j] at h
  split at h<;>try (simp_all;done)
  .cases h;cases k<;>simp[og] at g
  .rename_i E a F G o;cases o;simp only at h;split at h
   case isFalse=>cases h
   rw[aah] at h;obtain⟨v,O,h⟩:=h;rw[aab] at h;obtain⟨r,_,h⟩:=h
   cases h;cases k<;>simp[og] at g
 | .agg Q,fuel+1,k,t,cs,d,ps,vs,f,h,g=>by
  simp only[fC] at f;split at f
  case h_2=>cases f
  rename_i gs j;unfold DataW.trod at h;rw[j] at h;simp only at h;split at h
  case isFalse=>cases h
  rename_i l;rw[aab] at h;obtain⟨xs,q,h⟩:=h;cases h
  cases k with
  | zero=>simp[og] at g
  | succ k =>
   simp only[og] at g;rw[aab] at g;obtain⟨I,u,rfl⟩:=g
   simpa using zsV (off:=0) f q l u
 | .arr n e,fuel+1,k,t,cs,d,ps,vs,f,h,g=>by
  simp only[fC] at f;split at f
  case h_2=>cases f
  rename_i m A j;simp only[aam,beq_iff_eq] at f;obtain⟨⟨rfl,J⟩,f⟩:=f;unfold DataW.trod at h;rw[j] at h;simp only at h;split at h
  case isFalse=>cases h
  rename_i l;rw[aab] at h;obtain⟨xs,q,h⟩:=h;cases h
  cases k with
  | zero=>simp[og] at g
  | succ k =>
   simp only[og] at g;rw[aab] at g;obtain⟨I,u,rfl⟩:=g;have K:=mapM_some_length q;have L:=mapM_some_length u;simp only[List.length_range,aan] at K L;refine Ye (c:=P.cellsOf A) (by rw[l,J];congr 1;omega) λi x o=>?_
   have hi:i<m:=by have:=(aad.1 o).1;omega
   have B:=mapM_some_get q i i (by rw[aaq hi])
   cases y:xs[i]? with
   | none=>rw[List.getElem?_eq_none_iff] at y;omega
   | some p =>
    rw[y] at B;obtain⟨d',R⟩:=p;have C:=mapM_some_get u i d' (by rw[aai,y];rfl);rw[o] at C;exact YJ f B C
def zsV:∀{fs:List Ty} {gs:List Field} {c off fuel k:Nat} {cs:List Value} {xs:List (DataW H×List MemPlace)} {es:List (List V)},zO P c off gs fs=true ->
  (gs.mapM λf=>DataW.trod enc P w 0 sp hd fuel f.type ((cs.drop f.offset).take (P.cellsOf f.type)))=some xs->cs.length=c->(xs.map (·.1)).mapM (og k)=some es ->
  ai (M0 fm) w es.flatten (cs.drop off)
 | [],[],c,off,fuel,k,cs,xs,es,b,h,j,e=>by
  simp only[zO,beq_iff_eq] at b;simp at h;subst h;simp at e;subst e
  simp only[List.flatten_nil,ai];rw[List.drop_eq_nil_iff];omega
 | [],_::_,_,_,_,_,_,_,_,b,_,_,_=>by simp[zO] at b
 | _::_,[],_,_,_,_,_,_,_,b,_,_,_=>by simp[zO] at b
 | t::ts,g::gs,c,off,fuel,k,cs,xs,es,b,h,j,e=>by
  simp only[zO,aam,beq_iff_eq] at b;obtain⟨⟨n,o⟩,b⟩:=b;rw[aat] at h;simp only[aar,aah] at h;obtain⟨x,q,u,r,h⟩:=h;simp only[aas,aae.injEq] at h;subst h;rw[aau,aat] at e;simp only[aar,aah] at e;obtain⟨a,s,v,i,e⟩:=e;simp only[aas,aae.injEq] at e;subst e;obtain⟨d,p⟩:=x;have l:=YJ o q s;have m:=zsV b r j i;rw[n] at l;rw[<-List.drop_drop] at m;rw[List.flatten_cons];exact Yc (k:=P.cellsOf g.type) l m
end
end
def zEw{n:String}{d:DataW Unit}{a:Nat}{e:TypeId}{ty:Ty}{cs:List V}(h:laidMetH P [(n,d)] w)(m:([(n,d)].all λx=>x.2.handleName?.isNone)=true)(f:P.globalNamed n=some a)(o:(P.globals[a]?).map (·.type)=some e)
  (r:fC P e ty=true) {k:Nat} (s:og k d=some cs) (u:∀c∈cs,c.pure=true) (v:∀g c,fm.gl g=some c->g=a/\c=cs):B6 (M0 fm) w:=by
 rw[MakeChecks.laidMetH_plain _ _ _ m] at h;obtain⟨K,⟨g,t,y,j,p,q,z,A,B,hd,_,_⟩,_,_⟩:=h;obtain rfl:=aae.inj (f.symm.trans z);obtain rfl:=aae.inj (o.symm.trans A);have C:=YJ (fm:=fm) r hd s;intro D c E;obtain⟨F,rfl⟩:=v D c E;rw[F];simp only[aq];refine⟨u,_,0,rfl,Dl λi c' G=>?_⟩;obtain⟨x,H,b⟩:=nZ C G;have I:=World.var?_cell f B i;refine⟨x,?_,λl J=>by simp[M0] at J,b⟩
 rw[Nat.zero_add,I];simpa using H
open Go Go.RowKit
variable {P:Program} {fm:Fm}
def KT(P:Program){α:Type}(m:Sem α):Prop:=∀w a w',m.run P w=.ok a w'->w'.tape=w.tape
def KT.pure{α:Type}(a:α):KT P (Pure.pure a:Sem α):=λw b w' h=>by
 rw[Sem.run_pure] at h;cases h;rfl
def KT.bind{α β:Type}{m:Sem α}{f:α->Sem β}(h:KT P m)(k:∀a,KT P (f a)):KT P (m >>= f):=λw b w' e=>by
 rw[Sem.run_bind] at e
 cases c:m.run P w with
 | ok a d=>rw[c,Result.andThen_ok] at e;exact(k a d b w' e).trans (h w a d c)
 | _=>rw[c] at e;simp[Result.andThen] at e
def KT.halt{α:Type}(x:Halt):KT P (Sem.halt x:Sem α):=λw b w' h=>by simp[Sem.run] at h
def KT.getObj(r:Nat):KT P (Go.getObj r):=λw b w' h=>by
 simp only[Go.getObj,Sem.run] at h;split at h
 .cases h
 .cases h;rfl
 .cases h
def KT.setObj(r:Nat)(o:Obj):KT P (Go.setObj r o):=λw b w' h=>by
 simp only[Go.setObj,Sem.run] at h;split at h
 .cases h
 .cases h;rfl
 .cases h
def KT.choose(q:Question):KT P (Go.choose q):=λw b w' h=>by
 simp only[Go.choose,Sem.run] at h
 split at h<;>cases h<;>rfl
def za(a:Value)(ty:TypeId):KT P (Instr.next a false ty):=by
 unfold Instr.next;split
 .refine(KT.getObj _).bind λo=>?_;split
  .split
   .exact(KT.setObj _ _).bind λ_=>KT.pure _
   .exact KT.pure _
  .exact KT.pure _
  .refine(KT.getObj _).bind λo=>?_;split
   .split
    .exact KT.halt _
    .refine(KT.choose _).bind λj=>?_;split
     .exact(KT.setObj _ _).bind λ_=>KT.pure _
     .exact KT.pure _
     .exact KT.halt _
   .exact KT.halt _
  .exact KT.halt _
 .exact KT.halt _
def zya{w a:World}{o:Obj}(h:a.Alike w)(d:a.tape=w.tape):iD w (a.alloc o):=by
 obtain⟨c,e,f⟩:=h;refine⟨e,d,f,?_,λb g=>?_⟩
 .rw[<-c];exact(iD.alloc a o).size
 .rw[<-c];exact(iD.alloc a o).block b (by rw[c];exact g)
def zDq{M:Mm}{w:World}{a b:V}{xs:List Value}(h:ai M w [a,b] xs):∃x y,xs=[x,y]/\aq M w a x/\aq M w b y:=by simp only[ai] at h;obtain⟨x,_,rfl,c,y,_,rfl,d,rfl⟩:=h;exact⟨x,y,rfl,c,d⟩
def zqS:∀{l:List (List UInt8×Int)} {p:List UInt8×Int},(l.map (·.2)).Nodup->p∈l->l.find? (λq=>q.2==p.2)=some p
 | q::l,p,a,b=>by
  simp only[aau,List.nodup_cons] at a
  rcases List.mem_cons.1 b with rfl|h
  .simp
  .have:(q.2==p.2)=false:=by
    cases c:q.2==p.2 with
    | false=>rfl
    | true=>exact absurd (by rw[beq_iff_eq.1 c];exact List.mem_map.2 ⟨p,h,rfl⟩) a.1
   rw[List.find?_cons,this];exact zqS a.2 h
def DK {f : Nat} (hF : ∃ F, P.funcs[fm f]? = some F ∧ F.body.isSome = true ∧ F.name ≠ "runtime.NumGoroutine")
  (hw:∀(bm:Nat) (es:Array MapEntry) (clock:Nat) (want:Int) (key:ByteArray) (w:World),w.heap[bm]?=some (.map es clock)->(∀x∈es.toList,x.born<clock)->(es.toList.map (·.born)).Nodup ->
   (∀x∈es.toList,∃s v,x.key=.string s/\x.val=.int .u32 v/\(v=want->s=key))->((∀x∈es.toList,¬Go.valOf x.val=want)->key=⟨#[]⟩) ->
   Calls P (fm f) #[.map (some bm),.int .u32 want] w λe w'=>e=.returned (.string key)/\∃(w1:World) (o:Obj),w1.Alike w/\w1.tape=w.tape/\w'=w1.alloc o)
  (hn:∀(want:Int) (w:World),Calls P (fm f) #[.map none,.int .u32 want] w λe w'=>e=.returned (.string ⟨#[]⟩)/\∃(w1:World) (o:Obj),w1.Alike w/\w1.tape=w.tape/\w'=w1.alloc o):pq P fm f 0:=by
 intro c args H r H' h
 have shut:∀{M:Mm} {w w':World} {s:List UInt8},aG M w H->(∃(w1:World) (o:Obj),w1.Alike w/\w1.tape=w.tape/\w'=w1.alloc o) ->
   ∃rv M',Ending.returned (.string ⟨s.toArray⟩)=.returned rv/\aq M' w' (.str s) rv/\ez M H w M' H w'/\eQ M M' H.length/\aG M' w' H:=by
  rintro M w w' s hr ⟨w1,o,h1,h2,rfl⟩;obtain⟨s1,i1,r1⟩:=MH hr (zya (o:=o) h1 h2) (Same.refl M _);exact⟨_,M,rfl,by simp only[aq],s1,i1,r1⟩
 unfold yW at h;split at h
 .rename_i id n _;obtain⟨rfl,es,hb,oC,rfl⟩:=h;refine⟨aay _,λM w jF hm hr he=>⟨hF,?_⟩⟩;obtain⟨x,y,rfl,h1,h2⟩:=zDq he;simp only[aq] at h1 h2;obtain⟨_,rfl⟩:=h1;subst h2;have h0:=hr.rel id _ hb;simp only[aK] at h0;obtain⟨_,ents,hh,hk,hv,Vn⟩:=h0;have hlen:=gQ hk;simp only[aan,aag] at hlen
  have YK:∀e∈ents.toList,∃p∈es,e.key=.string ⟨p.1.toArray⟩/\e.val=.int .u32 p.2:=by
   intro e vn;obtain⟨i,hi⟩:=aal vn
   have vJ:i<es.length:=by have:=(aad.1 hi).1;rw[aag] at this;omega
   obtain⟨p,hp⟩:∃p,es[i]?=some p:=⟨_,aaf vJ⟩;obtain⟨x1,xW,n_⟩:=nZ (i:=i) (c:=.str p.1) hk (by simp[hp]);obtain⟨y1,Aj,Ca⟩:=nZ (i:=i) (c:=.int .u32 p.2) hv (by simp[hp]);rw[aai,hi,aao,aae.injEq] at xW Aj;simp only[aq] at n_ Ca;exact⟨p,aaj hp,xW.trans n_,Aj.trans Ca⟩
  have mz:∀(i:Nat) (e:MapEntry),ents.toList[i]?=some e->e.born=i:=λi e h=>Vn i e (by simpa using h)
  refine(hw _ ents _ n ⟨(((es.find? λp=>p.2==n).map (·.1)).getD []).toArray⟩ w hh (λe vn=>?_) ?_ (λe vn=>?_) (λjd=>?_)).mono ?_
  .obtain⟨i,hi⟩:=aal vn;rw[mz i e hi,aan];have:=(aad.1 hi).1;rw[aag] at this;omega
  .have:ents.toList.map (·.born)=List.range ents.toList.length:=by
    refine List.ext_getElem? λi=>?_;rw[aai]
    by_cases hi:i<ents.toList.length
    .rw[aaq hi,aaf hi,aao,mz i _ (aaf hi)]
    .rw[aap an,aap (by simp;simpa using hi)];rfl
   rw[this];exact List.nodup_range
  .obtain⟨p,hp,h1,h2⟩:=YK e vn;refine⟨_,p.2,h1,h2,λe=>?_⟩;subst e;rw[zqS oC hp];rfl
  .have:es.find? (λp=>p.2==n)=none:=by rw[List.find?_eq_none];intro p hp Qc;obtain⟨i,hi⟩:=aal hp;have vJ:=(aad.1 hi).1;obtain⟨e,uA⟩:∃e,ents.toList[i]?=some e:=⟨_,aaf (by rw[aag];omega)⟩;obtain⟨y1,Aj,Ca⟩:=nZ (i:=i) (c:=.int .u32 p.2) hv (by simp[hi]);rw[aai,uA,aao,aae.injEq] at Aj;simp only[aq] at Ca;refine jd e (aaj uA) ?_;rw[Aj,Ca];simpa[Go.valOf] using Qc
   rw[this];rfl
  .rintro e w' ⟨rfl,h⟩;exact shut hr h
 .obtain⟨rfl,rfl⟩:=h;refine⟨aay _,λM w jF hm hr he=>⟨hF,?_⟩⟩;obtain⟨x,y,rfl,h1,h2⟩:=zDq he;simp only[aq] at h1 h2;subst h1 h2;refine(hn _ w).mono ?_;rintro e w' ⟨rfl,h⟩;exact shut hr h
 .exact h.elim
end Go.Ev
