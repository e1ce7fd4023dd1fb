import Derived.Test.YtbkhoemaobbplaaGreatDoorEvAW
set_option linter.defProp false
set_option linter.unusedSimpArgs false
set_option linter.unusedVariables false
/- Forms of a few variables and a table: plain mathematics, with no program in sight. -/
open List renaming getElem?_eq_getElem->aab,pairwise_cons->aad,mem_cons->aae,getElem?_eq_none->aag,getD_eq_getElem?_getD->aal,pairwise_iff_getElem->aan,getElem_mem->aaz,pairwise_lt_range->aaC,getElem?_eraseIdx->aaF,range->aaG,mem_iff_getElem->aaH,length_cons->aaM,mem_range->aaP
open Nat renaming testBit_two_pow_mul_add->aaf,pow_le_pow_right->aah,testBit_lt_two_pow->aai,lt_of_lt_of_le->aaj,eq_of_testBit_eq->aam,two_pow_pos->aao,testBit_mod_two_pow->aap,testBit_div_two_pow->aaq,mod_lt->aar,lt_pow_two_of_testBit->aas,lt_or_ge->aat,pow_succ->aau,pow_lt_pow_right->aaI,mul_assoc->aaJ,mul_comm->aaK,xor_lt_two_pow->aaL,div_add_mod->aaO
open Option renaming getD_some->aay,map_some->aaA
open Bool renaming false_and->aaQ
namespace Go.Ev
def zG(tab:List Nat)(j:Nat):Bool:=(aaG tab.length).any λn=>tab[n]? !=tab[n ^^^ 2^j]?
def Ak(vars:List Int)(tab:List Nat)(j:Nat):Prop :=
 ∃v,vars[j]?=some v/\0<=v/\v<34/\(∀u,0<j->vars[j-1]?=some u->u<v)/\zG tab j=true
def Right(vars:List Int)(tab:List Nat):Prop:=vars.length<=4/\tab.length=2^vars.length/\∀j,j<vars.length->Ak vars tab j
open Classical in
noncomputable def tj(vars:List Int)(tab:List Nat):Bool:=decide (Right vars tab)
def ER{vars:List Int}{tab:List Nat}:tj vars tab=true↔Right vars tab:=by simp[tj]
abbrev Up(l:List Int):Prop:=l.Pairwise (·<·)
def zyY:∀{a b:List Int},Up a->Up b->(∀v,v∈a↔v∈b)->a=b
 | [],[],_,_,_=>rfl
 | [],y::b,_,_,h=>absurd ((h y).2 ir) ir
 | x::a,[],_,_,h=>absurd ((h x).1 ir) ir
 | x::a,y::b,g,i,h=>by
  have d:=aad.1 g;have f:=aad.1 i
  have j:x=y:=by
   rcases aae.1 ((h x).1 ir) with e|e
   .exact e
   rcases aae.1 ((h y).2 ir) with e'|e'
   .exact e'.symm
   have:=f.1 x e;have:=d.1 y e';omega
  subst j;rw[zyY d.2 f.2 λv=>?_];constructor
  .intro c;have k:=d.1 v c
   rcases aae.1 ((h v).1 (by simp[c])) with e|e
   .omega
   .exact e
  .intro c;have k:=f.1 v c
   rcases aae.1 ((h v).2 (by simp[c])) with e|e
   .omega
   .exact e
def Up.nodup{l:List Int}(h:Up l):l.Nodup:=h.imp (λh e=>by omega)
def zGB{l:List Int}(h:∀j,0<j->∀u v,l[j-1]?=some u->l[j]?=some v->u<v):Up l:=by
 induction l with
 | nil=>simp
 | cons x l c =>
  rw[Up,aad]
  have b:Up l:=c (λj f u v d a=>by
   refine h (j+1) an u v ?_ (by simpa using a);obtain⟨k,rfl⟩:∃k,j=k+1:=⟨j-1,an⟩
   simpa using d)
  refine⟨?_,b⟩;intro v a
  cases l with
  | nil=>cases a
  | cons y l =>
   have g:x<y:=h 1 an x y ir ir
   rcases aae.1 a with e|e
   .omega
   .have:=(aad.1 b).1 v e;omega
def Right.up{vars:List Int}{tab:List Nat}(h:Right vars tab):Up vars:=zGB λj c u v d a=>by
 have e:j<vars.length:=by
  rcases aat j vars.length with h|h
  .exact h
  .rw[aag h] at a;cases a
 obtain⟨w,b,_,_,f,_⟩:=h.2.2 j e;rw[a] at b;cases b;exact f u c d
def Right.mem{vars:List Int}{tab:List Nat}(h:Right vars tab){v:Int}(c:v∈vars):0<=v/\v<34:=by obtain⟨j,a,rfl⟩:=aaH.1 c;obtain⟨w,b,d,e,_⟩:=h.2.2 j a;rw[aab a] at b;cases b;exact⟨d,e⟩
def VZ{l:List Int}(h:l.Nodup){i j:Nat}{hi:i<l.length}{b:j<l.length}(e:l[i]=l[j]):i=j:=by
 rcases Nat.lt_trichotomy i j with a|a|a
 .exact absurd e (aan.1 h _ _ _ _ a)
 .exact a
 .exact absurd e.symm (aan.1 h _ _ _ _ a)
def eW:List Int->List Int->List Int
 | [],b=>b
 | a,[]=>a
 | x::a,y::b=>if x<y then x::eW a (y::b) else if y<x then y::eW (x::a) b else x::eW a b
termination_by a b=>a.length+b.length
def zwR(a:List Int):eW a []=a:=by cases a<;>simp[eW]
def Ac{v:Int}(a b:List Int):v∈eW a b↔v∈a\/v∈b:=by
 fun_induction eW a b with
 | case1 b=>simp
 | case2 a h=>simp
 | case3 x a y b h c =>
  simp only[aae,c];constructor
  .rintro(h|h|h|h)<;>simp[h]
  .rintro((h|h)|h|h)<;>simp[h]
 | case4 x a y b h d c =>
  simp only[aae,c];constructor
  .rintro(h|(h|h)|h)<;>simp[h]
  .rintro((h|h)|h|h)<;>simp[h]
 | case5 x a y b h d c =>
  have:x=y:=an
  subst this;simp[c];constructor
  .rintro(h|h|h)<;>simp[h]
  .rintro((h|h)|h|h)<;>simp[h]
def zyZ(a b:List Int)(g:Up a)(i:Up b):Up (eW a b):=by
 fun_induction eW a b with
 | case1 b=>exact i
 | case2 a h=>exact g
 | case3 x a y b h j =>
  have d:=aad.1 g;have f:=aad.1 i;refine aad.2 ⟨λv k=>?_,j d.2 i⟩
  rcases(Ac _ _).1 k with c|c
  .exact d.1 v c
  .rcases aae.1 c with e|e
   .omega
   .have:=f.1 v e;omega
 | case4 x a y b h l j =>
  have d:=aad.1 g;have f:=aad.1 i;refine aad.2 ⟨λv k=>?_,j g f.2⟩
  rcases(Ac _ _).1 k with c|c
  .rcases aae.1 c with e|e
   .omega
   .have:=d.1 v e;omega
  .exact f.1 v c
 | case5 x a y b h l j =>
  have d:=aad.1 g;have f:=aad.1 i;refine aad.2 ⟨λv k=>?_,j d.2 f.2⟩
  rcases(Ac _ _).1 k with c|c
  .exact d.1 v c
  .have:=f.1 v c;omega
def zwS(a b:List Int):(eW a b).length<=a.length+b.length:=by fun_induction eW a b<;>simp_all<;>omega
def JE:∀{a b:List Int},Up a->Up b->(∀v∈a,v∈b)->a.Sublist b
 | [],_,_,_,_=>List.nil_sublist _
 | x::a,[],_,_,h=>absurd (h x ir) ir
 | x::a,y::b,i,j,h=>by
  have d:=aad.1 i;have f:=aad.1 j
  by_cases e:x=y
  .subst e;refine List.Sublist.cons_cons _ (JE d.2 f.2 λv c=>?_)
   rcases aae.1 (h v (by simp[c])) with e|e
   .have:=d.1 v c;omega
   .exact e
  .refine List.Sublist.cons _ (JE i f.2 λv c=>?_)
   rcases aae.1 (h v c) with e'|e'
   .subst e'
    rcases aae.1 c with e2|e2
    .exact absurd e2.symm e
    .rcases aae.1 (h x ir) with g|g
     .exact absurd g e
     .have:=d.1 v e2;have:=f.1 x g;omega
   .exact e'
termination_by a b=>a.length+b.length
def idx:List Int->(Int->Bool)->Nat
 | [],_=>0
 | v::vs,p=>(p v).toNat+2*idx vs p
def EU:∀(vs:List Int) (p:Int->Bool),idx vs p<2^vs.length
 | [],_=>by simp[idx]
 | v::vs,p=>by
  have:=EU vs p
  have a:(p v).toNat<=1:=by cases p v<;>simp
  simp only[idx,aaM,aau];omega
def U8(p:Int->Bool):∀(a b:List Int),idx (a++b) p=idx a p+2^a.length*idx b p
 | [],b=>by simp[idx]
 | v::a,b=>by
  simp only[List.cons_append,idx,U8 p a b,aaM,aau]
  have:2^a.length*2*idx b p=2*(2^a.length*idx b p):=by rw[aaK (2^a.length) 2,aaJ]
  omega
def E2(p:Int->Bool):∀(vs:List Int) (j:Nat),(idx vs p).testBit j=(vs[j]?.map p).getD false
 | [],j=>by simp[idx]
 | v::vs,0=>by
  simp only[idx,Nat.testBit_zero,List.getElem?_cons_zero,aaA,aay]
  cases p v<;>simp<;>omega
 | v::vs,j+1=>by
  simp only[List.getElem?_cons_succ,<-E2 p vs j,idx,Nat.testBit_succ]
  congr 1
  cases p v<;>simp<;>omega
def Mh{p q:Int->Bool}:∀{vs:List Int},(∀v∈vs,p v=q v)->idx vs p=idx vs q
 | [],_=>rfl
 | v::vs,h=>by simp only[idx,h v ir,Mh (vs:=vs) (λu a=>h u (List.mem_cons_of_mem _ a))]
def iK(vs:List Int)(n:Nat):Int->Bool:=λv=>n.testBit (vs.idxOf v)
def V2{vs:List Int}(h:vs.Nodup){n:Nat}(a:n<2^vs.length):idx vs (iK vs n)=n:=by
 refine aam λj=>?_;rw[E2]
 by_cases b:j<vs.length
 .rw[aab b];simp only[aaA,aay,iK];rw[List.Nodup.idxOf_getElem h]
 .rw[aag an];simp only[Option.map_none,Option.getD_none];rw[aai (aaj a (aah aga an))]
def zwT{vs:List Int}{v:Int}(a:v∈vs)(p:Int->Bool):iK vs (idx vs p) v=p v:=by rw[iK,E2,aab (List.idxOf_lt_length_of_mem a)];simp
def flip(p:Int->Bool)(v:Int):Int->Bool:=λu=>if u=v then !p u else p u
def zuo{vs:List Int}(h:vs.Nodup)(p:Int->Bool){j:Nat}{v:Int}(a:vs[j]?=some v):idx vs (flip p v)=idx vs p ^^^ 2^j:=by
 have d:j<vs.length:=by
  rcases aat j vs.length with h|h
  .exact h
  .rw[aag h] at a;cases a
 refine aam λi=>?_;rw[Nat.testBit_xor,E2,E2,Nat.testBit_two_pow]
 by_cases hi:i<vs.length
 .rw[aab hi];simp only[aaA,aay,flip];rw[aab d] at a;cases a
  by_cases b:i=j
  .subst b;simp
  .have:vs[i]≠vs[j]:=λe=>b (VZ h e);have c:j≠i:=λe=>b e.symm;simp[this,c]
 .rw[aag an]
  have c:j≠i:=an
  simp[c]
def cZ(vs:List Int)(tab:List Nat)(p:Int->Bool):Nat:=tab.getD (idx vs p) 0
def zwU{vs:List Int}{tab:List Nat}{p q:Int->Bool}(h:∀v∈vs,p v=q v):cZ vs tab p=cZ vs tab q:=by rw[cZ,cZ,Mh h]
def zEa{vs:List Int}{tab:List Nat}(a:vs.Nodup)(c:tab.length=2^vs.length){n:Nat}(h:n<tab.length):tab[n]=cZ vs tab (iK vs n):=by have b:=V2 a (n:=n) an;simp[cZ,b,aal,h]
def dep(f:(Int->Bool)->Nat)(v:Int):Prop:=∃p,f p≠f (flip p v)
def Qj{vs:List Int}{tab:List Nat}(h:vs.Nodup)(d:tab.length=2^vs.length){j:Nat}{v:Int}(b:vs[j]?=some v):zG tab j=true↔dep (cZ vs tab) v:=by
 have get (n:Nat) (a:n<tab.length):tab[n]?=some (tab.getD n 0):=by rw[aab a,aal,aab a];rfl
 have f:j<vs.length:=by
  rcases aat j vs.length with h|h
  .exact h
  .rw[aag h] at b;cases b
 simp only[zG,List.any_eq_true,aaP,bne_iff_ne,ne_eq,dep,cZ];constructor
 .rintro⟨n,a,g⟩;refine⟨iK vs n,λe=>g ?_⟩;rw[zuo h _ b,V2 h an] at e;rw[get n a,get _ (by rw[d] at a |-;exact aaL a (aaI aga f)),e]
 .rintro⟨p,i⟩
  have c:idx vs p<tab.length:=by rw[d];exact EU vs p
  refine⟨idx vs p,c,λe=>i ?_⟩;rw[zuo h _ b];rw[get _ c,get _ (by rw[d] at c |-;exact aaL c (aaI aga f))] at e;exact Option.some.inj e
def Right.Mi{vs:List Int}{tab:List Nat}(h:Right vs tab){v:Int}(b:v∈vs):dep (cZ vs tab) v:=by obtain⟨j,a,rfl⟩:=aaH.1 b;obtain⟨w,d,_,_,_,c⟩:=h.2.2 j a;exact(Qj h.up.nodup h.2.1 (aab a)).1 c
def Right.of{vs:List Int}{tab:List Nat}(f:vs.length<=4)(b:tab.length=2^vs.length)(c:Up vs)(d:∀v∈vs,0<=v/\v<34)(hd:∀v∈vs,dep (cZ vs tab) v):Right vs tab:=by refine⟨f,b,λj a=>⟨vs[j],aab a,(d _ (aaz a)).1,(d _ (aaz a)).2,?_,(Qj c.nodup b (aab a)).2 (hd _ (aaz a))⟩⟩;intro u g e;rw[aab an] at e;cases e;exact aan.1 c _ _ _ _ an
def zwV{vs:List Int}{tab:List Nat}{v:Int}(a:v∉vs):¬dep (cZ vs tab) v:=by rintro⟨p,b⟩;refine b ?_;simp only[cZ];rw[Mh (p:=p) (q:=flip p v) λu c=>?_];have:u≠v:=λe=>a (e▸c);simp[flip,this]
def zDh{vs a:List Int}{tab c:List Nat}(h:Right vs tab)(d:Right a c)(f:∀p,cZ vs tab p=cZ a c p):vs=a/\tab=c:=by
 have g:cZ vs tab=cZ a c:=funext f
 have b:vs=a:=zyY h.up d.up λv=>by
  constructor
  .intro b;have:=h.Mi b;rw[g] at this;exact Decidable.byContradiction λe=>zwV e this
  .intro b;have:=d.Mi b;rw[<-g] at this;exact Decidable.byContradiction λe=>zwV e this
 subst b;refine⟨rfl,List.ext_getElem (by rw[h.2.1,d.2.1]) λn i j=>?_⟩;have:=f (iK vs n);simp only[cZ] at this;rw[V2 h.up.nodup (by rw[<-h.2.1];exact i)] at this;simpa[aal,aab i,aab j] using this
def pT(tab:List Nat)(j:Nat):List Nat:=((aaG tab.length).filter λn=>!n.testBit j).map λn=>tab.getD n 0
def ins(j m:Nat):Nat:=2^(j+1)*(m/2^j)+m%2^j
def QL(j m i:Nat):(ins j m).testBit i=if i<j then m.testBit i else if i=j then false else m.testBit (i-1):=by
 have b:m%2^j<2^(j+1):=aaj (aar _ (aao j)) (aah aga an);rw[ins,aaf _ b]
 by_cases h:i<j
 .rw[if_pos an,if_pos h,aap];simp[h]
 .rw[if_neg h]
  by_cases a:i=j
  .subst a;rw[if_pos an,if_pos rfl,aap];simp
  .rw[if_neg an,if_neg a,aaq]
   congr 1;omega
def zFs{j k m:Nat}(b:j<=k)(a:m<2^k):ins j m<2^(k+1):=by
 refine aas _ λi hi=>?_;rw[QL,if_neg an];split
 .rfl
 .exact aai (aaj a (aah aga an))
def zBB{j a b:Nat}(h:a<b):ins j a<ins j b:=by
 have f:a/2^j<=b/2^j:=Nat.div_le_div_right (Nat.le_of_lt h);have d:=aaO a (2^j);have g:=aaO b (2^j);have i:=aar a (aao j);have k:=aar b (aao j);simp only[ins,aau]
 rcases aat (a/2^j) (b/2^j) with c|c
 .have:2^j*(a/2^j+1)<=2^j*(b/2^j):=Nat.mul_le_mul_left _ c
  have l:2^j*2*(a/2^j)=2*(2^j*(a/2^j)):=by rw[aaK (2^j) 2,aaJ]
  have m:2^j*2*(b/2^j)=2*(2^j*(b/2^j)):=by rw[aaK (2^j) 2,aaJ]
  rw[Nat.mul_add] at this;omega
 .have e:a/2^j=b/2^j:=an
  rw[e] at d |-;omega
def zBC{j n:Nat}(h:n.testBit j=false):∃m,ins j m=n/\(∀k,j<=k->n<2^(k+1)->m<2^k):=by
 refine⟨2^j*(n/2^(j+1))+n%2^j,?_,?_⟩
 .refine aam λi=>?_;have a:n%2^j<2^j:=aar _ (aao j);rw[QL,aaf _ a,aaf _ a]
  by_cases b:i<j
  .rw[if_pos b,if_pos b,aap];simp[b]
  .rw[if_neg b]
   by_cases c:i=j
   .subst c;simp[h]
   .rw[if_neg c,if_neg an,aaq]
    congr 1;omega
 .intro k e d;have a:n%2^j<2^j:=aar _ (aao j);refine aas _ λi hi=>?_;rw[aaf _ a,if_neg an,aaq];exact aai (aaj d (aah aga an))
def zy0:∀{a b:List Nat},a.Pairwise (·<·)->b.Pairwise (·<·)->(∀v,v∈a↔v∈b)->a=b
 | [],[],_,_,_=>rfl
 | [],y::b,_,_,h=>absurd ((h y).2 ir) ir
 | x::a,[],_,_,h=>absurd ((h x).1 ir) ir
 | x::a,y::b,g,i,h=>by
  have d:=aad.1 g;have f:=aad.1 i
  have j:x=y:=by
   rcases aae.1 ((h x).1 ir) with e|e
   .exact e
   rcases aae.1 ((h y).2 ir) with e'|e'
   .exact e'.symm
   have:=f.1 x e;have:=d.1 y e';omega
  subst j;rw[zy0 d.2 f.2 λv=>?_];constructor
  .intro c;have k:=d.1 v c
   rcases aae.1 ((h v).1 (by simp[c])) with e|e
   .omega
   .exact e
  .intro c;have k:=f.1 v c
   rcases aae.1 ((h v).2 (by simp[c])) with e|e
   .omega
   .exact e
def zy1{k j:Nat}(b:j<=k):((aaG (2^(k+1))).filter λn=>!n.testBit j)=(aaG (2^k)).map (ins j):=by
 refine zy0 (List.Pairwise.filter _ aaC) ?_ λn=>?_
 .rw[List.pairwise_map];exact aaC.imp λh=>zBB h
 .simp only[List.mem_filter,aaP,List.mem_map,Bool.not_eq_true'];constructor
  .rintro⟨c,d⟩;obtain⟨m,a,e⟩:=zBC d;exact⟨m,e k b c,a⟩
  .rintro⟨m,a,rfl⟩;refine⟨zFs b a,?_⟩;rw[QL,if_neg an,if_pos rfl]
def zBD{tab:List Nat}{k j:Nat}(a:tab.length=2^(k+1))(b:j<=k):(pT tab j).length=2^k:=by rw[pT,a,zy1 b];simp
def zBE{tab:List Nat}{k j m:Nat}(a:tab.length=2^(k+1))(b:j<=k)(c:m<2^k):(pT tab j).getD m 0=tab.getD (ins j m) 0:=by rw[pT,a,zy1 b];simp[aal,c]
def zEb{vs:List Int}{tab:List Nat}(h:vs.Nodup)(d:tab.length=2^vs.length){j:Nat}(f:j<vs.length)(g:zG tab j=false)(p:Int->Bool) :
  cZ (vs.eraseIdx j) (pT tab j) p=cZ vs tab p:=by
 obtain⟨k,o⟩:∃k,vs.length=k+1:=⟨vs.length-1,an⟩
 have a:(vs.eraseIdx j).length=k:=by rw[List.length_eraseIdx_of_lt f];omega
 have r:idx (vs.eraseIdx j) p<2^k:=by have:=EU (vs.eraseIdx j) p;rwa[a] at this
 have l:vs[j]?=some vs[j]:=aab f
 have s:¬dep (cZ vs tab) vs[j]:=λhd=>by rw[(Qj h d l).2 hd] at g;cases g
 have b:ins j (idx (vs.eraseIdx j) p)=idx vs (λu=>if u=vs[j] then false else p u):=by
  refine aam λi=>?_;rw[QL,E2,E2,E2,aaF,aaF]
  by_cases c:i<j
  .rw[if_pos c,if_pos c];rw[aab an]
   have:vs[i]≠vs[j]:=λe=>by have:=VZ h e;omega
   simp[this]
  .rw[if_neg c]
   by_cases m:i=j
   .subst m;rw[if_pos rfl,l];simp
   .rw[if_neg m,if_neg an,show i-1+1=i by omega]
    by_cases t:i<vs.length
    .rw[aab t]
     have:vs[i]≠vs[j]:=λe=>by have:=VZ h e;omega
     simp[this]
    .rw[aag an];simp
 simp only[cZ];rw[zBE (by rw[d,o]) an r,b];show cZ vs tab _=cZ vs tab p
 by_cases n:p vs[j]=false
 .simp only[cZ];rw[Mh (q:=p)];intro u _
  by_cases e:u=vs[j]
  .simp[e,n]
  .simp[e]
 .have:cZ vs tab p=cZ vs tab (flip p vs[j]):=Decidable.byContradiction λe=>s ⟨p,e⟩;rw[this];simp only[cZ];rw[Mh (q:=flip p vs[j])];intro u _
  by_cases e:u=vs[j]
  .simp only[flip,e,if_true];cases v:p vs[j]
   .exact absurd v n
   .rfl
  .simp[flip,e]
def gB(f:Nat->Bool):Nat->Nat
 | 0=>0
 | k+1=>gB f k+2^k*(f k).toNat
def uQ(f:Nat->Bool):∀k,gB f k<2^k
 | 0=>by simp[gB]
 | k+1=>by
  have:=uQ f k;simp only[gB,aau]
  cases f k<;>simp<;>omega
def BU(f:Nat->Bool)(i:Nat):∀k,(gB f k).testBit i=(decide (i<k)&&f i)
 | 0=>by simp[gB]
 | k+1=>by
  rw[gB,Nat.add_comm,aaf _ (uQ f k)]
  by_cases h:i<k
  .rw[if_pos h,BU f i k];simp[h,show i<k+1 by omega]
  .rw[if_neg h]
   by_cases a:i=k
   .subst a;simp
    cases f i<;>simp
   .have b:¬i<k+1:=an
    simp only[b,decide_false,aaQ];have:(f k).toNat<2^(i-k):=aaj (by cases f k<;>simp:(f k).toNat<2^1) (aah aga an);exact aai this
def VV{f g:Nat->Bool}:∀{k:Nat},(∀i,i<k->f i=g i)->gB f k=gB g k
 | 0,_=>rfl
 | k+1,h=>by rw[gB,gB,VV λi hi=>h i an,h k an]
def VU{w:Nat}(h:w<2^32):gB w.testBit 32=w:=by
 refine aam λi=>?_;rw[BU]
 by_cases hi:i<32
 .simp[hi]
 .simp only[hi,decide_false,aaQ];exact(aai (aaj h (aah aga an))).symm
def val(vs:List Int)(tab:List Nat)(r:Int->Nat):Nat:=gB (λi=>(cZ vs tab λv=>(r v).testBit i).testBit i) 32
end Go.Ev
