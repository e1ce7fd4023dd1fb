import Derived.Test.YtbkhoemaobbplaaGreatDoorEvAW
set_option linter.defProp false
set_option linter.unusedSimpArgs false
set_option linter.unusedVariables false
/- Forms of a few variables and a table: plain mathematics, with no program in sight. -/
open List renaming getElem?_eq_getElem->aab,pairwise_cons->aad,mem_cons->aae,getElem?_eq_none->aag,getD_eq_getElem?_getD->aak,pairwise_iff_getElem->aan,getElem_mem->aaw,pairwise_lt_range->aay,getElem?_eraseIdx->aaA,range->aaB,mem_iff_getElem->aaC,length_cons->aaJ,mem_range->aaN
open Nat renaming testBit_two_pow_mul_add->aaf,pow_le_pow_right->aah,testBit_lt_two_pow->aai,lt_of_lt_of_le->aaj,eq_of_testBit_eq->aal,two_pow_pos->aao,testBit_mod_two_pow->aap,testBit_div_two_pow->aaq,mod_lt->aar,lt_pow_two_of_testBit->aas,lt_or_ge->aat,pow_succ->aau,pow_lt_pow_right->aaD,mul_assoc->aaG,mul_comm->aaH,xor_lt_two_pow->aaI,div_add_mod->aaL
open Option renaming getD_some->aav,map_some->aax
open Bool renaming false_and->aaO
namespace Go.Ev
def Ad(tab:List Nat)(j:Nat):Bool:=(aaB tab.length).any λn=>tab[n]? !=tab[n ^^^ 2^j]?
def Ax(vars:List Int)(tab:List Nat)(j:Nat):Prop :=
 ∃v,vars[j]?=some v/\0<=v/\v<34/\(∀u,0<j->vars[j-1]?=some u->u<v)/\Ad tab j=true
def Right(vars:List Int)(tab:List Nat):Prop:=vars.length<=4/\tab.length=2^vars.length/\∀j,j<vars.length->Ax vars tab j
open Classical in
noncomputable def tS(vars:List Int)(tab:List Nat):Bool:=decide (Right vars tab)
def Fy{vars:List Int}{tab:List Nat}:tS vars tab=true↔Right vars tab:=by simp[tS]
abbrev Up(l:List Int):Prop:=l.Pairwise (·<·)
def zAw:∀{a b:List Int},Up a->Up b->(∀v,v∈a↔v∈b)->a=b
 | [],[],_,_,_=>rfl
 | [],y::b,_,_,h=>absurd ((h y).2 ir) ir
 | x::a,[],_,_,h=>absurd ((h x).1 ir) ir
 | x::a,y::b,g,i,h=>by
  have d:=aad.1 g;have f:=aad.1 i
  have j:x=y:=by
   rcases aae.1 ((h x).1 ir) with e|e
   .exact e
   rcases aae.1 ((h y).2 ir) with e'|e'
   .exact e'.symm
   have:=f.1 x e;have:=d.1 y e';omega
  subst j;rw[zAw d.2 f.2 λv=>?_];constructor
  .intro c;have k:=d.1 v c
   rcases aae.1 ((h v).1 (by simp[c])) with e|e
   .omega
   .exact e
  .intro c;have k:=f.1 v c
   rcases aae.1 ((h v).2 (by simp[c])) with e|e
   .omega
   .exact e
def Up.nodup{l:List Int}(h:Up l):l.Nodup:=h.imp (λh e=>by omega)
def zIE{l:List Int}(h:∀j,0<j->∀u v,l[j-1]?=some u->l[j]?=some v->u<v):Up l:=by
 induction l with
 | nil=>simp
 | cons x l c =>
  rw[Up,aad]
  have b:Up l:=c (λj f u v d a=>by
   refine h (j+1) an u v ?_ (by simpa using a);obtain⟨k,rfl⟩:∃k,j=k+1:=⟨j-1,an⟩
   simpa using d)
  refine⟨?_,b⟩;intro v a
  cases l with
  | nil=>cases a
  | cons y l =>
   have g:x<y:=h 1 an x y ir ir
   rcases aae.1 a with e|e
   .omega
   .have:=(aad.1 b).1 v e;omega
def Right.up{vars:List Int}{tab:List Nat}(h:Right vars tab):Up vars:=zIE λj c u v d a=>by
 have e:j<vars.length:=by
  rcases aat j vars.length with h|h
  .exact h
  .rw[aag h] at a;cases a
 obtain⟨w,b,_,_,f,_⟩:=h.2.2 j e;rw[a] at b;cases b;exact f u c d
def Right.mem{vars:List Int}{tab:List Nat}(h:Right vars tab){v:Int}(c:v∈vars):0<=v/\v<34:=by obtain⟨j,a,rfl⟩:=aaC.1 c;obtain⟨w,b,d,e,_⟩:=h.2.2 j a;rw[aab a] at b;cases b;exact⟨d,e⟩
def U7{l:List Int}(h:l.Nodup){i j:Nat}{hi:i<l.length}{b:j<l.length}(e:l[i]=l[j]):i=j:=by
 rcases Nat.lt_trichotomy i j with a|a|a
 .exact absurd e (aan.1 h _ _ _ _ a)
 .exact a
 .exact absurd e.symm (aan.1 h _ _ _ _ a)
def fj:List Int->List Int->List Int
 | [],b=>b
 | a,[]=>a
 | x::a,y::b=>if x<y then x::fj a (y::b) else if y<x then y::fj (x::a) b else x::fj a b
termination_by a b=>a.length+b.length
def zx1(a:List Int):fj a []=a:=by cases a<;>simp[fj]
def Ay{v:Int}(a b:List Int):v∈fj a b↔v∈a\/v∈b:=by
 fun_induction fj a b with
 | case1 b=>simp
 | case2 a h=>simp
 | case3 x a y b h c =>
  simp only[aae,c];constructor
  .rintro(h|h|h|h)<;>simp[h]
  .rintro((h|h)|h|h)<;>simp[h]
 | case4 x a y b h d c =>
  simp only[aae,c];constructor
  .rintro(h|(h|h)|h)<;>simp[h]
  .rintro((h|h)|h|h)<;>simp[h]
 | case5 x a y b h d c =>
  have:x=y:=an
  subst this;simp[c];constructor
  .rintro(h|h|h)<;>simp[h]
  .rintro((h|h)|h|h)<;>simp[h]
def zAx(a b:List Int)(g:Up a)(i:Up b):Up (fj a b):=by
 fun_induction fj a b with
 | case1 b=>exact i
 | case2 a h=>exact g
 | case3 x a y b h j =>
  have d:=aad.1 g;have f:=aad.1 i;refine aad.2 ⟨λv k=>?_,j d.2 i⟩
  rcases(Ay _ _).1 k with c|c
  .exact d.1 v c
  .rcases aae.1 c with e|e
   .omega
   .have:=f.1 v e;omega
 | case4 x a y b h l j =>
  have d:=aad.1 g;have f:=aad.1 i;refine aad.2 ⟨λv k=>?_,j g f.2⟩
  rcases(Ay _ _).1 k with c|c
  .rcases aae.1 c with e|e
   .omega
   .have:=d.1 v e;omega
  .exact f.1 v c
 | case5 x a y b h l j =>
  have d:=aad.1 g;have f:=aad.1 i;refine aad.2 ⟨λv k=>?_,j d.2 f.2⟩
  rcases(Ay _ _).1 k with c|c
  .exact d.1 v c
  .have:=f.1 v c;omega
def zx2(a b:List Int):(fj a b).length<=a.length+b.length:=by fun_induction fj a b<;>simp_all<;>omega
def J5:∀{a b:List Int},Up a->Up b->(∀v∈a,v∈b)->a.Sublist b
 | [],_,_,_,_=>List.nil_sublist _
 | x::a,[],_,_,h=>absurd (h x ir) ir
 | x::a,y::b,i,j,h=>by
  have d:=aad.1 i;have f:=aad.1 j
  by_cases e:x=y
  .subst e;refine List.Sublist.cons_cons _ (J5 d.2 f.2 λv c=>?_)
   rcases aae.1 (h v (by simp[c])) with e|e
   .have:=d.1 v c;omega
   .exact e
  .refine List.Sublist.cons _ (J5 i f.2 λv c=>?_)
   rcases aae.1 (h v c) with e'|e'
   .subst e'
    rcases aae.1 c with e2|e2
    .exact absurd e2.symm e
    .rcases aae.1 (h x ir) with g|g
     .exact absurd g e
     .have:=d.1 v e2;have:=f.1 x g;omega
   .exact e'
termination_by a b=>a.length+b.length
def idx:List Int->(Int->Bool)->Nat
 | [],_=>0
 | v::vs,p=>(p v).toNat+2*idx vs p
def Fz:∀(vs:List Int) (p:Int->Bool),idx vs p<2^vs.length
 | [],_=>by simp[idx]
 | v::vs,p=>by
  have:=Fz vs p
  have a:(p v).toNat<=1:=by cases p v<;>simp
  simp only[idx,aaJ,aau];omega
def U8(p:Int->Bool):∀(a b:List Int),idx (a++b) p=idx a p+2^a.length*idx b p
 | [],b=>by simp[idx]
 | v::a,b=>by
  simp only[List.cons_append,idx,U8 p a b,aaJ,aau]
  have:2^a.length*2*idx b p=2*(2^a.length*idx b p):=by rw[aaH (2^a.length) 2,aaG]
  omega
def FA(p:Int->Bool):∀(vs:List Int) (j:Nat),(idx vs p).testBit j=(vs[j]?.map p).getD false
 | [],j=>by simp[idx]
 | v::vs,0=>by
  simp only[idx,Nat.testBit_zero,List.getElem?_cons_zero,aax,aav]
  cases p v<;>simp<;>omega
 | v::vs,j+1=>by
  simp only[List.getElem?_cons_succ,<-FA p vs j,idx,Nat.testBit_succ]
  congr 1
  cases p v<;>simp<;>omega
def Mo{p q:Int->Bool}:∀{vs:List Int},(∀v∈vs,p v=q v)->idx vs p=idx vs q
 | [],_=>rfl
 | v::vs,h=>by simp only[idx,h v ir,Mo (vs:=vs) (λu a=>h u (List.mem_cons_of_mem _ a))]
def iZ(vs:List Int)(n:Nat):Int->Bool:=λv=>n.testBit (vs.idxOf v)
def U9{vs:List Int}(h:vs.Nodup){n:Nat}(a:n<2^vs.length):idx vs (iZ vs n)=n:=by
 refine aal λj=>?_;rw[FA]
 by_cases b:j<vs.length
 .rw[aab b];simp only[aax,aav,iZ];rw[List.Nodup.idxOf_getElem h]
 .rw[aag an];simp only[Option.map_none,Option.getD_none];rw[aai (aaj a (aah ag7 an))]
def zx3{vs:List Int}{v:Int}(a:v∈vs)(p:Int->Bool):iZ vs (idx vs p) v=p v:=by rw[iZ,FA,aab (List.idxOf_lt_length_of_mem a)];simp
def flip(p:Int->Bool)(v:Int):Int->Bool:=λu=>if u=v then !p u else p u
def zvd{vs:List Int}(h:vs.Nodup)(p:Int->Bool){j:Nat}{v:Int}(a:vs[j]?=some v):idx vs (flip p v)=idx vs p ^^^ 2^j:=by
 have d:j<vs.length:=by
  rcases aat j vs.length with h|h
  .exact h
  .rw[aag h] at a;cases a
 refine aal λi=>?_;rw[Nat.testBit_xor,FA,FA,Nat.testBit_two_pow]
 by_cases hi:i<vs.length
 .rw[aab hi];simp only[aax,aav,flip];rw[aab d] at a;cases a
  by_cases b:i=j
  .subst b;simp
  .have:vs[i]≠vs[j]:=λe=>b (U7 h e);have c:j≠i:=λe=>b e.symm;simp[this,c]
 .rw[aag an]
  have c:j≠i:=an
  simp[c]
def dm(vs:List Int)(tab:List Nat)(p:Int->Bool):Nat:=tab.getD (idx vs p) 0
def zx4{vs:List Int}{tab:List Nat}{p q:Int->Bool}(h:∀v∈vs,p v=q v):dm vs tab p=dm vs tab q:=by rw[dm,dm,Mo h]
def zFG{vs:List Int}{tab:List Nat}(a:vs.Nodup)(c:tab.length=2^vs.length){n:Nat}(h:n<tab.length):tab[n]=dm vs tab (iZ vs n):=by have b:=U9 a (n:=n) an;simp[dm,b,aak,h]
def dep(f:(Int->Bool)->Nat)(v:Int):Prop:=∃p,f p≠f (flip p v)
def QK{vs:List Int}{tab:List Nat}(h:vs.Nodup)(d:tab.length=2^vs.length){j:Nat}{v:Int}(b:vs[j]?=some v):Ad tab j=true↔dep (dm vs tab) v:=by
 have get (n:Nat) (a:n<tab.length):tab[n]?=some (tab.getD n 0):=by rw[aab a,aak,aab a];rfl
 have f:j<vs.length:=by
  rcases aat j vs.length with h|h
  .exact h
  .rw[aag h] at b;cases b
 simp only[Ad,List.any_eq_true,aaN,bne_iff_ne,ne_eq,dep,dm];constructor
 .rintro⟨n,a,g⟩;refine⟨iZ vs n,λe=>g ?_⟩;rw[zvd h _ b,U9 h an] at e;rw[get n a,get _ (by rw[d] at a |-;exact aaI a (aaD ag7 f)),e]
 .rintro⟨p,i⟩
  have c:idx vs p<tab.length:=by rw[d];exact Fz vs p
  refine⟨idx vs p,c,λe=>i ?_⟩;rw[zvd h _ b];rw[get _ c,get _ (by rw[d] at c |-;exact aaI c (aaD ag7 f))] at e;exact Option.some.inj e
def Right.Mp{vs:List Int}{tab:List Nat}(h:Right vs tab){v:Int}(b:v∈vs):dep (dm vs tab) v:=by obtain⟨j,a,rfl⟩:=aaC.1 b;obtain⟨w,d,_,_,_,c⟩:=h.2.2 j a;exact(QK h.up.nodup h.2.1 (aab a)).1 c
def Right.of{vs:List Int}{tab:List Nat}(f:vs.length<=4)(b:tab.length=2^vs.length)(c:Up vs)(d:∀v∈vs,0<=v/\v<34)(hd:∀v∈vs,dep (dm vs tab) v):Right vs tab:=by refine⟨f,b,λj a=>⟨vs[j],aab a,(d _ (aaw a)).1,(d _ (aaw a)).2,?_,(QK c.nodup b (aab a)).2 (hd _ (aaw a))⟩⟩;intro u g e;rw[aab an] at e;cases e;exact aan.1 c _ _ _ _ an
def zx5{vs:List Int}{tab:List Nat}{v:Int}(a:v∉vs):¬dep (dm vs tab) v:=by rintro⟨p,b⟩;refine b ?_;simp only[dm];rw[Mo (p:=p) (q:=flip p v) λu c=>?_];have:u≠v:=λe=>a (e▸c);simp[flip,this]
def zFe{vs a:List Int}{tab c:List Nat}(h:Right vs tab)(d:Right a c)(f:∀p,dm vs tab p=dm a c p):vs=a/\tab=c:=by
 have g:dm vs tab=dm a c:=funext f
 have b:vs=a:=zAw h.up d.up λv=>by
  constructor
  .intro b;have:=h.Mp b;rw[g] at this;exact Decidable.byContradiction λe=>zx5 e this
  .intro b;have:=d.Mp b;rw[<-g] at this;exact Decidable.byContradiction λe=>zx5 e this
 subst b;refine⟨rfl,List.ext_getElem (by rw[h.2.1,d.2.1]) λn i j=>?_⟩;have:=f (iZ vs n);simp only[dm] at this;rw[U9 h.up.nodup (by rw[<-h.2.1];exact i)] at this;simpa[aak,aab i,aab j] using this
def qk(tab:List Nat)(j:Nat):List Nat:=((aaB tab.length).filter λn=>!n.testBit j).map λn=>tab.getD n 0
def ins(j m:Nat):Nat:=2^(j+1)*(m/2^j)+m%2^j
def QL(j m i:Nat):(ins j m).testBit i=if i<j then m.testBit i else if i=j then false else m.testBit (i-1):=by
 have b:m%2^j<2^(j+1):=aaj (aar _ (aao j)) (aah ag7 an);rw[ins,aaf _ b]
 by_cases h:i<j
 .rw[if_pos an,if_pos h,aap];simp[h]
 .rw[if_neg h]
  by_cases a:i=j
  .subst a;rw[if_pos an,if_pos rfl,aap];simp
  .rw[if_neg an,if_neg a,aaq]
   congr 1;omega
def zHg{j k m:Nat}(b:j<=k)(a:m<2^k):ins j m<2^(k+1):=by
 refine aas _ λi hi=>?_;rw[QL,if_neg an];split
 .rfl
 .exact aai (aaj a (aah ag7 an))
def zC3{j a b:Nat}(h:a<b):ins j a<ins j b:=by
 have f:a/2^j<=b/2^j:=Nat.div_le_div_right (Nat.le_of_lt h);have d:=aaL a (2^j);have g:=aaL b (2^j);have i:=aar a (aao j);have k:=aar b (aao j);simp only[ins,aau]
 rcases aat (a/2^j) (b/2^j) with c|c
 .have:2^j*(a/2^j+1)<=2^j*(b/2^j):=Nat.mul_le_mul_left _ c
  have l:2^j*2*(a/2^j)=2*(2^j*(a/2^j)):=by rw[aaH (2^j) 2,aaG]
  have m:2^j*2*(b/2^j)=2*(2^j*(b/2^j)):=by rw[aaH (2^j) 2,aaG]
  rw[Nat.mul_add] at this;omega
 .have e:a/2^j=b/2^j:=an
  rw[e] at d |-;omega
def zC4{j n:Nat}(h:n.testBit j=false):∃m,ins j m=n/\(∀k,j<=k->n<2^(k+1)->m<2^k):=by
 refine⟨2^j*(n/2^(j+1))+n%2^j,?_,?_⟩
 .refine aal λi=>?_;have a:n%2^j<2^j:=aar _ (aao j);rw[QL,aaf _ a,aaf _ a]
  by_cases b:i<j
  .rw[if_pos b,if_pos b,aap];simp[b]
  .rw[if_neg b]
   by_cases c:i=j
   .subst c;simp[h]
   .rw[if_neg c,if_neg an,aaq]
    congr 1;omega
 .intro k e d;have a:n%2^j<2^j:=aar _ (aao j);refine aas _ λi hi=>?_;rw[aaf _ a,if_neg an,aaq];exact aai (aaj d (aah ag7 an))
def zAy:∀{a b:List Nat},a.Pairwise (·<·)->b.Pairwise (·<·)->(∀v,v∈a↔v∈b)->a=b
 | [],[],_,_,_=>rfl
 | [],y::b,_,_,h=>absurd ((h y).2 ir) ir
 | x::a,[],_,_,h=>absurd ((h x).1 ir) ir
 | x::a,y::b,g,i,h=>by
  have d:=aad.1 g;have f:=aad.1 i
  have j:x=y:=by
   rcases aae.1 ((h x).1 ir) with e|e
   .exact e
   rcases aae.1 ((h y).2 ir) with e'|e'
   .exact e'.symm
   have:=f.1 x e;have:=d.1 y e';omega
  subst j;rw[zAy d.2 f.2 λv=>?_];constructor
  .intro c;have k:=d.1 v c
   rcases aae.1 ((h v).1 (by simp[c])) with e|e
   .omega
   .exact e
  .intro c;have k:=f.1 v c
   rcases aae.1 ((h v).2 (by simp[c])) with e|e
   .omega
   .exact e
def zAz{k j:Nat}(b:j<=k):((aaB (2^(k+1))).filter λn=>!n.testBit j)=(aaB (2^k)).map (ins j):=by
 refine zAy (List.Pairwise.filter _ aay) ?_ λn=>?_
 .rw[List.pairwise_map];exact aay.imp λh=>zC3 h
 .simp only[List.mem_filter,aaN,List.mem_map,Bool.not_eq_true'];constructor
  .rintro⟨c,d⟩;obtain⟨m,a,e⟩:=zC4 d;exact⟨m,e k b c,a⟩
  .rintro⟨m,a,rfl⟩;refine⟨zHg b a,?_⟩;rw[QL,if_neg an,if_pos rfl]
def zC5{tab:List Nat}{k j:Nat}(a:tab.length=2^(k+1))(b:j<=k):(qk tab j).length=2^k:=by rw[qk,a,zAz b];simp
def zC6{tab:List Nat}{k j m:Nat}(a:tab.length=2^(k+1))(b:j<=k)(c:m<2^k):(qk tab j).getD m 0=tab.getD (ins j m) 0:=by rw[qk,a,zAz b];simp[aak,c]
def zFH{vs:List Int}{tab:List Nat}(h:vs.Nodup)(d:tab.length=2^vs.length){j:Nat}(f:j<vs.length)(g:Ad tab j=false)(p:Int->Bool) :
  dm (vs.eraseIdx j) (qk tab j) p=dm vs tab p:=by
 obtain⟨k,o⟩:∃k,vs.length=k+1:=⟨vs.length-1,an⟩
 have a:(vs.eraseIdx j).length=k:=by rw[List.length_eraseIdx_of_lt f];omega
 have r:idx (vs.eraseIdx j) p<2^k:=by have:=Fz (vs.eraseIdx j) p;rwa[a] at this
 have l:vs[j]?=some vs[j]:=aab f
 have s:¬dep (dm vs tab) vs[j]:=λhd=>by rw[(QK h d l).2 hd] at g;cases g
 have b:ins j (idx (vs.eraseIdx j) p)=idx vs (λu=>if u=vs[j] then false else p u):=by
  refine aal λi=>?_;rw[QL,FA,FA,FA,aaA,aaA]
  by_cases c:i<j
  .rw[if_pos c,if_pos c];rw[aab an]
   have:vs[i]≠vs[j]:=λe=>by have:=U7 h e;omega
   simp[this]
  .rw[if_neg c]
   by_cases m:i=j
   .subst m;rw[if_pos rfl,l];simp
   .rw[if_neg m,if_neg an,show i-1+1=i by omega]
    by_cases t:i<vs.length
    .rw[aab t]
     have:vs[i]≠vs[j]:=λe=>by have:=U7 h e;omega
     simp[this]
    .rw[aag an];simp
 simp only[dm];rw[zC6 (by rw[d,o]) an r,b];show dm vs tab _=dm vs tab p
 by_cases n:p vs[j]=false
 .simp only[dm];rw[Mo (q:=p)];intro u _
  by_cases e:u=vs[j]
  .simp[e,n]
  .simp[e]
 .have:dm vs tab p=dm vs tab (flip p vs[j]):=Decidable.byContradiction λe=>s ⟨p,e⟩;rw[this];simp only[dm];rw[Mo (q:=flip p vs[j])];intro u _
  by_cases e:u=vs[j]
  .simp only[flip,e,if_true];cases v:p vs[j]
   .exact absurd v n
   .rfl
  .simp[flip,e]
def fG(f:Nat->Bool):Nat->Nat
 | 0=>0
 | k+1=>fG f k+2^k*(f k).toNat
def vk(f:Nat->Bool):∀k,fG f k<2^k
 | 0=>by simp[fG]
 | k+1=>by
  have:=vk f k;simp only[fG,aau]
  cases f k<;>simp<;>omega
def Az(f:Nat->Bool)(i:Nat):∀k,(fG f k).testBit i=(decide (i<k)&&f i)
 | 0=>by simp[fG]
 | k+1=>by
  rw[fG,Nat.add_comm,aaf _ (vk f k)]
  by_cases h:i<k
  .rw[if_pos h,Az f i k];simp[h,show i<k+1 by omega]
  .rw[if_neg h]
   by_cases a:i=k
   .subst a;simp
    cases f i<;>simp
   .have b:¬i<k+1:=an
    simp only[b,decide_false,aaO];have:(f k).toNat<2^(i-k):=aaj (by cases f k<;>simp:(f k).toNat<2^1) (aah ag7 an);exact aai this
def QM{f g:Nat->Bool}:∀{k:Nat},(∀i,i<k->f i=g i)->fG f k=fG g k
 | 0,_=>rfl
 | k+1,h=>by rw[fG,fG,QM λi hi=>h i an,h k an]
def QN{w:Nat}(h:w<2^32):fG w.testBit 32=w:=by
 refine aal λi=>?_;rw[Az]
 by_cases hi:i<32
 .simp[hi]
 .simp only[hi,decide_false,aaO];exact(aai (aaj h (aah ag7 an))).symm
def val(vs:List Int)(tab:List Nat)(r:Int->Nat):Nat:=fG (λi=>(dm vs tab λv=>(r v).testBit i).testBit i) 32
end Go.Ev
