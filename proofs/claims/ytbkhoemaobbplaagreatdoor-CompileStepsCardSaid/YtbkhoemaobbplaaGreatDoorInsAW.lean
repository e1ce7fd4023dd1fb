/- What the functions of ins, and those of hurdleref02, compute. -/
import Derived.Test.YtbkhoemaobbplaaGreatDoorEvWinCW
import Derived.Test.YtbkhoemaobbplaaGreatDoorEvX
import Derived.Test.YtbkhoemaobbplaaGreatDoorEvIW
import Derived.Test.YtbkhoemaobbplaaGreatDoorEvQW
set_option linter.defProp false
set_option linter.unusedSimpArgs false
set_option linter.unusedVariables false
set_option maxHeartbeats 4000000
set_option maxRecDepth 10000
open Nat renaming le_of_ble_eq_true→aaa,pow_le_pow_right→aah,lt_of_le_of_lt→aax,testBit_two_pow_mul_add→aay,div_le_self→aaz,testBit_lt_two_pow→aaA,lt_of_lt_of_le→aaD,eq_of_testBit_eq→aaG,pow_lt_pow_right→aaH,mod_lt→aaI,mul_comm→aaR,xor_lt_two_pow→aaX,add_comm→aa3,two_pow_add_eq_or_of_lt→aa5,two_pow_pos→aba,pow_succ→abd,testBit_mod_two_pow→abf,testBit_div_two_pow→abg,testBit_succ→abj,mod_eq_of_lt→abk,and_two_pow_sub_one_eq_mod→abp,min_eq_left→abq,testBit_two_pow→abu,le_refl→abv,lt_pow_two_of_testBit→abD,lt_or_ge→abF,sub_self→abH,add_sub_cancel_left→abI,mul_le_mul_right→abQ,mul_assoc→abR,and_lt_two_pow→abW,one_le_two_pow→ab0,or_lt_two_pow→ab4,or_comm→ab7,div_add_mod→aca,mul_zero→acf,add_zero→acg,zero_add→acj,one_mul→ack
open Int renaming natCast_add→aab,natCast_pow→aag,natCast_emod→aao,natCast_ediv→aap,eq_ofNat_of_zero_le→aar,natCast_mul→aaJ,toNat→abe,toNat_natCast→ab5
open List renaming getElem?_eq_getElem→aac,reduceReplicate→aae,getElem?_append_left→aaf,mem_cons→aai,getElem?_eq_some_iff→aaj,getD_eq_getElem?_getD→aak,take_of_length_le→aal,pairwise_cons→aam,getElem?_append_right→aan,replicate→aaq,length_take→aas,getElem?_set_ne→aat,zipWith→aau,getElem?_eq_none→aav,getElem_mem→aaw,range→aaB,length_cons→aaC,getElem?_take→aaE,mem_of_getElem?→aaK,set_append_left→aaL,take_left'→aaM,cons_append→aaN,drop_drop→aaP,drop_eq_nil_of_le→aaQ,take_add_one→aaT,getElem?_set→aaU,not_mem_nil→aaV,getElem?_cons_succ→aaW,length_append→aaZ,drop_left'→aa0,getElem?_set_self→aa1,ext_getElem?→aa2,mem_range→aa4,mem_iff_getElem→aa6,map_cons→aa7,mem_of_find?_eq_some→aa8,pairwise_iff_getElem→aa9,drop_eq_getElem_cons→abb,range_succ→abc,getElem?_replicate→abh,set_append_right→abl,mem_map→abm,getElem?_of_mem→abn,length_nil→abo,drop_eq_nil_iff→abr,length_set→abt,find?_eq_none→abx,idxOf_lt_length_of_mem→aby,getElem?_drop→abz,length_eraseIdx_of_lt→abB,flatten_cons→abC,mem_or_eq_of_mem_set→abE,find?_range_eq_some→abG,map_append→abJ,mem_append→abK,nil_append→abL,pairwise_lt_range→abM,getElem?_eraseIdx→abN,length→abO,getElem?_zipWith→abP,drop_one→abS,replicate_succ→abT,getElem_of_mem→abU,filter_append→abX,mem_singleton→abY,mem_replicate→ab1,map_map→ab2,prefix_append→ab3,append_assoc→ab6,nil_sublist→ab8,ext_getElem→ab9,prefix_refl→ab_,append_nil→acb,sum_cons→ace
open Bool renaming false_eq_true→aaF,eq_iff_iff→aaS,false_and→acd
open Option renaming getD_some→aaO,map→aaY,map_some→aa_,some→abw,isSome_some→abA,toList_some→abV
open Function renaming comp_def→abi
open BitVec renaming toNat_ofNat→abZ,ofInt→ach,ofNat→aci
namespace Go.Ev
open Go Go.RowKit
variable {G:aN}
structure af where
 op:Int
 jt:Int
 jf:Int
 k:Nat
 deriving DecidableEq
def af.cs(x:af):List V:=[.int .i64 x.op,.int .i64 x.jt,.int .i64 x.jf,.int .u32 (x.k:Int)]
def IV(x:af):V:=.agg x.cs
def IL(l:List af):List (List V):=l.map af.cs
def FL(l:List af):V:=.vs (IL l) .no
@[simp] theorem zIM (l:List af):(IL l).length=l.length:=by simp[IL]
@[simp] theorem Vn (l:List af) (i:Nat):(IL l)[i]?=(l[i]?).map af.cs:=by simp[IL]
@[simp] theorem zDR:IL []=[]:=rfl
theorem NR(l:List af):IL l=[]↔l=[]:=by simp[IL]
def zxQ(l m:List af):IL l++IL m=IL (l++m):=by simp[IL]
@[simp] theorem NQ (l:List af) (x:af):IL l++[x.cs]=IL (l++[x]):=by simp[IL]
@[simp] theorem agd (l:List af):(∀ f∈IL l,f.length=4)=True:=by simp only[eq_iff_iff,iff_true];intro f a;simp only[IL,abm] at a;obtain⟨x,_,rfl⟩:=a;rfl
@[simp] theorem zIN (x:af):x.cs.length=4:=rfl
abbrev xL:=Int×List UInt8×Bool×Bool
def o5(r:xL):List V:=[.int .i64 r.1,.str r.2.1,.bool r.2.2.1,.bool r.2.2.2]
def qu(op:Int):Option xL:=uJ.find? fun r=>r.1==op
def zu0{α β:Type}(g:α->List β)(k:Nat)(c:∀ a,(g a).length=k):∀(l:List α) (n:Nat) (a:α),l[n]?=some a->(((l.map g).flatten).drop (n*k)).take k=g a
 | [],n,a,h=>by simp at h
 | b::l,0,a,h=>by
  simp at h;subst h
  simp[c]
 | b::l,n+1,a,h=>by
  simp only[aaW] at h;rw[aa7,abC,Nat.add_mul,ack,aa3,<-c b,List.drop_length_add_append];have:=zu0 g k c l n a h;rw[c b];exact this
def zxR{n:Nat}{r:xL}(h:uJ[n]?=some r):(wi.drop (n*4)).take 4=o5 r:=zu0 (fun r:xL=>o5 r) 4 (fun _=>rfl) uJ n r h
def PH:wi.length=156:=by decide
def zuo:wi.take 156=wi:=by rw[aal];rw[PH];exact abv _
def zri(n:Nat):aX n wi=wi:=by rw[ie];simp[wi,List.map_flatten,abi,V.cl]
def IS(op:Int):V:=match qu op with
 | some r=>.bc [.agg (o5 r),.bool true]
 | none=>.bc [.agg [.int .i64 0,.str [],.bool false,.bool false],.bool false]
def zxS{α:Type}{p:α->Bool}{l:List α}(h:∀(n:Nat) (a:α),l[n]?=some a->p a=false):l.find? p=none:=by rw[abx];intro a b;obtain⟨n,c⟩:=abn b;simp[h n a c]
def zu1{α:Type}{p:α->Bool}:∀{l:List α} {n:Nat} {a:α},l[n]?=some a->p a=true->(∀(m:Nat) (b:α),m<n->l[m]?=some b->p b=false)->l.find? p=some a
 | [],n,a,h,_,_=>by simp at h
 | b::l,0,a,h,d,_=>by simp at h;subst h;simp[d]
 | b::l,n+1,a,h,d,e=>by
  rw[List.find?_cons];rw[e 0 b an rfl];exact zu1 (by simpa using h) d fun m c g f=>e (m+1) c an (by simpa using f)
def zBh(op:Int)(n:Nat):Prop:=∀(m:Nat) (b:xL),m<n->uJ[m]?=some b->(b.1==op)=false
def Vo[aB G](op:Int):FP G 139 [.int .i64 op] (IS op):=by
 refine bF aB.afr (aaa rfl) ?_;simp[PH,zuo]
 refine aP 39 (fun n=>[(0,.int .i64 op),(2,.ptr 0 0),(6,.agg wi),(7,.int .i64 n)]) (fun _=>[some (.cells [.int .i64 0,.str [],.bool false,.bool false])])
  (fun n=>zBh op n) ?_ ?_
 ·simp[aq,ai,zri];intro m b h;omega
 intro n l c
 by_cases f:n<39
 ·obtain⟨r,d⟩:∃ r,uJ[n]?=some r:=⟨_,aac (show n<uJ.length from f)⟩;have g:=zxR d
  by_cases e:r.1=op
  ·have:qu op=some r:=zu1 d (by simpa using e) c;simp(disch:=omega)[bC,az,PH,g,o5,e,this,IS,-aab]
  ·have i:zBh op (n+1):=fun m b h a=>by
    by_cases j:m=n
    ·subst j;rw[d] at a;cases a;simpa using e
    ·exact c m b an a
   simp(disch:=omega)[bC,az,PH,g,o5,aM,bE,f,aq,ai,zri,i,-aab]
 ·have k:n=39:=an
  subst k;have:qu op=none:=zxS fun m b a=>c m b (by have:=(aaj.1 a).1;exact this) a;simp[this,IS]
def Kc{op:Int}{r:xL}(h:qu op=some r):r.1=op/\r∈uJ:=by have a:=List.find?_some h;exact⟨by simpa using a,aa8 h⟩
def Vp{op:Int}(h:qu op=none):∀ r∈uJ,r.1≠op:=fun r a=>by
 have:=abx.1 h r a;simpa using this
def cH(op:Int):Int×Bool×Bool :=
 if op∈[4,20,36,52,68,84,100,116,164] then(op,false,true) else if op∈[12,28,44,60,76,92,108,124,172] then(op-8,true,true) else(0,false,false)
def br(op:Int):Bool:=decide (op∈[21,37,53,69,29,45,61,77])
def iy(op:Int):Bool:=decide (op=6\/op=22)
def zzO{op:Int}(h:qu op=none):cH op=(0,false,false):=by
 have d:∀ p∈[4,20,36,52,68,84,100,116,164,12,28,44,60,76,92,108,124,172],∃ r∈uJ,r.1=p:=by decide
 unfold cH;rw[if_neg,if_neg]
 ·intro a;obtain⟨r,b,c⟩:=d op (by simp only[aai,aaV,or_false] at a |-;omega);exact Vp h r b c
 ·intro a;obtain⟨r,b,c⟩:=d op (by simp only[aai,aaV,or_false] at a |-;omega);exact Vp h r b c
def zB8{op:Int}(h:qu op=none):br op=false:=by
 have a:∀ p∈[21,37,53,69,29,45,61,77],∃ r∈uJ,r.1=p:=by decide
 simp only[br,decide_eq_false_iff_not];intro b;obtain⟨r,c,d⟩:=a op b;exact Vp h r c d
def JF[aB G](x:af):FP G 143 [IV x] (.bool (iy x.op)):=by
 refine bF aB.afv (aaa rfl) ?_;simp[IV,af.cs]
 by_cases h:x.op=6
 ·simp[h,iy]
 ·by_cases a:x.op=22<;>simp[h,a,aM,iy]
def yg[aB G](x:af):FP G 142 [IV x] (.bool (br x.op)):=by
 refine bF aB.afu (aaa rfl) ?_;simp[IV,af.cs];refine ax (Vo x.op) ?_;unfold IS
 cases h:qu x.op with
 | none=>simp[zB8 h]
 | some r =>
  obtain⟨d,e⟩:=Kc h
  have a:∀ r∈uJ,(decide (jg .i64 r.1 7=5)&&decide (r.1≠5))=br r.1:=by decide
  have a:=a r e;rw[d] at a
  by_cases b:jg .i64 x.op 7=5
  ·by_cases c:x.op=5
   ·simp[c] at a;simp[o5,c];rw[c] at b;simp[b];exact a
   ·simp[b,c] at a;simp[o5,b,c,jM,a]
  ·simp[b] at a;simp[o5,b,aM,a]
def Hx[aB G](x:af):FP G 141 [IV x] (.bc [.int .i64 (cH x.op).1,.bool (cH x.op).2.1,.bool (cH x.op).2.2]):=by
 refine bF aB.aft (aaa rfl) ?_;simp[IV,af.cs];refine ax (Vo x.op) ?_;unfold IS
 cases h:qu x.op with
 | none=>simp[zzO h]
 | some r =>
  obtain⟨d,e⟩:=Kc h
  have a:∀ r∈uJ,cH r.1=if jg .i64 r.1 7≠4\/r.1=132 then(0,false,false) else(HI .i64 r.1 8,decide (jg .i64 r.1 8>0),true):=by decide
  have a:=a r e;rw[d] at a
  by_cases c:jg .i64 x.op 7=4
  ·by_cases b:x.op=132
   ·have f:jg .i64 132 7=4:=by decide
    rw[if_pos (.inr b)] at a;simp[o5,b,f,b▸a]
   ·rw[if_neg (by simp[c,b])] at a;simp[o5,c,b,aM,a]
  ·rw[if_pos (.inl c)] at a;simp[o5,c,jM,a]
def jw(x:af):Bool:=match qu x.op with
 | some r=>(r.2.2.1||decide (x.k=0))&&(if r.2.2.2 then decide (0<=x.jt/\x.jt<=255/\0<=x.jf/\x.jf<=255) else decide (x.jt=0/\x.jf=0))
 | none=>false
def JD[aB G](x:af):FP G 140 [IV x] (.bool (jw x)):=by
 refine bF aB.afs (aaa rfl) ?_;simp[IV,af.cs];refine ax (Vo x.op) ?_;unfold IS jw
 cases h:qu x.op with
 | none=>simp
 | some r =>
  obtain⟨i,w,e,ways⟩:=r;have lV:∀{H:ae},True:=trivial;cases e
  ·by_cases c:x.k=0
   ·cases ways
    ·by_cases a:x.jt=0
     ·by_cases b:x.jf=0<;>simp[o5,c,a,b,aM]
     ·simp[o5,c,a,aM]
    ·by_cases a:0<=x.jt
     ·by_cases b:x.jt<=255
      ·by_cases d:0<=x.jf
       ·by_cases f:x.jf<=255<;>simp[o5,c,a,b,d,f]
       ·simp[o5,c,a,b,d]
      ·simp[o5,c,a,b]
     ·simp[o5,c,a]
   ·have g:((x.k:Int) !=0)=true:=jM an;simp[o5,c,g]
  ·cases ways
   ·by_cases a:x.jt=0
    ·by_cases b:x.jf=0<;>simp[o5,a,b,aM]
    ·simp[o5,a,aM]
   ·by_cases a:0<=x.jt
    ·by_cases b:x.jt<=255
     ·by_cases d:0<=x.jf
      ·by_cases f:x.jf<=255<;>simp[o5,a,b,d,f]
      ·simp[o5,a,b,d]
     ·simp[o5,a,b]
    ·simp[o5,a]
def yr(tab:List Nat)(j:Nat):Bool:=(aaB tab.length).any fun n=>tab[n]? !=tab[n ^^^ 2^j]?
def zS(vars:List Int)(tab:List Nat)(j:Nat):Prop :=
 ∃ v,vars[j]?=some v/\0<=v/\v<34/\(∀ u,0<j->vars[j-1]?=some u->u<v)/\yr tab j=true
def Right(vars:List Int)(tab:List Nat):Prop:=vars.length<=4/\tab.length=2^vars.length/\∀ j,j<vars.length->zS vars tab j
open Classical in
noncomputable def r8(vars:List Int)(tab:List Nat):Bool:=decide (Right vars tab)
def DW{vars:List Int}{tab:List Nat}:r8 vars tab=true↔Right vars tab:=by simp[r8]
abbrev Up(l:List Int):Prop:=l.Pairwise (·<·)
def zxT:∀{a b:List Int},Up a->Up b->(∀ v,v∈a↔v∈b)->a=b
 | [],[],_,_,_=>rfl
 | [],y::b,_,_,h=>absurd ((h y).2 ir) ir
 | x::a,[],_,_,h=>absurd ((h x).1 ir) ir
 | x::a,y::b,g,i,h=>by
  have d:=aam.1 g;have f:=aam.1 i
  have j:x=y:=by
   rcases aai.1 ((h x).1 ir) with e|e
   ·exact e
   rcases aai.1 ((h y).2 ir) with e'|e'
   ·exact e'.symm
   have:=f.1 x e;have:=d.1 y e';omega
  subst j;rw[zxT d.2 f.2 fun v=>?_];constructor
  ·intro c;have k:=d.1 v c
   rcases aai.1 ((h v).1 (by simp[c])) with e|e
   ·omega
   ·exact e
  ·intro c;have k:=f.1 v c
   rcases aai.1 ((h v).2 (by simp[c])) with e|e
   ·omega
   ·exact e
def Up.nodup{l:List Int}(h:Up l):l.Nodup:=h.imp (fun h e=>by omega)
def zId{l:List Int}(h:∀ j,0<j->∀ u v,l[j-1]?=some u->l[j]?=some v->u<v):Up l:=by
 induction l with
 | nil=>simp
 | cons x l c =>
  rw[Up,aam]
  have b:Up l:=c (fun j f u v d a=>by
   refine h (j+1) an u v ?_ (by simpa using a);obtain⟨k,rfl⟩:∃ k,j=k+1:=⟨j-1,an⟩
   simpa using d)
  refine⟨?_,b⟩;intro v a
  cases l with
  | nil=>cases a
  | cons y l =>
   have g:x<y:=h 1 an x y ir ir
   rcases aai.1 a with e|e
   ·omega
   ·have:=(aam.1 b).1 v e;omega
def Right.up{vars:List Int}{tab:List Nat}(h:Right vars tab):Up vars:=zId fun j c u v d a=>by
 have e:j<vars.length:=by
  rcases abF j vars.length with h|h
  ·exact h
  ·rw[aav h] at a;cases a
 obtain⟨w,b,_,_,f,_⟩:=h.2.2 j e;rw[a] at b;cases b;exact f u c d
def Right.mem{vars:List Int}{tab:List Nat}(h:Right vars tab){v:Int}(c:v∈vars):0<=v/\v<34:=by obtain⟨j,a,rfl⟩:=aa6.1 c;obtain⟨w,b,d,e,_⟩:=h.2.2 j a;rw[aac a] at b;cases b;exact⟨d,e⟩
def Vq{l:List Int}(h:l.Nodup){i j:Nat}{hi:i<l.length}{b:j<l.length}(e:l[i]=l[j]):i=j:=by
 rcases Nat.lt_trichotomy i j with a|a|a
 ·exact absurd e (aa9.1 h _ _ _ _ a)
 ·exact a
 ·exact absurd e.symm (aa9.1 h _ _ _ _ a)
def eF:List Int->List Int->List Int
 | [],b=>b
 | a,[]=>a
 | x::a,y::b=>if x<y then x::eF a (y::b) else if y<x then y::eF (x::a) b else x::eF a b
termination_by a b=>a.length+b.length
def zu2(a:List Int):eF a []=a:=by cases a<;>simp[eF]
def zT{v:Int}(a b:List Int):v∈eF a b↔v∈a\/v∈b:=by
 fun_induction eF a b with
 | case1 b=>simp
 | case2 a h=>simp
 | case3 x a y b h c =>
  simp only[aai,c];constructor
  ·rintro(h|h|h|h)<;>simp[h]
  ·rintro((h|h)|h|h)<;>simp[h]
 | case4 x a y b h d c =>
  simp only[aai,c];constructor
  ·rintro(h|(h|h)|h)<;>simp[h]
  ·rintro((h|h)|h|h)<;>simp[h]
 | case5 x a y b h d c =>
  have:x=y:=an
  subst this;simp[c];constructor
  ·rintro(h|h|h)<;>simp[h]
  ·rintro((h|h)|h|h)<;>simp[h]
def zxU(a b:List Int)(g:Up a)(i:Up b):Up (eF a b):=by
 fun_induction eF a b with
 | case1 b=>exact i
 | case2 a h=>exact g
 | case3 x a y b h j =>
  have d:=aam.1 g;have f:=aam.1 i;refine aam.2 ⟨fun v k=>?_,j d.2 i⟩
  rcases(zT _ _).1 k with c|c
  ·exact d.1 v c
  ·rcases aai.1 c with e|e
   ·omega
   ·have:=f.1 v e;omega
 | case4 x a y b h l j =>
  have d:=aam.1 g;have f:=aam.1 i;refine aam.2 ⟨fun v k=>?_,j g f.2⟩
  rcases(zT _ _).1 k with c|c
  ·rcases aai.1 c with e|e
   ·omega
   ·have:=d.1 v e;omega
  ·exact f.1 v c
 | case5 x a y b h l j =>
  have d:=aam.1 g;have f:=aam.1 i;refine aam.2 ⟨fun v k=>?_,j d.2 f.2⟩
  rcases(zT _ _).1 k with c|c
  ·exact d.1 v c
  ·have:=f.1 v c;omega
def zu3(a b:List Int):(eF a b).length<=a.length+b.length:=by fun_induction eF a b<;>simp_all<;>omega
def IT:∀{a b:List Int},Up a->Up b->(∀ v∈a,v∈b)->a.Sublist b
 | [],_,_,_,_=>ab8 _
 | x::a,[],_,_,h=>absurd (h x ir) ir
 | x::a,y::b,i,j,h=>by
  have d:=aam.1 i;have f:=aam.1 j
  by_cases e:x=y
  ·subst e;refine List.Sublist.cons_cons _ (IT d.2 f.2 fun v c=>?_)
   rcases aai.1 (h v (by simp[c])) with e|e
   ·have:=d.1 v c;omega
   ·exact e
  ·refine List.Sublist.cons _ (IT i f.2 fun v c=>?_)
   rcases aai.1 (h v c) with e'|e'
   ·subst e'
    rcases aai.1 c with e2|e2
    ·exact absurd e2.symm e
    ·rcases aai.1 (h x ir) with g|g
     ·exact absurd g e
     ·have:=d.1 v e2;have:=f.1 x g;omega
   ·exact e'
termination_by a b=>a.length+b.length
def idx:List Int->(Int->Bool)->Nat
 | [],_=>0
 | v::vs,p=>(p v).toNat+2*idx vs p
def DX:∀(vs:List Int) (p:Int->Bool),idx vs p<2^vs.length
 | [],_=>by simp[idx]
 | v::vs,p=>by
  have:=DX vs p
  have a:(p v).toNat<=1:=by cases p v<;>simp
  simp only[idx,aaC,abd];omega
def Vr(p:Int->Bool):∀(a b:List Int),idx (a++b) p=idx a p+2^a.length*idx b p
 | [],b=>by simp[idx]
 | v::a,b=>by
  simp only[aaN,idx,Vr p a b,aaC,abd]
  have:2^a.length*2*idx b p=2*(2^a.length*idx b p):=by rw[aaR (2^a.length) 2,abR]
  omega
def DY(p:Int->Bool):∀(vs:List Int) (j:Nat),(idx vs p).testBit j=(vs[j]?.map p).getD false
 | [],j=>by simp[idx]
 | v::vs,0=>by
  simp only[idx,Nat.testBit_zero,List.getElem?_cons_zero,aa_,aaO]
  cases p v<;>simp<;>omega
 | v::vs,j+1=>by
  simp only[aaW,<-DY p vs j,idx,abj]
  congr 1
  cases p v<;>simp<;>omega
def Lv{p q:Int->Bool}:∀{vs:List Int},(∀ v∈vs,p v=q v)->idx vs p=idx vs q
 | [],_=>rfl
 | v::vs,h=>by simp only[idx,h v ir,Lv (vs:=vs) (fun u a=>h u (List.mem_cons_of_mem _ a))]
def h_(vs:List Int)(n:Nat):Int->Bool:=fun v=>n.testBit (vs.idxOf v)
def Vs{vs:List Int}(h:vs.Nodup){n:Nat}(a:n<2^vs.length):idx vs (h_ vs n)=n:=by
 refine aaG fun j=>?_;rw[DY]
 by_cases b:j<vs.length
 ·rw[aac b];simp only[aa_,aaO,h_];rw[List.Nodup.idxOf_getElem h]
 ·rw[aav an];simp only[Option.map_none,Option.getD_none];rw[aaA (aaD a (aah (by decide) an))]
def zu4{vs:List Int}{v:Int}(a:v∈vs)(p:Int->Bool):h_ vs (idx vs p) v=p v:=by rw[h_,DY,aac (aby a)];simp
def flip(p:Int->Bool)(v:Int):Int->Bool:=fun u=>if u=v then !p u else p u
def ztc{vs:List Int}(h:vs.Nodup)(p:Int->Bool){j:Nat}{v:Int}(a:vs[j]?=some v):idx vs (flip p v)=idx vs p ^^^ 2^j:=by
 have d:j<vs.length:=by
  rcases abF j vs.length with h|h
  ·exact h
  ·rw[aav h] at a;cases a
 refine aaG fun i=>?_;rw[Nat.testBit_xor,DY,DY,abu]
 by_cases hi:i<vs.length
 ·rw[aac hi];simp only[aa_,aaO,flip];rw[aac d] at a;cases a
  by_cases b:i=j
  ·subst b;simp
  ·have:vs[i]≠vs[j]:=fun e=>b (Vq h e);have c:j≠i:=fun e=>b e.symm;simp[this,c]
 ·rw[aav an]
  have c:j≠i:=an
  simp[c]
def c_(vs:List Int)(tab:List Nat)(p:Int->Bool):Nat:=tab.getD (idx vs p) 0
def zu5{vs:List Int}{tab:List Nat}{p q:Int->Bool}(h:∀ v∈vs,p v=q v):c_ vs tab p=c_ vs tab q:=by rw[c_,c_,Lv h]
def zB9{vs:List Int}{tab:List Nat}(a:vs.Nodup)(c:tab.length=2^vs.length){n:Nat}(h:n<tab.length):tab[n]=c_ vs tab (h_ vs n):=by have b:=Vs a (n:=n) an;simp[c_,b,aak,h]
def dep(f:(Int->Bool)->Nat)(v:Int):Prop:=∃ p,f p≠f (flip p v)
def PI{vs:List Int}{tab:List Nat}(h:vs.Nodup)(d:tab.length=2^vs.length){j:Nat}{v:Int}(b:vs[j]?=some v):yr tab j=true↔dep (c_ vs tab) v:=by
 have get (n:Nat) (a:n<tab.length):tab[n]?=some (tab.getD n 0):=by rw[aac a,aak,aac a];rfl
 have f:j<vs.length:=by
  rcases abF j vs.length with h|h
  ·exact h
  ·rw[aav h] at b;cases b
 simp only[yr,List.any_eq_true,aa4,bne_iff_ne,ne_eq,dep,c_];constructor
 ·rintro⟨n,a,g⟩;refine⟨h_ vs n,fun e=>g ?_⟩;rw[ztc h _ b,Vs h an] at e;rw[get n a,get _ (by rw[d] at a |-;exact aaX a (aaH (by decide) f)),e]
 ·rintro⟨p,i⟩
  have c:idx vs p<tab.length:=by rw[d];exact DX vs p
  refine⟨idx vs p,c,fun e=>i ?_⟩;rw[ztc h _ b];rw[get _ c,get _ (by rw[d] at c |-;exact aaX c (aaH (by decide) f))] at e;exact abw.inj e
def Right.Lw{vs:List Int}{tab:List Nat}(h:Right vs tab){v:Int}(b:v∈vs):dep (c_ vs tab) v:=by obtain⟨j,a,rfl⟩:=aa6.1 b;obtain⟨w,d,_,_,_,c⟩:=h.2.2 j a;exact(PI h.up.nodup h.2.1 (aac a)).1 c
def Right.of{vs:List Int}{tab:List Nat}(f:vs.length<=4)(b:tab.length=2^vs.length)(c:Up vs)(d:∀ v∈vs,0<=v/\v<34)(hd:∀ v∈vs,dep (c_ vs tab) v):Right vs tab:=by refine⟨f,b,fun j a=>⟨vs[j],aac a,(d _ (aaw a)).1,(d _ (aaw a)).2,?_,(PI c.nodup b (aac a)).2 (hd _ (aaw a))⟩⟩;intro u g e;rw[aac an] at e;cases e;exact aa9.1 c _ _ _ _ an
def zu6{vs:List Int}{tab:List Nat}{v:Int}(a:v∉vs):¬dep (c_ vs tab) v:=by rintro⟨p,b⟩;refine b ?_;simp only[c_];rw[Lv (p:=p) (q:=flip p v) fun u c=>?_];have:u≠v:=fun e=>a (e▸c);simp[flip,this]
def zBi{vs a:List Int}{tab c:List Nat}(h:Right vs tab)(d:Right a c)(f:∀ p,c_ vs tab p=c_ a c p):vs=a/\tab=c:=by
 have g:c_ vs tab=c_ a c:=funext f
 have b:vs=a:=zxT h.up d.up fun v=>by
  constructor
  ·intro b;have:=h.Lw b;rw[g] at this;exact Decidable.byContradiction fun e=>zu6 e this
  ·intro b;have:=d.Lw b;rw[<-g] at this;exact Decidable.byContradiction fun e=>zu6 e this
 subst b;refine⟨rfl,ab9 (by rw[h.2.1,d.2.1]) fun n i j=>?_⟩;have:=f (h_ vs n);simp only[c_] at this;rw[Vs h.up.nodup (by rw[<-h.2.1];exact i)] at this;simpa[aak,aac i,aac j] using this
def oM(tab:List Nat)(j:Nat):List Nat:=((aaB tab.length).filter fun n=>!n.testBit j).map fun n=>tab.getD n 0
def ins(j m:Nat):Nat:=2^(j+1)*(m/2^j)+m%2^j
def PJ(j m i:Nat):(ins j m).testBit i=if i<j then m.testBit i else if i=j then false else m.testBit (i-1):=by
 have b:m%2^j<2^(j+1):=aaD (aaI _ (aba j)) (aah (by decide) an);rw[ins,aay _ b]
 by_cases h:i<j
 ·rw[if_pos an,if_pos h,abf];simp[h]
 ·rw[if_neg h]
  by_cases a:i=j
  ·subst a;rw[if_pos an,if_pos rfl,abf];simp
  ·rw[if_neg an,if_neg a,abg]
   congr 1;omega
def zDS{j k m:Nat}(b:j<=k)(a:m<2^k):ins j m<2^(k+1):=by
 refine abD _ fun i hi=>?_;rw[PJ,if_neg an];split
 ·rfl
 ·exact aaA (aaD a (aah (by decide) an))
def zzP{j a b:Nat}(h:a<b):ins j a<ins j b:=by
 have f:a/2^j<=b/2^j:=Nat.div_le_div_right (Nat.le_of_lt h);have d:=aca a (2^j);have g:=aca b (2^j);have i:=aaI a (aba j);have k:=aaI b (aba j);simp only[ins,abd]
 rcases abF (a/2^j) (b/2^j) with c|c
 ·have:2^j*(a/2^j+1)<=2^j*(b/2^j):=Nat.mul_le_mul_left _ c
  have l:2^j*2*(a/2^j)=2*(2^j*(a/2^j)):=by rw[aaR (2^j) 2,abR]
  have m:2^j*2*(b/2^j)=2*(2^j*(b/2^j)):=by rw[aaR (2^j) 2,abR]
  rw[Nat.mul_add] at this;omega
 ·have e:a/2^j=b/2^j:=an
  rw[e] at d |-;omega
def zzQ{j n:Nat}(h:n.testBit j=false):∃ m,ins j m=n/\(∀ k,j<=k->n<2^(k+1)->m<2^k):=by
 refine⟨2^j*(n/2^(j+1))+n%2^j,?_,?_⟩
 ·refine aaG fun i=>?_;have a:n%2^j<2^j:=aaI _ (aba j);rw[PJ,aay _ a,aay _ a]
  by_cases b:i<j
  ·rw[if_pos b,if_pos b,abf];simp[b]
  ·rw[if_neg b]
   by_cases c:i=j
   ·subst c;simp[h]
   ·rw[if_neg c,if_neg an,abg]
    congr 1;omega
 ·intro k e d;have a:n%2^j<2^j:=aaI _ (aba j);refine abD _ fun i hi=>?_;rw[aay _ a,if_neg an,abg];exact aaA (aaD d (aah (by decide) an))
def zxV:∀{a b:List Nat},a.Pairwise (·<·)->b.Pairwise (·<·)->(∀ v,v∈a↔v∈b)->a=b
 | [],[],_,_,_=>rfl
 | [],y::b,_,_,h=>absurd ((h y).2 ir) ir
 | x::a,[],_,_,h=>absurd ((h x).1 ir) ir
 | x::a,y::b,g,i,h=>by
  have d:=aam.1 g;have f:=aam.1 i
  have j:x=y:=by
   rcases aai.1 ((h x).1 ir) with e|e
   ·exact e
   rcases aai.1 ((h y).2 ir) with e'|e'
   ·exact e'.symm
   have:=f.1 x e;have:=d.1 y e';omega
  subst j;rw[zxV d.2 f.2 fun v=>?_];constructor
  ·intro c;have k:=d.1 v c
   rcases aai.1 ((h v).1 (by simp[c])) with e|e
   ·omega
   ·exact e
  ·intro c;have k:=f.1 v c
   rcases aai.1 ((h v).2 (by simp[c])) with e|e
   ·omega
   ·exact e
def zxW{k j:Nat}(b:j<=k):((aaB (2^(k+1))).filter fun n=>!n.testBit j)=(aaB (2^k)).map (ins j):=by
 refine zxV (List.Pairwise.filter _ abM) ?_ fun n=>?_
 ·rw[List.pairwise_map];exact abM.imp fun h=>zzP h
 ·simp only[List.mem_filter,aa4,abm,Bool.not_eq_true'];constructor
  ·rintro⟨c,d⟩;obtain⟨m,a,e⟩:=zzQ d;exact⟨m,e k b c,a⟩
  ·rintro⟨m,a,rfl⟩;refine⟨zDS b a,?_⟩;rw[PJ,if_neg an,if_pos rfl]
def zzR{tab:List Nat}{k j:Nat}(a:tab.length=2^(k+1))(b:j<=k):(oM tab j).length=2^k:=by rw[oM,a,zxW b];simp
def zzS{tab:List Nat}{k j m:Nat}(a:tab.length=2^(k+1))(b:j<=k)(c:m<2^k):(oM tab j).getD m 0=tab.getD (ins j m) 0:=by rw[oM,a,zxW b];simp[aak,c]
def zCa{vs:List Int}{tab:List Nat}(h:vs.Nodup)(d:tab.length=2^vs.length){j:Nat}(f:j<vs.length)(g:yr tab j=false)(p:Int->Bool) :
  c_ (vs.eraseIdx j) (oM tab j) p=c_ vs tab p:=by
 obtain⟨k,o⟩:∃ k,vs.length=k+1:=⟨vs.length-1,an⟩
 have a:(vs.eraseIdx j).length=k:=by rw[abB f];omega
 have r:idx (vs.eraseIdx j) p<2^k:=by have:=DX (vs.eraseIdx j) p;rwa[a] at this
 have l:vs[j]?=some vs[j]:=aac f
 have s:¬dep (c_ vs tab) vs[j]:=fun hd=>by rw[(PI h d l).2 hd] at g;cases g
 have b:ins j (idx (vs.eraseIdx j) p)=idx vs (fun u=>if u=vs[j] then false else p u):=by
  refine aaG fun i=>?_;rw[PJ,DY,DY,DY,abN,abN]
  by_cases c:i<j
  ·rw[if_pos c,if_pos c];rw[aac an]
   have:vs[i]≠vs[j]:=fun e=>by have:=Vq h e;omega
   simp[this]
  ·rw[if_neg c]
   by_cases m:i=j
   ·subst m;rw[if_pos rfl,l];simp
   ·rw[if_neg m,if_neg an,show i-1+1=i by omega]
    by_cases t:i<vs.length
    ·rw[aac t]
     have:vs[i]≠vs[j]:=fun e=>by have:=Vq h e;omega
     simp[this]
    ·rw[aav an];simp
 simp only[c_];rw[zzS (by rw[d,o]) an r,b];show c_ vs tab _=c_ vs tab p
 by_cases n:p vs[j]=false
 ·simp only[c_];rw[Lv (q:=p)];intro u _
  by_cases e:u=vs[j]
  ·simp[e,n]
  ·simp[e]
 ·have:c_ vs tab p=c_ vs tab (flip p vs[j]):=Decidable.byContradiction fun e=>s ⟨p,e⟩;rw[this];simp only[c_];rw[Lv (q:=flip p vs[j])];intro u _
  by_cases e:u=vs[j]
  ·simp only[flip,e,if_true];cases v:p vs[j]
   ·exact absurd v n
   ·rfl
  ·simp[flip,e]
def gK(f:Nat->Bool):Nat->Nat
 | 0=>0
 | k+1=>gK f k+2^k*(f k).toNat
def uV(f:Nat->Bool):∀ k,gK f k<2^k
 | 0=>by simp[gK]
 | k+1=>by
  have:=uV f k;simp only[gK,abd]
  cases f k<;>simp<;>omega
def C8(f:Nat->Bool)(i:Nat):∀ k,(gK f k).testBit i=(decide (i<k)&&f i)
 | 0=>by simp[gK]
 | k+1=>by
  rw[gK,aa3,aay _ (uV f k)]
  by_cases h:i<k
  ·rw[if_pos h,C8 f i k];simp[h,show i<k+1 by omega]
  ·rw[if_neg h]
   by_cases a:i=k
   ·subst a;simp
    cases f i<;>simp
   ·have b:¬i<k+1:=an
    simp only[b,decide_false,acd];have:(f k).toNat<2^(i-k):=aaD (by cases f k<;>simp:(f k).toNat<2^1) (aah (by decide) an);exact aaA this
def val(vs:List Int)(tab:List Nat)(r:Int->Nat):Nat:=gK (fun i=>(c_ vs tab fun v=>(r v).testBit i).testBit i) 32
def AV(k:Nat):Nat:=if k<16 then 2^(k+2) else 0
def ztd[cS G](k:Nat):FP G 166 [.int .u32 (k:Int)] (.int .u32 (AV k:Nat)):=by
 refine bF cS.afI (aaa rfl) ?_;simp
 by_cases h:16<=k
 ·simp[show(16:Int)<=(k:Int) from an,AV,show¬k<16 from an]
 ·have b:k<16:=an
  have c:iH .u32 4 (k:Int)=((4*2^k%4294967296:Nat):Int):=J2 (a:=4) an
  have d:4*2^k%4294967296=2^(k+2):=by
   rw[abk]
   ·rw[Nat.pow_add,aaR]
   ·have:2^k<=2^15:=aah (by decide) an;omega
  simp(disch:=omega)[C6,jN,c,d,AV,b,-aag]
def vn(op:Int):Bool:=(cH op).2.1||decide (op∈[29,45,61,77])
def zu7{op:Int}(h:(cH op).2.2=true):op∈[4,20,36,52,68,84,100,116,164,12,28,44,60,76,92,108,124,172]:=by
 unfold cH at h;split at h
 ·rename_i a;simp only[aai,aaV,or_false] at a |-;omega
 ·split at h
  ·rename_i a;simp only[aai,aaV,or_false] at a |-;omega
  ·cases h
def zDT[aB G][cS G](x:af):FP G 167 [IV x] (.bool (vn x.op)):=by
 refine bF cS.afJ (aaa rfl) ?_;have c:=Hx (G:=G) x;simp[IV,af.cs] at c |-;refine ax c ?_;unfold vn;cases h:(cH x.op).2.2
 ·have f:(cH x.op).2.1=false:=by
   unfold cH at h |-;split at h
   ·cases h
   ·split at h
    ·cases h
    ·rename_i a b;rw[if_neg a,if_neg b]
  simp[f]
  by_cases a:x.op=29
  ·simp[a]
  by_cases b:x.op=45
  ·simp[b]
  by_cases d:x.op=61
  ·simp[d]
  by_cases e:x.op=77
  ·simp[e]
  simp[a,b,d,e,aM]
 ·have a:=zu7 h
  have b:∀ p∈[4,20,36,52,68,84,100,116,164,12,28,44,60,76,92,108,124,172],decide (p∈[29,45,61,(77:Int)])=false:=by decide
  simp;have:=b _ a;simp at this;simp[this]
def oA(x:af)(part:Nat):Bool :=
 if part=0 then(cH x.op).2.2||br x.op||decide (x.op∈[2,7,132,22])
 else if part=1 then vn x.op||decide (x.op∈[3,135])
 else decide ((x.op=96\/x.op=97)/\x.k+2=part)
def qp(x:af)(part:Nat):Bool :=
 if part=0 then(cH x.op).2.2||decide (x.op∈[0,32,96,135,132])
 else if part=1 then decide (x.op∈[1,97,7])
 else decide ((x.op=2\/x.op=3)/\x.k+2=part)
def C_(x:af):Nat:=gK (oA x) 18
def By(x:af):Nat:=gK (qp x) 18
def zu8{f:Nat->Bool}{m:Nat}(h:∀ i,i<18->m.testBit i=f i)(a:m<2^18):gK f 18=m:=by
 refine aaG fun i=>?_;rw[C8]
 by_cases hi:i<18
 ·simp[hi,h i hi]
 ·simp only[hi,decide_false,acd];exact(aaA (aaD a (aah (by decide) an))).symm
def zzT(k:Nat):AV k<2^18:=by
 unfold AV;split
 ·have:2^(k+2)<=2^17:=aah (by decide) an;omega
 ·decide
def zxX(k i:Nat)(hi:i<18):(AV k).testBit i=decide (k+2=i):=by
 unfold AV;split
 ·rw[abu]
 ·simp;omega
def Vu(m i:Nat)(a:m<4):m.testBit i=if i=0 then decide (m%2=1) else if i=1 then decide (2<=m) else false:=by
 match m,a with
 | 0,_=>simp
 | 1,_ => 
  match i with
  | 0=>rfl
  | i+1=>simp[abj]
 | 2,_ =>
  match i with
  | 0=>rfl
  | 1=>rfl
  | i+2=>simp[abj]
 | 3,_ =>
  match i with
  | 0=>rfl
  | 1=>rfl
  | i+2=>simp[abj]
def Gh{f:Nat->Bool}{m:Nat}(c:m<4)(d:f 0=decide (m%2=1))(e:f 1=decide (2<=m))(g:∀ i,2<=i->i<18->f i=false):gK f 18=m:=by
 refine zu8 (fun i hi=>?_) an;rw[Vu m i c]
 by_cases a:i=0
 ·subst a;simp[d]
 ·by_cases b:i=1
  ·subst b;simp[e]
  ·simp[a,b,g i an hi]
def zrj{f:Nat->Bool}{k:Nat}(c:f 0=false)(d:f 1=false)(e:∀ i,2<=i->i<18->f i=decide (k+2=i)):gK f 18=AV k:=by
 refine zu8 (fun i hi=>?_) (zzT k);rw[zxX k i hi]
 by_cases a:i=0
 ·subst a;simp[c]
 ·by_cases b:i=1
  ·subst b;simp[d]
  ·rw[e i an hi]
def zIe{op:Int}(h:(cH op).2.1=true):(cH op).2.2=true:=by
 unfold cH at h |-;split
 ·rfl
 ·split
  ·rfl
  ·rename_i a b;rw[if_neg a,if_neg b] at h;cases h
def zCb[aB G][cS G](x:af):FP G 168 [IV x] (.int .u32 (C_ x:Nat)):=by
 refine bF cS.afK (aaa rfl) ?_;have s:=Hx (G:=G) x;have t:=zDT (G:=G) x;have u:=yg (G:=G) x;simp[IV,af.cs] at s t u |-;refine ax s ?_
 have r:(x.op=96\/x.op=97)->(cH x.op).2.2=false/\vn x.op=false/\br x.op=false:=by rintro(h|h)<;>rw[h]<;>decide
 have A:(x.op=3\/x.op=135)->(cH x.op).2.2=false/\vn x.op=false/\br x.op=false:=by rintro(h|h)<;>rw[h]<;>decide
 by_cases d:x.op=96\/x.op=97
 ·have a:=r d
  have f:C_ x=AV x.k:=zrj
   (by rcases d with h|h<;>(have a:=a;rw[h] at a;simp[oA,a.1,a.2.2,h])) (by rcases d with h|h<;>(have a:=a;rw[h] at a;simp[oA,a.2.1,h]))
   (fun i l B=>by simp[oA,show¬i=0 from an,show¬i=1 from an,d])
  rcases d with h|h<;>simp[h,aM]<;>refine ax (ztd x.k) ?_<;>simp[f]
 have g:¬x.op=96:=fun h=>d (.inl h);have j:¬x.op=97:=fun h=>d (.inr h)
 have hi:∀ i,2<=i->i<18->oA x i=false:=fun i l B=>by simp[oA,show¬i=0 from an,show¬i=1 from an,g,j]
 by_cases e:x.op=3\/x.op=135
 ·have a:=A e;have f:C_ x=2:=Gh (by decide) (by rcases e with h|h<;>(have a:=a;rw[h] at a;simp[oA,a.1,a.2.2,h])) (by rcases e with h|h<;>simp[oA,h]) hi
  rcases e with h|h<;>simp[h,aM,f]
 have v:¬x.op=3:=fun h=>e (.inl h);have w:¬x.op=135:=fun h=>e (.inr h);simp[g,j,v,w,aM];refine ax t ?_;cases hb:vn x.op
 case true =>
  have m:oA x 0=true:=by
   simp only[vn,Bool.or_eq_true,decide_eq_true_eq] at hb
   rcases hb with hb|hb
   ·simp[oA,zIe hb]
   ·have:br x.op=true:=by simp only[br,decide_eq_true_eq];simp only[aai,aaV,or_false] at hb |-;omega
    simp[oA,this]
  have f:C_ x=3:=Gh (by decide) (by rw[m];rfl) (by simp[oA,hb]) hi;simp[f]
 have l:oA x 1=false:=by simp[oA,hb,v,w]
 have c:∀ b:Bool,oA x 0=b->C_ x=b.toNat:=by
  intro b m;cases b
  ·exact Gh (by decide) (by rw[m];rfl) (by rw[l];rfl) hi
  ·exact Gh (by decide) (by rw[m];rfl) (by rw[l];rfl) hi
 cases y:(cH x.op).2.2
 case true=>simp[c true (by simp[oA,y])]
 simp;refine ax u ?_;cases z:br x.op
 case true=>simp[c true (by simp[oA,z])]
 by_cases n:x.op=2
 ·simp[n,c true (by simp[oA,n])]
 by_cases o:x.op=7
 ·simp[o,c true (by simp[oA,o])]
 by_cases p:x.op=132
 ·simp[p,c true (by simp[oA,p])]
 by_cases q:x.op=22
 ·simp[q,c true (by simp[oA,q])]
 simp[n,o,p,q,aM,c false (by simp[oA,y,z,n,o,p,q])]
def zCc[aB G][cS G](x:af):FP G 169 [IV x] (.int .u32 (By x:Nat)):=by
 refine bF cS.afL (aaa rfl) ?_;have z:=Hx (G:=G) x;simp[IV,af.cs] at z |-;refine ax z ?_
 have l:∀(j:qp x 0=true) (c:qp x 1=false) (d:¬x.op=2) (e:¬x.op=3),By x=1:=fun j c d e =>
  Gh (by decide) (by rw[j];rfl) (by rw[c];rfl) fun i a b=>by simp[qp,show¬i=0 from an,show¬i=1 from an,d,e]
 cases w:(cH x.op).2.2
 case true =>
  have A:=zu7 w
  have f:∀ p∈[4,20,36,52,68,84,100,116,164,12,28,44,60,76,92,108,124,(172:Int)],decide (p∈[1,97,(7:Int)])=false/\¬p=2/\¬p=3:=by decide
  have k:=f _ A;have:By x=1:=l (by simp[qp,w]) (by simp only[qp];simp;simpa using k.1) k.2.1 k.2.2;simp[this]
 simp
 have AW:∀ p∈[0,32,96,135,(132:Int)],x.op=p->By x=1:=by
  intro p m B
  have f:∀ p∈[0,32,96,135,(132:Int)],decide (p∈[1,97,(7:Int)])=false/\¬p=2/\¬p=3:=by decide
  have k:=f p m;rw[<-B] at k m;exact l (by simp only[qp];simp at m |-;simp[m]) (by simp only[qp];simp;simpa using k.1) k.2.1 k.2.2
 by_cases n:x.op=0
 ·simp[n,AW 0 (by decide) n]
 by_cases o:x.op=32
 ·simp[o,AW 32 (by decide) o]
 by_cases q:x.op=96
 ·simp[q,AW 96 (by decide) q]
 by_cases r:x.op=135
 ·simp[r,AW 135 (by decide) r]
 by_cases s:x.op=132
 ·simp[s,AW 132 (by decide) s]
 have j:qp x 0=false:=by simp[qp,w,n,o,q,r,s]
 have two:∀(c:qp x 1=true) (d:¬x.op=2) (e:¬x.op=3),By x=2:=fun c d e =>
  Gh (by decide) (by rw[j];rfl) (by rw[c];rfl) fun i a b=>by simp[qp,show¬i=0 from an,show¬i=1 from an,d,e]
 by_cases t:x.op=1
 ·simp[t,aM,two (by simp[qp,t]) an an]
 by_cases u:x.op=97
 ·simp[u,aM,two (by simp[qp,u]) an an]
 by_cases v:x.op=7
 ·simp[v,aM,two (by simp[qp,v]) an an]
 have c:qp x 1=false:=by simp[qp,t,u,v]
 by_cases g:x.op=2\/x.op=3
 ·have y:By x=AV x.k:=zrj j c (fun i a b=>by simp[qp,show¬i=0 from an,show¬i=1 from an,g])
  rcases g with h|h<;>simp[h,aM]<;>refine ax (ztd x.k) ?_<;>simp[y]
 ·have d:¬x.op=2:=fun h=>g (.inl h);have e:¬x.op=3:=fun h=>g (.inr h)
  have y:By x=0:=Gh (by decide) (by rw[j];rfl) (by rw[c];rfl) fun i a b=>by simp[qp,show¬i=0 from an,show¬i=1 from an,d,e]
  simp[n,o,q,r,s,t,u,v,d,e,aM,y]
def FV(vars:List Int)(tab:List Nat):V:=.agg [.vs (ints .i64 vars) .no,.vs (aj .u32 tab) .no]
def Vw(h:bw G)(vars:List Int)(tab:List Nat)(j:Nat)(s:j<10)(d:tab.length<=100)(c:∀ n,n<tab.length->n ^^^ 2^j<tab.length) :
  FP G 100 [FV vars tab,.int .i64 j] (.bool (yr tab j)):=by
 refine bF h.acW (aaa rfl) ?_;simp[FV]
 refine aP tab.length (fun n=>[(1,.int .i64 j),(2,.ptr 0 0),(8,.int .i64 tab.length),(9,.int .i64 n)])
  (fun _=>[some (.cells [.vs (ints .i64 vars) .no,.vs (aj .u32 tab) .no])]) (fun n=>∀ m,m<n->tab[m]?=tab[m ^^^ 2^j]?) ?_ ?_
 ·simp[aq,ai]
 intro n t e
 by_cases a:n<tab.length
 ·have f:tab[n]?=some tab[n]:=aac a;have g:tab[n ^^^ 2^j]?=some (tab[n ^^^ 2^j]'(c n a)):=aac (c n a);have i:2^j<2^63:=aaH (by decide) an;have k:iH .i64 1 (j:Int)=((2^j:Nat):Int):=ud an;have l:tL .i64 (n:Int) ((2^j:Nat):Int)=((n ^^^ 2^j:Nat):Int):=zH9 an i
  have o:¬(j:Int)<0:=an
  have p:aD .i64 (n:Int) 1=((n+1:Nat):Int):=Vb a an;simp[a,k,l,o,c n a,-aag,-aab];rw[UO];split
  ·rename_i b;simp at b;simp only[zHW,zzG,zH3,Ws];simp[yr];exact⟨n,a,by rw[f,g];simpa using b⟩
  ·rename_i b;simp at b;simp[a,p,aq,ai,-aab];intro m u
   by_cases q:m=n
   ·subst q;rw[f,g,b]
   ·exact e m an
 ·have r:n=tab.length:=an
  subst r;simp[yr];exact e
def Vx{vars:List Int}{tab:List Nat}(h:vars.length<=4)(b:tab.length=2^vars.length){j:Nat}(c:j<vars.length):∀ n,n<tab.length->n ^^^ 2^j<tab.length:=by intro n a;rw[b] at a |-;exact aaX a (aaH (by decide) c)
def Ay{vars:List Int}{tab:List Nat}(h:vars.length<=4)(a:tab.length=2^vars.length):tab.length<=16:=by rw[a];exact aah (by decide) h
def wD(l:bw G)(vars:List Int)(tab:List Nat)(a:vars.length<=9223372036854775807)(A:tab.length<=9223372036854775807):FP G 101 [FV vars tab] (.bool (r8 vars tab)):=by
 refine bF l.acX (aaa rfl) ?_;simp[FV]
 by_cases e:vars.length<=4
 ·by_cases b:tab.length=2^vars.length
  ·have B:=Ay e b;simp(disch:=omega)[jN,ud,b,-aag]
   refine aP vars.length (fun n=>[(1,.ptr 0 0),(20,.vs (ints .i64 vars) .no),(21,.int .i64 vars.length),(22,.int .i64 n)])
    (fun _=>[some (.cells [.vs (ints .i64 vars) .no,.vs (aj .u32 tab) .no])]) (fun n=>∀ m,m<n->zS vars tab m) ?_ ?_
   ·simp[aq,ai]
   intro n C o
   by_cases c:n<vars.length
   ·have f:¬zS vars tab n->r8 vars tab=false:=fun h=>by simp only[r8,decide_eq_false_iff_not];exact fun s=>h (s.2.2 n c)
    have t:zS vars tab n->∀ m,m<n+1->zS vars tab m:=fun h m D=>by
     by_cases w:m=n
     ·subst w;exact h
     ·exact o m an
    have g:vars[n]?=some vars[n]:=aac c
    by_cases E:vars[n]<0
    ·simp(disch:=omega)[na,bC];exact f (by rintro⟨v,a,k,_⟩;rw[g] at a;cases a;omega)
    by_cases p:vars[n]<34
    ·by_cases hd:0<n
     ·have q:vars[n-1]?=some vars[n-1]:=aac an
      by_cases r:vars[n-1]<vars[n]
      ·simp(disch:=omega)[na,C6,bC,jN,fF,Rw,-aab];refine ax (Vw l vars tab n an an (Vx e b c)) ?_
       cases i:yr tab n<;>simp(disch:=omega)[c,aq,ai,bE,-aab]
       ·exact f (by rintro⟨v,a,k,_,_,j⟩;rw[i] at j;cases j)
       ·exact t ⟨_,g,an,p,fun u _ d=>by rw[q] at d;cases d;exact r,i⟩
      ·simp(disch:=omega)[na,C6,bC,jN,fF,Rw,-aab];exact f (by rintro⟨v,a,k,_,d,_⟩;rw[g] at a;cases a;exact r (d _ hd q))
     ·have x:n=0:=an
      subst x;simp(disch:=omega)[C6,jN,fF,-aab];refine ax (Vw l vars tab 0 an an (Vx e b c)) ?_
      cases i:yr tab 0<;>simp(disch:=omega)[c,aq,ai,dW]
      ·exact f (by rintro⟨v,a,k,_,_,j⟩;rw[i] at j;cases j)
      ·exact⟨_,g,an,p,fun u d=>absurd d an,i⟩
    ·simp(disch:=omega)[na,bC,jN];exact f (by rintro⟨v,a,k,_⟩;rw[g] at a;cases a;omega)
   ·have y:n=vars.length:=an
    subst y
    have:r8 vars tab=true:=by simp only[r8,decide_eq_true_eq];exact⟨e,b,o⟩
    simp[this]
  ·have z:¬((tab.length:Int)=((2^vars.length:Nat):Int)):=by simp only[Int.ofNat_inj];exact b
   simp(disch:=omega)[jN,ud,jM z,-aag];simp[r8,Right,b]
 ·simp(disch:=omega)[bC];simp[r8,Right,e]
def fL(kind:Int)(a b:Nat):Nat×Bool :=
 if kind=4 then((a+b)%4294967296,true) else if kind=20 then((a+4294967296-b)%4294967296,true) else if kind=36 then(a*b%4294967296,true)
 else if kind=52 then(if b=0 then(0,false) else(a/b,true)) else if kind=68 then(a ||| b,true) else if kind=84 then(a &&& b,true)
 else if kind=100 then(a*2^(b%32)%4294967296,true) else if kind=116 then(a/2^(b%32),true) else if kind=164 then(a ^^^ b,true) else(0,false)
def C7(n:Int):IntKind.u32.wrap n=n%4294967296:=rfl
def HF(g:dK G)(kind:Int)(a b:Nat)(d:a<4294967296)(c:b<4294967296) :
  FP G 107 [.int .i64 kind,.int .u32 a,.int .u32 b] (.bc [.int .u32 ((fL kind a b).1:Nat),.bool (fL kind a b).2]):=by
 refine bF g.acV (aaa rfl) ?_;simp
 by_cases h:kind=4
 ·subst h;simp[fL];simp[aD,C7]
 by_cases h:kind=20
 ·subst h;simp[fL];simp[cM,C7];omega
 by_cases h:kind=36
 ·subst h;simp[fL];simp[eI,C7]
 by_cases h:kind=52
 ·subst h
  by_cases e:b=0
  ·subst e;simp[fL]
  ·simp(disch:=omega)[fL,e,aM];simp[RV d e]
 by_cases h:kind=68
 ·subst h;simp[fL];exact wY d c
 by_cases h:kind=84
 ·subst h;simp[fL];exact Ln d c
 by_cases h:kind=100
 ·subst h
  have f:b%32<=32:=an
  simp(disch:=omega)[fL,zBg c,J2 f,jN,-aao]
 by_cases h:kind=116
 ·subst h
  have f:b%32<=32:=an
  simp(disch:=omega)[fL,zBg c,yT f,jN,-aao]
 by_cases h:kind=164
 ·subst h;simp[fL];exact Va d c
 simp(disch:=omega)[fL,aM, *]
def ztf(a:bw G)(c:Nat):FP G 102 [.int .u32 (c:Int)] (FV [] [c]):=by refine bF a.acY (aaa rfl) ?_;simp[FV,aj]
def zDU(a:bw G)(i:Int):FP G 103 [.int .i64 i] (if 0<=i/\i<34 then .bc [FV [i] [0,4294967295],.int .i64 0] else .bc [FV [] [],.int .i64 1]):=by
 refine bF a.acZ (aaa rfl) ?_
 by_cases b:i<0
 ·simp(disch:=omega)[FV,aj,ints,C6,bC]
 ·by_cases c:i<34
  ·simp(disch:=omega)[FV,aj,ints,na,C6,bC,jN]
  ·simp(disch:=omega)[FV,aj,ints,na,jN]
def LA(h:bw G)(a b:List Int)(i:a.length+b.length<=1000) :
  FP G 104 [.vs (ints .i64 a) .no,.vs (ints .i64 b) .no] (.vs (ints .i64 (eF a b)) .no):=by
 refine bF h.ac0 (aaa rfl) ?_;simp
 refine uW (fun s:List Int×List Int×List Int=>s.2.1.length+s.2.2.length)
  (fun s=>[(0,.vs (ints .i64 s.2.1) .no),(1,.vs (ints .i64 s.2.2) .no),(5,.vs (ints .i64 s.1) (.own 0))]) (fun s=>[some (.zone s.1.length)])
  (fun s=>s.1++eF s.2.1 s.2.2=eF a b/\s.1.length+s.2.1.length+s.2.2.length<=1000) ([],a,b) ?_ ?_
 ·simp[aq,ai,i]
 rintro⟨d,x,y⟩ ⟨c,e⟩;simp only at c e
 cases x with
 | nil =>
  cases y with
  | nil=>simp[eF] at c;simp[dW,c]
  | cons v y =>
   simp only[aaC,abo] at e;simp(disch:=omega)[dW,bC,az,B_,aM,re,na];refine⟨(d++[v],[],y),?_⟩;simp[eF] at c;simp[c,aq,ai,eF]
   omega
 | cons u x =>
  cases y with
  | nil =>
   simp only[aaC,abo] at e;simp(disch:=omega)[dW,bC,az,B_,re,na];refine⟨(d++[u],x,[]),?_⟩;simp[zu2] at c;simp[c,aq,ai,zu2]
   omega
  | cons v y =>
   simp only[aaC] at e;rw[eF] at c
   by_cases f:u<v
   ·simp(disch:=omega)[dW,bC,az,B_,aM,re,na];refine⟨(d++[u],x,v::y),?_⟩;simp[f] at c;simp[c,aq,ai,B_];omega
   ·by_cases g:v<u
    ·simp(disch:=omega)[dW,bC,jN,az,B_,aM,re,na];refine⟨(d++[v],u::x,y),?_⟩;simp[f,g] at c;simp[c,aq,ai,B_];omega
    ·simp(disch:=omega)[dW,bC,jN,az,B_,aM,re,na];refine⟨(d++[u],x,y),?_⟩;simp[f,g] at c;simp[c,aq,ai];omega
def zxY{k j b:Nat}(a:k<2^j)(c:b<=1):k ||| b*2^j=k+2^j*b:=by rw[aaR b,ab7,<-aa5 a];omega
def zV(n i:Nat):n/2^i%2=(n.testBit i).toNat:=by
 rw[Nat.testBit_eq_decide_div_mod_eq]
 rcases Nat.mod_two_eq_zero_or_one (n/2^i) with h|h<;>simp[h]
def p9{b:Nat}(c:b<9223372036854775808):jg .i64 (b:Int) 1=((b%2:Nat):Int):=by have:=zIa (a:=b) (b:=1) c (by decide);rw[show((1:Nat):Int)=1 from rfl] at this;rw[this,show(1:Nat)=2^1-1 from rfl,abp]
def PL(m:bw G)(a:List Int)(tab:List Nat)(vs:List Int)(n:Nat)(x:tab.length=2^a.length)(k:a.Sublist vs)(o:vs.Nodup)(y:vs.length<=30)(z:n<2^31) :
  FP G 105 [FV a tab,.vs (ints .i64 vs) .no,.int .i64 n] (.int .u32 (c_ a tab (h_ vs n):Nat)):=by
 have A:=k.length_le;refine bF m.ac1 (aaa rfl) ?_;simp[FV]
 refine uW (fun s:Nat×Nat=>vs.length-s.1)
  (fun s=>[(2,.int .i64 n),(3,.ptr 0 0),(7,.int .i64 (idx (a.take s.2) (h_ vs n):Nat)),(8,.int .i64 s.2),(11,.vs (ints .i64 vs) .no),(12,.int .i64 vs.length),(13,.int .i64 s.1)])
  (fun _=>[some (.cells [.vs (ints .i64 a) .no,.vs (aj .u32 tab) .no])]) (fun s=>s.1<=vs.length/\s.2<=a.length/\(a.drop s.2).Sublist (vs.drop s.1)) (0,0) ?_ ?_
 ·simp[aq,ai,k,idx]
 rintro⟨i,j⟩ ⟨hi,f,b⟩;simp only at hi f b
 by_cases p:i<vs.length
 ·have c:vs.drop i=vs[i]::vs.drop (i+1):=abb p
  by_cases e:j<a.length
  ·have g:a.drop j=a[j]::a.drop (j+1):=abb e
   by_cases d:a[j]=vs[i]
   ·have q:idx (a.take j) (h_ vs n)<2^j:=by have:=DX (a.take j) (h_ vs n);rwa[aas,abq f] at this
    have t:2^j<=2^30:=aah (by decide) an;have u:n/2^i<9223372036854775808:=aax (aaz _ _) an
    have l:n/2^i%2<=1:=an
    have B:n/2^i%2*2^j<=1*2^j:=abQ _ l
    have v:idx (a.take (j+1)) (h_ vs n)=idx (a.take j) (h_ vs n) ||| n/2^i%2*2^j:=by rw[zxY q l,aaT,Vr,aac e,aas,abq f,zV];simp only[abV,idx,h_,d,List.Nodup.idxOf_getElem o,acf,acg]
    simp(disch:=omega)[bC,d,yq,p9 u,PD,Gf,bE,jN,-aab,-aaJ,-aag,-aao,-aap];refine⟨(i+1,j+1),?_⟩;simp[aq,ai,v,-aab]
    and_intros<;>first|omega|skip
    rw[g,c,d] at b;exact List.cons_sublist_cons.1 b
   ·simp(disch:=omega)[bC,bE,aM d,-aab];refine⟨(i+1,j),?_⟩;simp[aq,ai,-aab]
    and_intros<;>first|omega|skip
    rw[g,c] at b;rw[g]
    rcases List.sublist_cons_iff.1 b with h|⟨r,w,_⟩
    ·exact h
    ·exact absurd (List.cons.inj w).1 d
  ·simp(disch:=omega)[bC,jN,bE,-aab];refine⟨(i+1,j),?_⟩;simp[aq,ai,-aab]
   and_intros<;>first|omega|skip
   rw[aaQ (as:=a) an];exact ab8 _
 ·have e:j=a.length:=by rw[aaQ (as:=vs) an] at b;have:=abr.1 (List.sublist_nil.1 b);omega
  subst e;have:=DX a (h_ vs n);simp(disch:=omega)[jN,c_,aak]
def fY(H:ae):Prop:=∀ m,H.length<=m->H.map (aaY (aw.cl m))=H
def LB{H:ae}(h:fY H)(r:ae)(n:Nat):ai (H.length+n) (H++r)=H++(r.take n).map (aaY (aw.cl (H.length+n))):=by
 unfold ai;rw[List.take_append,abJ]
 congr 1
 ·rw[aal an];exact h _ an
 ·congr 2;omega
def s7{ro:Bool}{f:Nat}{args:List V}{r:V}{H H1:ae}{K:List Kt}{e:Env}{Q:Ex->Env->ae->Prop}{base:Nat}{d:Option Nat}{os:List aC}(h:bp G (.F f args H r H1))(a:ro=true->base<=H.length/\H1.take H.length=H)
  (b:WO G base os K (e.put d r) H1 Q):zBd G ro f args base d os K e H Q:=⟨r,H1,h,a,b⟩
def wW(a:Nat):Nat:=(4294967296-a)%4294967296
def RM(kind:Int){a b:Nat}(d:a<4294967296)(c:b<4294967296):(fL kind a b).1<4294967296:=by
 have e:=ab4 (n:=32) d c;have f:=abW (n:=32) a c;have g:=aaX (n:=32) d c;have h:a/b<=a:=aaz _ _;have i:a/2^(b%32)<=a:=aaz _ _;unfold fL
 repeat' split
 all_goals first
  | (simp only;omega)
  | (simp only;exact aaI _ (by decide))
def l8(l:List Bool):List (List V):=l.map fun b=>[.bool b]
@[simp] theorem zDV (l:List Bool):(l8 l).length=l.length:=by simp[l8]
@[simp] theorem zIO (l:List Bool) (i:Nat):(l8 l)[i]?=(l[i]?).map fun b=>[.bool b]:=by simp[l8]
@[simp] theorem zIP:l8 []=[]:=rfl
@[simp] theorem zIf (l:List Bool) (x:Bool):l8 l++[[.bool x]]=l8 (l++[x]):=by simp[l8]
@[simp] theorem zI7 (l:List Bool):(∀ f∈l8 l,f.length=1)=True:=by simp only[eq_iff_iff,iff_true];intro f a;simp only[l8,abm] at a;obtain⟨x,_,rfl⟩:=a;rfl
def jj(tab:List Nat)(j n:Nat):List Nat:=((aaB n).filter fun n=>!n.testBit j).map fun n=>tab.getD n 0
def PM(tab:List Nat)(j n:Nat):(jj tab j n).length<=n:=by have:=List.length_filter_le (fun n=>!n.testBit j) (aaB n);simp[jj] at this |-;exact this
def PN{tab:List Nat}{j n:Nat}(h:n.testBit j=false):jj tab j (n+1)=jj tab j n++[tab.getD n 0]:=by simp[jj,abc,abX,h]
def PO{tab:List Nat}{j n:Nat}(h:n.testBit j=true):jj tab j (n+1)=jj tab j n:=by simp[jj,abc,abX,h]
def zzU(P:bw G)(vs:List Int)(tab:List Nat)(U:tab.length=2^vs.length)(h4:vs.length<=4)(z:vs.Nodup) :
  ∃ c g,FP G 106 [FV vs tab] (FV c g)/\c.Sublist vs/\g.length=2^c.length/\(∀ p,c_ c g p=c_ vs tab p)/\∀ v∈c,dep (c_ c g) v:=by
 suffices h:∃ r,FP G 106 [FV vs tab] r/\∃ c g,r=FV c g/\c.Sublist vs/\g.length=2^c.length/\(∀ p,c_ c g p=c_ vs tab p)/\∀ v∈c,dep (c_ c g) v by
  obtain⟨r,W,c,g,rfl,A⟩:=h;exact⟨c,g,W,A⟩
 refine Hv P.ac2 (aaa rfl) ?_;simp[FV]
 refine uW (fun s:List Int×Tk×List Nat×Nat=>s.1.length*100+(50-s.2.2.2))
  (fun s=>[(1,.ptr 0 0),(2,.ptr 1 0),(3,.int .i64 s.2.2.2)])
  (fun s=>[some (.cells [.vs (ints .i64 s.1) s.2.1,.vs (aj .u32 s.2.2.1) .no]),some (.cells [.vs [] .full,.vs [] .full])])
  (fun s=>s.1.Sublist vs/\(s.2.1=.no\/s.2.1=.full)/\s.2.2.1.length=2^s.1.length/\(∀ p,c_ s.1 s.2.2.1 p=c_ vs tab p)/\s.2.2.2<=s.1.length/\∀ m,m<s.2.2.2->yr s.2.2.1 m=true)
  (vs,.no,tab,0) ?_ ?_
 ·simp[aq,ai,U]
 rintro⟨a,tk,tb,j⟩ ⟨y,B,q,D,X,L⟩;simp only at y B q D X L;have wu:=y.length_le;have Q:a.Nodup:=z.sublist y
 have h2:tb.length<=16:=by rw[q,show 16=2^4 from rfl];exact aah (by decide) an
 by_cases E:j<a.length
 ·simp(disch:=omega)[bC]
  have mS:V.nf (V.cl 0 (.agg [.vs (ints .i64 a) tk,.vs (aj .u32 tb) .no]))=FV a tb:=by rcases B with rfl|rfl<;>simp[FV]
  refine ax (Vw P a tb j an an (Vx an q E)) ?_;cases R:yr tb j
  case true =>
   simp(disch:=omega)[bE,-aab];refine⟨(a,tk,tb,j+1),?_⟩
   have Y:∀ m,m<j+1->yr tb m=true:=fun m hm=>by
    by_cases e:m=j
    ·subst e;exact R
    ·exact L m an
   rcases B with rfl|rfl<;>(simp[aq,ai,y,q,D,-aab];exact⟨an,an,Y⟩)
  case false =>
   have f:∀ n,Tk.cl n tk=tk:=fun n=>by rcases B with rfl|rfl<;>rfl
   have Z:a≠[]:=fun e=>by simp[e] at E
   have S:(a.drop (j+1)).take (a.length-(j+1))=a.drop (j+1):=by rw[aal];simp
   have t:a.eraseIdx j=a.take j++a.drop (j+1):=List.eraseIdx_eq_take_drop_succ a j;obtain⟨k,hk⟩:∃ k,a.length=k+1:=⟨a.length-1,an⟩
   have ha:(a.take j++a.drop (j+1)).length=k:=by rw[<-t,abB E];omega
   have F:(oM tb j).length=2^k:=zzR (by rw[q,hk]) an
   have H:∀ p,c_ (a.take j++a.drop (j+1)) (oM tb j) p=c_ vs tab p:=fun p=>by rw[<-t,zCa Q q E R,D]
   have I:(a.take j++a.drop (j+1)).Sublist vs:=by rw[<-t];exact(List.eraseIdx_sublist a j).trans y
   have J:min j a.length+(a.length-(j+1))=k:=an
   have K:jj tb j tb.length=oM tb j:=rfl
   by_cases T:j=0
   ·have C:a.take j=[]:=by rw[T];rfl
    by_cases xa:a.length=j+1
    ·have o:a.drop (j+1)=[]:=aaQ an;simp(disch:=omega)[re,na,PE,az,PC,Ca,o,-aab]
     refine aP tb.length (fun n=>[(1,.ptr 0 0),(2,.ptr 1 0),(3,.int .i64 j),(4,.ptr 2 0),(32,.int .i64 tb.length),(33,.int .i64 n)])
      (fun n=>[some (.cells [.vs (ints .i64 a) tk,.vs (aj .u32 tb) .no]),some (.cells [.vs [] .full,.vs [] .full]),some (.cells [.vs (ints .i64 (a.take j++a.drop (j+1))) .full,.vs (aj .u32 (jj tb j n)) (.own 5)]),none,none,some (.zone (jj tb j n).length)])
      (fun _=>True) ?_ ?_
     ·simp[aq,ai,jj,f,C,o]
     intro n z _
     by_cases d:n<tb.length
     ·have M:=PM tb j n;have l:n/2^j<9223372036854775808:=aax (aaz _ _) an;cases b:n.testBit j
      ·have u:n/2^j%2=0:=by rw[zV,b];rfl
       have N:tb.getD n 0=tb[n]:=by simp[aak,d]
       simp(disch:=omega)[bC,jN,yq,p9 l,u,az,bE,aq,ai,d,PN b,f,-aab,-aap,-aao]
      ·have w:n/2^j%2=1:=by rw[zV,b];rfl
       simp(disch:=omega)[bC,jN,yq,p9 l,w,bE,aq,ai,d,PO b,f,-aab,-aap,-aao]
     ·have x:n=tb.length:=an
      subst x;simp(disch:=omega)[dW];refine⟨(a.eraseIdx j,.full,oM tb j,0),?_⟩;simp[aq,ai,t,K,F,H,I,J];omega
    ·have o:a.drop (j+1)≠[]:=fun e=>by have:=abr.1 e;omega
     simp(disch:=omega)[re,na,PE,az,U9,PC,U8,Ca,S,o,-aab]
     refine aP tb.length (fun n=>[(1,.ptr 0 0),(2,.ptr 1 0),(3,.int .i64 j),(4,.ptr 2 0),(32,.int .i64 tb.length),(33,.int .i64 n)])
      (fun n=>[some (.cells [.vs (ints .i64 a) tk,.vs (aj .u32 tb) .no]),some (.cells [.vs [] .full,.vs [] .full]),some (.cells [.vs (ints .i64 (a.take j++a.drop (j+1))) (.own 4),.vs (aj .u32 (jj tb j n)) (.own 5)]),none,some (.zone (a.length-(j+1))),some (.zone (jj tb j n).length)])
      (fun _=>True) ?_ ?_
     ·simp[aq,ai,jj,f,C]
     intro n z _
     by_cases d:n<tb.length
     ·have M:=PM tb j n;have l:n/2^j<9223372036854775808:=aax (aaz _ _) an;cases b:n.testBit j
      ·have u:n/2^j%2=0:=by rw[zV,b];rfl
       have N:tb.getD n 0=tb[n]:=by simp[aak,d]
       simp(disch:=omega)[bC,jN,yq,p9 l,u,az,bE,aq,ai,d,PN b,f,-aab,-aap,-aao]
      ·have w:n/2^j%2=1:=by rw[zV,b];rfl
       simp(disch:=omega)[bC,jN,yq,p9 l,w,bE,aq,ai,d,PO b,f,-aab,-aap,-aao]
     ·have x:n=tb.length:=an
      subst x;simp(disch:=omega)[dW];refine⟨(a.eraseIdx j,.no,oM tb j,0),?_⟩;simp[aq,ai,t,K,F,H,I,J];omega
   ·have C:a.take j≠[]:=fun e=>by rcases List.take_eq_nil_iff.1 e with h|h;exact T h;exact Z h
    by_cases xa:a.length=j+1
    ·have o:a.drop (j+1)=[]:=aaQ an;simp(disch:=omega)[re,na,PE,az,U9,PC,U8,Ca,C,o,-aab]
     refine aP tb.length (fun n=>[(1,.ptr 0 0),(2,.ptr 1 0),(3,.int .i64 j),(4,.ptr 2 0),(32,.int .i64 tb.length),(33,.int .i64 n)])
      (fun n=>[some (.cells [.vs (ints .i64 a) tk,.vs (aj .u32 tb) .no]),some (.cells [.vs [] .full,.vs [] .full]),some (.cells [.vs (ints .i64 (a.take j++a.drop (j+1))) (.own 3),.vs (aj .u32 (jj tb j n)) (.own 5)]),some (.zone j),none,some (.zone (jj tb j n).length)])
      (fun _=>True) ?_ ?_
     ·simp[aq,ai,jj,f,o]
     intro n z _
     by_cases d:n<tb.length
     ·have M:=PM tb j n;have l:n/2^j<9223372036854775808:=aax (aaz _ _) an;cases b:n.testBit j
      ·have u:n/2^j%2=0:=by rw[zV,b];rfl
       have N:tb.getD n 0=tb[n]:=by simp[aak,d]
       simp(disch:=omega)[bC,jN,yq,p9 l,u,az,bE,aq,ai,d,PN b,f,-aab,-aap,-aao]
      ·have w:n/2^j%2=1:=by rw[zV,b];rfl
       simp(disch:=omega)[bC,jN,yq,p9 l,w,bE,aq,ai,d,PO b,f,-aab,-aap,-aao]
     ·have x:n=tb.length:=an
      subst x;simp(disch:=omega)[dW];refine⟨(a.eraseIdx j,.no,oM tb j,0),?_⟩;simp[aq,ai,t,K,F,H,I,J];omega
    ·have o:a.drop (j+1)≠[]:=fun e=>by have:=abr.1 e;omega
     simp(disch:=omega)[re,na,PE,az,U9,PC,U8,zuj,Ca,S,C,o,-aab]
     refine aP tb.length (fun n=>[(1,.ptr 0 0),(2,.ptr 1 0),(3,.int .i64 j),(4,.ptr 2 0),(32,.int .i64 tb.length),(33,.int .i64 n)])
      (fun n=>[some (.cells [.vs (ints .i64 a) tk,.vs (aj .u32 tb) .no]),some (.cells [.vs [] .full,.vs [] .full]),some (.cells [.vs (ints .i64 (a.take j++a.drop (j+1))) (.own 3),.vs (aj .u32 (jj tb j n)) (.own 5)]),some (.zone (j+(a.length-(j+1)))),none,some (.zone (jj tb j n).length)])
      (fun _=>True) ?_ ?_
     ·simp[aq,ai,jj,f]
     intro n z _
     by_cases d:n<tb.length
     ·have M:=PM tb j n;have l:n/2^j<9223372036854775808:=aax (aaz _ _) an;cases b:n.testBit j
      ·have u:n/2^j%2=0:=by rw[zV,b];rfl
       have N:tb.getD n 0=tb[n]:=by simp[aak,d]
       simp(disch:=omega)[bC,jN,yq,p9 l,u,az,bE,aq,ai,d,PN b,f,-aab,-aap,-aao]
      ·have w:n/2^j%2=1:=by rw[zV,b];rfl
       simp(disch:=omega)[bC,jN,yq,p9 l,w,bE,aq,ai,d,PO b,f,-aab,-aap,-aao]
     ·have x:n=tb.length:=an
      subst x;simp(disch:=omega)[dW];refine⟨(a.eraseIdx j,.no,oM tb j,0),?_⟩;simp[aq,ai,t,K,F,H,I,J];omega
 ·have O:j=a.length:=an
  subst O;simp(disch:=omega);refine⟨a,tb,?_⟩
  have hd:∀ v∈a,dep (c_ a tb) v:=fun v hv=>by
   obtain⟨i,hi,rfl⟩:=aa6.1 hv;exact(PI Q q (aac hi)).1 (L i hi)
  rcases B with rfl|rfl<;>simp[y,q,D]<;>exact hd
def PQ{vs:List Int}{tab:List Nat}(h:∀ w∈tab,w<4294967296)(p:Int->Bool):c_ vs tab p<4294967296:=by
 simp only[c_,aak]
 cases a:tab[idx vs p]? with
 | none=>simp
 | some w=>exact h w (aaK a)
def VA(d:bw G)(kind:Int)(a gv vs:List Int)(b c:List Nat)(h i j:Option aw)(x:V)(n:Nat)
  (k:b.length=2^a.length) (l:c.length=2^gv.length) (m:∀ w∈b,w<4294967296) (o:∀ w∈c,w<4294967296)
  (p:a.Sublist vs) (q:gv.Sublist vs) (e:vs.Nodup) (f:vs.length<=30) (g:n<2^31)
  (H:ae) (r:H=[some (.cells [.int .i64 kind]),some (.cells [.vs (ints .i64 a) .no,.vs (aj .u32 b) .no]),some (.cells [.vs (ints .i64 gv) .no,.vs (aj .u32 c) .no]),h,some (.cells [.vs (ints .i64 vs) .no,x]),i,j]) :
  bp G (.F 108 [.int .i64 n,.ptr 0 0,.ptr 1 0,.ptr 4 0,.ptr 2 0] H (.int .u32 ((fL kind (c_ a b (h_ vs n)) (c_ gv c (h_ vs n))).1:Nat)) H):=by
 subst r;refine eB d.ac3 (aaa rfl) ?_;simp;refine ax (PL d a b vs n k p e f g) ?_;simp;refine ax (PL d gv c vs n l q e f g) ?_;simp;refine ax (HF d.todK kind _ _ (PQ m _) (PQ o _)) ?_;simp
def ny(kind:Int)(a gv:List Int)(b c:List Nat):Prop:=(kind=68\/kind=84\/kind=164)/\Right a b/\Right gv c/\(eF a gv).length<=4
def zDW{kind:Int}{a b:Nat}(h:kind=68\/kind=84\/kind=164)(d:a<4294967296)(c:b<4294967296):(fL kind a b).1<4294967296:=by
 rcases h with rfl|rfl|rfl<;>simp[fL]
 ·exact ab4 (n:=32) d c
 ·exact abW (n:=32) _ c
 ·exact aaX (n:=32) d c
def zBj(f:bw G)(kind:Int)(a gv:List Int)(c d:List Nat)(u:a.length<=9223372036854775807)(z:gv.length<=9223372036854775807)(x:c.length<=9223372036854775807)(A:d.length<=9223372036854775807)
  (E:∀ w∈c,w<4294967296) (F:∀ w∈d,w<4294967296) :
  ∃ r,FP G 109 [.int .i64 kind,FV a c,FV gv d] r /\
   ((¬ny kind a gv c d/\r=.bc [FV [] [],.bool false]) \/
    (ny kind a gv c d/\∃ vs tab,r=.bc [FV vs tab,.bool true]/\Right vs tab/\(∀ w∈tab,w<4294967296)/\∀ p,c_ vs tab p=(fL kind (c_ a c p) (c_ gv d p)).1)):=by
 refine Hv f.ac4 (aaa rfl) ?_;simp[FV]
 by_cases g:kind=68\/kind=84\/kind=164
 case neg =>
  have S:kind≠68:=fun e=>g (.inl e);have T:kind≠84:=fun e=>g (.inr (.inl e));have U:kind≠164:=fun e=>g (.inr (.inr e));simp[S,T,U,jM,ny]
 have W:∀ b:Bool,r8 a c=b->True:=fun _ _=>trivial;cases i:r8 a c
 ·have L:¬Right a c:=fun h=>by rw[DW.2 h] at i;cases i
  rcases g with rfl|rfl|rfl<;>(simp;refine ax (wD f a c u x) ?_;simp[i,ny,L])
 cases k:r8 gv d
 ·have L:¬Right gv d:=fun h=>by rw[DW.2 h] at k;cases k
  rcases g with rfl|rfl|rfl<;>(simp;refine ax (wD f a c u x) ?_;simp[i];refine ax (wD f gv d z A) ?_;simp[k,ny,L])
 have l:=DW.1 i;have m:=DW.1 k;have rH:=zu3 a gv;have X:=l.1;have Y:=m.1
 by_cases B:(eF a gv).length<=4
 case neg =>
  rcases g with rfl|rfl|rfl<;>(simp;refine ax (wD f a c u x) ?_;simp[i];refine ax (wD f gv d z A) ?_;simp[k];refine ax (LA f a gv an) ?_;simp(disch:=omega)[bC,ny,B])
 have H:=zxU a gv l.up m.up;have I:=H.nodup;have M:a.Sublist (eF a gv):=IT l.up H fun v j=>(zT _ _).2 (.inl j);have N:gv.Sublist (eF a gv):=IT m.up H fun v j=>(zT _ _).2 (.inr j);have Z:ny kind a gv c d:=⟨g,l,m,B⟩
 have D0:2^(eF a gv).length<=16:=by rw[show 16=2^4 from rfl];exact aah (by decide) B
 obtain⟨o,q,O,P,Q,xM,VC⟩:=zzU f (eF a gv) ((aaB (2^(eF a gv).length)).map fun n=>(fL kind (c_ a c (h_ (eF a gv) n)) (c_ gv d (h_ (eF a gv) n))).1) ir B I
 have C:∀ p,c_ o q p=(fL kind (c_ a c p) (c_ gv d p)).1:=fun p=>by
  rw[xM];have s:=DX (eF a gv) p;have e1:c_ a c (h_ (eF a gv) (idx (eF a gv) p))=c_ a c p:=zu5 fun v j=>zu4 ((zT _ _).2 (.inl j)) p;have e2:c_ gv d (h_ (eF a gv) (idx (eF a gv) p))=c_ gv d p:=zu5 fun v j=>zu4 ((zT _ _).2 (.inr j)) p;rw[c_];simp[aak,s,e1,e2]
 have R:Up o:=H.sublist P
 have J:Right o q:=by
  refine Right.of (Nat.le_trans P.length_le B) Q R (fun v j=>?_) VC
  rcases(zT _ _).1 (P.subset j) with h|h
  ·exact l.mem h
  ·exact m.mem h
 have y:∀ w∈q,w<4294967296:=fun w y=>by
  obtain⟨n,K,rfl⟩:=aa6.1 y;rw[zB9 R.nodup Q K,C];exact zDW g (PQ E _) (PQ F _)
 have t:ny kind a gv c d/\∃ vs tab,V.bc [FV o q,.bool true]=.bc [FV vs tab,.bool true]/\Right vs tab/\(∀ w∈tab,w<4294967296)/\∀ p,c_ vs tab p=(fL kind (c_ a c p) (c_ gv d p)).1 :=
  ⟨Z,o,q,rfl,J,y,C⟩
 rcases g with rfl|rfl|rfl
 ·simp;refine ax (wD f a c u x) ?_;simp[i];refine ax (wD f gv d z A) ?_;simp[k];refine ax (LA f a gv an) ?_;simp(disch:=omega)[jN,ud,-aag]
  refine aP (2^(eF a gv).length) (fun n=>[(6,.ptr 3 0),(8,.ptr 4 0),(9,.fn 108 [.ptr 0 0,.ptr 1 0,.ptr 4 0,.ptr 2 0]),(47,.int .i64 (2^(eF a gv).length:Nat)),(48,.int .i64 n)])
   (fun n=>[some (.cells [.int .i64 68]),some (.cells [.vs (ints .i64 a) .no,.vs (aj .u32 c) .no]),some (.cells [.vs (ints .i64 gv) .no,.vs (aj .u32 d) .no]),some (.cells [.vs [] .full,.vs [] .full]),
    some (.cells [.vs (ints .i64 (eF a gv)) .no,.vs (aj .u32 ((aaB n).map fun n=>(fL 68 (c_ a c (h_ (eF a gv) n)) (c_ gv d (h_ (eF a gv) n))).1)) (.own 5)]),some (.zone n)])
   (fun _=>True) ?_ ?_
  ·simp[aq,ai,-aag]
  intro n K _
  by_cases s:n<2^(eF a gv).length
  ·simp(disch:=omega)[bC,-aag,-aab];refine jL (VA f 68 a gv (eF a gv) c d _ _ _ _ n l.2.1 m.2.1 E F M N I an an _ rfl) (by simp[ai]) ?_;simp(disch:=omega)[az,bE,ai,aq,s,abc,-aag,-aab]
  ·have D:n=2^(eF a gv).length:=an
   subst D;simp(disch:=omega)[-aag];refine ax O ?_;simp[FV];exact⟨t.1,o,q,⟨rfl,rfl⟩,J,y,C⟩
 ·simp;refine ax (wD f a c u x) ?_;simp[i];refine ax (wD f gv d z A) ?_;simp[k];refine ax (LA f a gv an) ?_;simp(disch:=omega)[jN,ud,-aag]
  refine aP (2^(eF a gv).length) (fun n=>[(6,.ptr 3 0),(8,.ptr 4 0),(9,.fn 108 [.ptr 0 0,.ptr 1 0,.ptr 4 0,.ptr 2 0]),(47,.int .i64 (2^(eF a gv).length:Nat)),(48,.int .i64 n)])
   (fun n=>[some (.cells [.int .i64 84]),some (.cells [.vs (ints .i64 a) .no,.vs (aj .u32 c) .no]),some (.cells [.vs (ints .i64 gv) .no,.vs (aj .u32 d) .no]),some (.cells [.vs [] .full,.vs [] .full]),
    some (.cells [.vs (ints .i64 (eF a gv)) .no,.vs (aj .u32 ((aaB n).map fun n=>(fL 84 (c_ a c (h_ (eF a gv) n)) (c_ gv d (h_ (eF a gv) n))).1)) (.own 5)]),some (.zone n)])
   (fun _=>True) ?_ ?_
  ·simp[aq,ai,-aag]
  intro n K _
  by_cases s:n<2^(eF a gv).length
  ·simp(disch:=omega)[bC,-aag,-aab];refine jL (VA f 84 a gv (eF a gv) c d _ _ _ _ n l.2.1 m.2.1 E F M N I an an _ rfl) (by simp[ai]) ?_;simp(disch:=omega)[az,bE,ai,aq,s,abc,-aag,-aab]
  ·have D:n=2^(eF a gv).length:=an
   subst D;simp(disch:=omega)[-aag];refine ax O ?_;simp[FV];exact⟨t.1,o,q,⟨rfl,rfl⟩,J,y,C⟩
 ·simp;refine ax (wD f a c u x) ?_;simp[i];refine ax (wD f gv d z A) ?_;simp[k];refine ax (LA f a gv an) ?_;simp(disch:=omega)[jN,ud,-aag]
  refine aP (2^(eF a gv).length) (fun n=>[(6,.ptr 3 0),(8,.ptr 4 0),(9,.fn 108 [.ptr 0 0,.ptr 1 0,.ptr 4 0,.ptr 2 0]),(47,.int .i64 (2^(eF a gv).length:Nat)),(48,.int .i64 n)])
   (fun n=>[some (.cells [.int .i64 164]),some (.cells [.vs (ints .i64 a) .no,.vs (aj .u32 c) .no]),some (.cells [.vs (ints .i64 gv) .no,.vs (aj .u32 d) .no]),some (.cells [.vs [] .full,.vs [] .full]),
    some (.cells [.vs (ints .i64 (eF a gv)) .no,.vs (aj .u32 ((aaB n).map fun n=>(fL 164 (c_ a c (h_ (eF a gv) n)) (c_ gv d (h_ (eF a gv) n))).1)) (.own 5)]),some (.zone n)])
   (fun _=>True) ?_ ?_
  ·simp[aq,ai,-aag]
  intro n K _
  by_cases s:n<2^(eF a gv).length
  ·simp(disch:=omega)[bC,-aag,-aab];refine jL (VA f 164 a gv (eF a gv) c d _ _ _ _ n l.2.1 m.2.1 E F M N I an an _ rfl) (by simp[ai]) ?_;simp(disch:=omega)[az,bE,ai,aq,s,abc,-aag,-aab]
  ·have D:n=2^(eF a gv).length:=an
   subst D;simp(disch:=omega)[-aag];refine ax O ?_;simp[FV];exact⟨t.1,o,q,⟨rfl,rfl⟩,J,y,C⟩
def r9(r:List Nat):Int->Nat:=fun v=>r.getD v.toNat 0
def zCd(w i:Nat):w &&& 2^i=2^i*(w.testBit i).toNat:=by
 refine aaG fun j=>?_;rw[Nat.testBit_and,abu,Nat.testBit_two_pow_mul]
 by_cases h:i=j
 ·subst h;cases w.testBit i<;>simp
 ·by_cases a:i<=j
  ·have:(w.testBit i).toNat<2^(j-i):=aaD (by cases w.testBit i<;>simp:(w.testBit i).toNat<2^1) (aah (by decide) an);rw[aaA this];simp[h]
  ·simp[h,a]
def zBk{b:Nat}(c:b<4294967296):jg .u32 (b:Int) 1=((b%2:Nat):Int):=by have:=Ln (a:=b) (b:=1) c (by decide);rw[show((1:Nat):Int)=1 from rfl] at this;rw[this,show(1:Nat)=2^1-1 from rfl,abp]
def zDX{b:Nat}(a:b<9223372036854775808):fB .i64 (b:Int)=(b:Int):=EH a
def zIg{i:Nat}(hi:i<32):iH .u32 1 (i:Int)=((2^i:Nat):Int):=by have:=J2 (a:=1) (j:=i) an;rw[ack,abk (show 2^i<4294967296 from aaH (a:=2) (n:=32) (by decide) hi)] at this;exact this
def zup{f:Nat->Bool}{i:Nat}(w:Nat)(h:f i=w.testBit i):gK f i ||| (w &&& 2^i)=gK f (i+1):=by rw[zCd,gK,h,ab7,<-aa5 (uV f i)];omega
def zCe(k:il G)(vs:List Int)(tab:List Nat)(r:List Nat)(m:vs.length<=9223372036854775807)(o:tab.length<=9223372036854775807)
  (p:∀ w∈tab,w<4294967296) (D:r.length=34) (q:∀ w∈r,w<4294967296) :
  FP G 110 [FV vs tab,.agg (av .u32 r)] (.bc [.int .u32 (if r8 vs tab then(val vs tab (r9 r):Nat) else(0:Nat)),.bool (r8 vs tab)]):=by
 have s:bw G:=k.tobw;refine bF k.ac5 (aaa rfl) ?_;simp[FV];refine ax (wD s vs tab m o) ?_;cases t:r8 vs tab
 ·simp
 have R:=DW.1 t;have E:=R.1;simp
 refine aP 32 (fun i=>[(2,.ptr 0 0),(3,.ptr 1 0),(6,.int .u32 (gK (fun i=>(c_ vs tab fun v=>(r9 r v).testBit i).testBit i) i:Nat)),(14,.int .i64 i)])
  (fun _=>[some (.cells [.vs (ints .i64 vs) .no,.vs (aj .u32 tab) .no]),some (.cells (av .u32 r))]) (fun _=>True) ?_ ?_
 ·simp[aq,ai,gK]
 intro i hi _
 by_cases c:i<32
 ·simp(disch:=omega)[bC,-aab]
  refine aP vs.length (fun j=>[(2,.ptr 0 0),(3,.ptr 1 0),(6,.int .u32 (gK (fun i=>(c_ vs tab fun v=>(r9 r v).testBit i).testBit i) i:Nat)),(7,.int .i64 i),(8,.int .i64 (idx (vs.take j) (fun v=>(r9 r v).testBit i):Nat)),(14,.int .i64 i),(18,.vs (ints .i64 vs) .no),(19,.int .i64 vs.length),(20,.int .i64 j)])
   (fun _=>[some (.cells [.vs (ints .i64 vs) .no,.vs (aj .u32 tab) .no]),some (.cells (av .u32 r))]) (fun _=>True) ?_ ?_
  ·simp[aq,ai,idx]
  intro j F _
  by_cases d:j<vs.length
  ·have H:=R.mem (aaw d)
   have e:vs[j].toNat<r.length:=an
   have u:=q6 .u32 r vs[j].toNat e;have g:=q _ (aaw e);have hd:r[vs[j].toNat]/2^i<4294967296:=aax (aaz _ _) g
   have b:idx (vs.take j) (fun v=>(r9 r v).testBit i)<2^j:=by have:=DX (vs.take j) (fun v=>(r9 r v).testBit i);rwa[aas,abq an] at this
   have x:2^j<=2^30:=aah (by decide) an
   have l:r[vs[j].toNat]/2^i%2<=1:=an
   have I:r[vs[j].toNat]/2^i%2*2^j<=1*2^j:=abQ _ l
   have y:idx (vs.take (j+1)) (fun v=>(r9 r v).testBit i)=idx (vs.take j) (fun v=>(r9 r v).testBit i) ||| r[vs[j].toNat]/2^i%2*2^j:=by
    rw[zxY b l,aaT,Vr,aac d,aas,abq an,zV]
    have:r9 r vs[j]=r[vs[j].toNat]:=by simp[r9,aak,e]
    simp only[abV,idx,this,acf,acg]
   simp(disch:=omega)[bC,jN,na,az,u,yT,zBk hd,zDX,PD,Gf,bE,aq,ai,d,y,-aab,-aaJ,-aag,-aao,-aap,-abz]
  ·have h:j=vs.length:=an
   subst h;have b:=DX vs (fun v=>(r9 r v).testBit i);rw[<-R.2.1] at b;have z:=p _ (aaw b);have A:2^i<4294967296:=aaH (a:=2) (n:=32) (by decide) c;have J:gK (fun i=>(c_ vs tab fun v=>(r9 r v).testBit i).testBit i) i<4294967296:=Nat.lt_trans (uV _ i) A;have K:tab[idx vs (fun v=>(r9 r v).testBit i)] &&& 2^i<4294967296:=aax Nat.and_le_left z
   have B:c_ vs tab (fun v=>(r9 r v).testBit i)=tab[idx vs (fun v=>(r9 r v).testBit i)]:=by simp[c_,aak,b]
   have C:=zup (f:=fun i=>(c_ vs tab fun v=>(r9 r v).testBit i).testBit i) (i:=i) (tab[idx vs (fun v=>(r9 r v).testBit i)]) (by simp only[B]);simp(disch:=omega)[jN,na,zIg c,Ln,wY,C,bE,aq,ai,c,-aab,-aag]
 ·have h:i=32:=an
  subst h;simp[val]
def ik(vs:List Int)(p:Int->Bool):List Nat:=(aaB 34).map fun(i:Nat)=>if(i:Int)∈vs/\p (i:Int)=true then 4294967295 else 0
def zzV(p:Int->Bool):ik [] p=aQ 34:=by simp[ik,aQ];rfl
def zxZ{vs:List Int}(f:vs.Nodup)(p:Int->Bool){j:Nat}(c:j<vs.length)(g:0<=vs[j]) :
  ik (vs.take (j+1)) p=(ik (vs.take j) p).set vs[j].toNat (if p vs[j] then 4294967295 else 0):=by
 refine ab9 (by simp[ik]) fun i h k=>?_;simp only[ik,List.getElem_map,List.getElem_range,List.getElem_set]
 have d:vs.take (j+1)=vs.take j++[vs[j]]:=by rw[aaT,aac c];rfl
 have a:((i:Int)∈vs.take (j+1))↔((i:Int)∈vs.take j\/(i:Int)=vs[j]):=by rw[d];simp only[abK,abY]
 by_cases e:vs[j].toNat=i
 ·rw[if_pos e]
  have:(i:Int)=vs[j]:=an
  have b:=a.2 (.inr this);rw[this] at b;simp only[this,b,true_and]
 ·rw[if_neg e]
  have:¬(i:Int)=vs[j]:=an
  simp only[a,this,or_false]
def LD(a gv:List Int)(b c:List Nat):Option Nat:=(aaB (2^(eF a gv).length)).find? fun n=>c_ a b (h_ (eF a gv) n) !=c_ gv c (h_ (eF a gv) n)
noncomputable def vZ(a gv:List Int)(b c:List Nat):List Nat×Bool :=
 if r8 a b=true/\r8 gv c=true then(match LD a gv b c with
  | some n=>(ik (eF a gv) (h_ (eF a gv) n),true)
  | none=>(aQ 34,false)) else(aQ 34,false)
def ztg(F:dM G)(a gv:List Int)(b c:List Nat)(N:a.length<=9223372036854775807)(O:gv.length<=9223372036854775807)(P:b.length<=9223372036854775807)(Q:c.length<=9223372036854775807)
  (xu:∀ w∈b,w<4294967296) (zW:∀ w∈c,w<4294967296) :
  FP G 112 [FV a b,FV gv c] (.bc [.agg (av .u32 (vZ a gv b c).1),.bool (vZ a gv b c).2]):=by
 have f:bw G:=F.tobw;refine bF F.ac6 (aaa rfl) ?_;simp[FV];refine ax (wD f a b N P) ?_;cases g:r8 a b
 ·simp[vZ,g]
 simp[-aae];refine ax (wD f gv c O Q) ?_;cases p:r8 gv c
 ·simp[vZ,g,p]
 have i:=DW.1 g;have k:=DW.1 p;have rH:=zu3 a gv;have R:=i.1;have S:=k.1;simp[-aae];refine ax (LA f a gv an) ?_;have t:=zxU a gv i.up k.up;have q:=t.nodup;have T:a.Sublist (eF a gv):=IT i.up t fun v l=>(zT _ _).2 (.inl l);have U:gv.Sublist (eF a gv):=IT k.up t fun v l=>(zT _ _).2 (.inr l)
 have W:2^(eF a gv).length<=256:=by rw[show 256=2^8 from rfl];exact aah (by decide) an
 have X:∀ v∈eF a gv,0<=v/\v<34:=fun v l=>by
  rcases(zT _ _).1 l with h|h
  ·exact i.mem h
  ·exact k.mem h
 generalize u:eF a gv=M at *;simp(disch:=omega)[jN,ud,-aag]
 refine aP (2^M.length) (fun n=>[(2,.ptr 0 0),(3,.ptr 1 0),(4,.ptr 2 0),(6,.ptr 3 0),(7,.vs (ints .i64 M) .no),(27,.int .i64 (2^M.length:Nat)),(28,.int .i64 n)])
  (fun n=>[some (.cells [.vs (ints .i64 a) .no,.vs (aj .u32 b) .no]),some (.cells [.vs (ints .i64 gv) .no,.vs (aj .u32 c) .no]),some (.cells (av .u32 (aQ 34))),some (.cells (av .u32 (aQ 34)))])
  (fun n=>∀ m,m<n->c_ a b (h_ M m)=c_ gv c (h_ M m)) ?_ ?_
 ·simp[aq,ai,-aag]
 intro n hn x
 by_cases H:n<2^M.length
 ·simp(disch:=omega)[bC,-aag,-aab];refine ax (PL f a b M n i.2.1 T q an an) ?_;simp[-aag,-aab];refine ax (PL f gv c M n k.2.1 U q an an) ?_
  by_cases y:c_ a b (h_ M n)=c_ gv c (h_ M n)
  ·simp(disch:=omega)[y,bE,aq,ai,H,-aag,-aab];intro m e
   by_cases Y:m=n
   ·subst Y;exact y
   ·exact x m an
  ·have z:LD a gv b c=some n:=by rw[LD,u,abG];exact⟨by simpa using y,by simpa using H,fun m e=>by simpa using x m e⟩
   have A:vZ a gv b c=(ik M (h_ M n),true):=by simp[vZ,g,p,z,u]
   simp(disch:=omega)[aM,-aag,-aab]
   refine aP M.length (fun j=>[(4,.ptr 2 0),(6,.ptr 3 0),(8,.int .i64 n),(40,.vs (ints .i64 M) .no),(41,.int .i64 M.length),(42,.int .i64 j)])
    (fun j=>[some (.cells [.vs (ints .i64 a) .no,.vs (aj .u32 b) .no]),some (.cells [.vs (ints .i64 gv) .no,.vs (aj .u32 c) .no]),some (.cells (av .u32 (aQ 34))),some (.cells (av .u32 (ik (M.take j) (h_ M n))))])
    (fun j=>True) ?_ ?_
   ·simp[aq,ai,zzV]
   intro j hj _
   by_cases r:j<M.length
   ·have e:=X _ (aaw r)
    have d:(ik (M.take j) (h_ M n)).length=34:=by simp[ik]
    have I:=vU .u32 (ik (M.take j) (h_ M n)) M[j].toNat;have J:n/2^j<9223372036854775808:=aax (aaz _ _) an;have o:=zxZ q (h_ M n) r e.1
    have Z:h_ M n M[j]=n.testBit j:=by simp only[h_];rw[List.Nodup.idxOf_getElem q]
    rw[Z] at o;have s:=zV n j;cases K:n.testBit j
    ·rw[K] at o s;have B:=I 0 an
     have C:eI .u32 4294967295 (fB .u32 0)=0:=by decide
     simp(disch:=omega)[bC,jN,na,yq,p9 J,s,bE,aq,ai,r,o,az,d,C,-aag,-aab,-aap,-aao];have D:aX 4 ((av .u32 (ik (M.take j) (h_ M n))).take M[j].toNat++V.int .u32 0::(av .u32 (ik (M.take j) (h_ M n))).drop (M[j].toNat+1))=av .u32 ((ik (M.take j) (h_ M n)).set M[j].toNat 0):=(congrArg (aX 4) B).trans (zs6 4 _ _);exact D
    ·rw[K] at o s;have B:=I 4294967295 an
     have C:eI .u32 4294967295 (fB .u32 1)=4294967295:=by decide
     simp(disch:=omega)[bC,jN,na,yq,p9 J,s,bE,aq,ai,r,o,az,d,C,-aag,-aab,-aap,-aao];have D:aX 4 ((av .u32 (ik (M.take j) (h_ M n))).take M[j].toNat++V.int .u32 4294967295::(av .u32 (ik (M.take j) (h_ M n))).drop (M[j].toNat+1))=av .u32 ((ik (M.take j) (h_ M n)).set M[j].toNat 4294967295):=(congrArg (aX 4) B).trans (zs6 4 _ _);exact D
   ·have E:j=M.length:=an
    subst E
    have L:(ik M (h_ M n)).length=34:=by simp[ik]
    simp(disch:=omega)[A,L,eG L]
 ·have E:n=2^M.length:=an
  subst E
  have z:LD a gv b c=none:=by
   rw[LD,u,List.find?_range_eq_none]
   exact fun m e=>by simpa using x m e
  have A:vZ a gv b c=(aQ 34,false):=by simp[vZ,g,p,z]
  simp(disch:=omega)[A,-aag]
def zx0{a b:Nat}(h:a*b<4294967296):eI .u32 (a:Int) (b:Int)=((a*b:Nat):Int):=by unfold eI;rw[<-aaJ];exact uB h
structure St where
 a:Nat
 x:Nat
 m:List Nat
 deriving DecidableEq
def St.cs(s:St):List V:=.int .u32 (s.a:Int)::.int .u32 (s.x:Int)::av .u32 s.m
def SV(s:St):V:=.agg s.cs
def St.ok(s:St):Prop:=s.a<4294967296/\s.x<4294967296/\s.m.length=16/\∀ w∈s.m,w<4294967296
structure Da where
 nr:Nat
 aG:Nat
 ip:Nat
 args:List Nat
def Da.cs(d:Da):List V:=.int .u32 (d.nr:Int)::.int .u32 (d.aG:Int)::.int .u64 (d.ip:Int)::av .u64 d.args
def DV(d:Da):V:=.agg d.cs
def Da.ok(d:Da):Prop:=d.nr<4294967296/\d.aG<4294967296/\d.ip<18446744073709551616/\d.args.length=6/\∀ w∈d.args,w<18446744073709551616
def zIh(a b:V)(l:List V)(n:Nat):(a::b::l).take (2+n)=a::b::l.take n:=by rw[aa3];rfl
def ZR(a:V)(l:List V)(n:Nat):(a::l).drop (2+n)=l.drop (n+1):=by rw[show 2+n=(n+1)+1 by omega];rfl
def rF(s:St)(x:af):Bool :=
 let b:=if x.op∈[29,45,61,77] then s.x else x.k
 if x.op=21\/x.op=29 then decide (s.a=b) else if x.op=37\/x.op=45 then decide (b<s.a) else if x.op=53\/x.op=61 then decide (b<=s.a) else if x.op=69\/x.op=77 then decide (s.a &&& b≠0) else false
def Fh{op:Int}(h:br op=true):op=21\/op=37\/op=53\/op=69\/op=29\/op=45\/op=61\/op=77:=by simpa[br] using h
def lo(v:Nat):Nat:=v%4294967296
def hi(v:Nat):Nat:=v/4294967296%4294967296
def j6(d:Da):List Nat:=[d.nr,d.aG,lo d.ip,hi d.ip]++d.args.flatMap fun a=>[lo a,hi a]
def zx1(l:List Nat):(l.flatMap fun a=>[lo a,hi a]).length=2*l.length:=by
 induction l with
 | nil=>rfl
 | cons a l b=>simp only[List.flatMap_cons,aaZ,b,aaC,abo];omega
def zrk:∀(l:List Nat) (i:Nat) (h:i<l.length),(l.flatMap fun a=>[lo a,hi a])[2*i]?=some (lo l[i])/\(l.flatMap fun a=>[lo a,hi a])[2*i+1]?=some (hi l[i])
 | [],i,h=>by simp at h
 | a::l,0,_=>by simp
 | a::l,i+1,h=>by
  have:=zrk l i (by simpa using h);rw[show 2*(i+1)=2*i+2 by omega,show 2*i+2+1=2*i+1+2 by omega];simpa using this
def yN{d:Da}(h:d.args.length=6):(j6 d).length=16:=by rw[j6,aaZ,zx1,h];rfl
def PR(v:Nat):lo v<4294967296:=aaI _ (by decide)
def LG(v:Nat):hi v<4294967296:=aaI _ (by decide)
def ZU{d:Da}(h:d.ok):∀ w∈j6 d,w<4294967296:=by
 intro w b;simp only[j6,abK,aai,aaV,or_false,List.mem_flatMap] at b
 rcases b with(rfl|rfl|rfl|rfl)|⟨a,_,rfl|rfl⟩
 ·exact h.1
 ·exact h.2.1
 ·exact PR _
 ·exact LG _
 ·exact PR _
 ·exact LG _
def zCf(v:Nat):fB .u32 (v:Int)=((lo v:Nat):Int):=rfl
def VG(v:Nat)(h:v<18446744073709551616):jh .u64 (v:Int) 32=((v/4294967296:Nat):Int):=by
 unfold jh
 have:(min (32:Int).toNat IntKind.u64.bits)=32:=by decide
 rw[this];change (v:Int).fdiv 4294967296=_;rw[Int.fdiv_eq_ediv_of_nonneg _ (by decide)];rfl
def zIi(v:Nat):lo (v/4294967296)=hi v:=rfl
def H4(cs:List V)(l:List Nat)(n:Nat):ae:=[some (.cells cs),some (.cells (av .u32 (aQ 16))),some (.cells (av .u32 l)),some (.cells [.int .i64 n])]
def VH[bJ G](cs:List V)(l:List Nat)(n v:Nat)(a:l.length=16)(m:n+1<16)(b:v<18446744073709551616) :
  bp G (.F 159 [.int .u64 v,.ptr 2 0,.ptr 3 0] (H4 cs l n) (.bc []) (H4 cs ((l.set n (lo v)).set (n+1) (hi v)) (n+2))):=by
 refine eB bJ.afF (aaa rfl) ?_;have c:=vU .u32 l n (lo v) an;have d:=vU .u32 (l.set n (lo v)) (n+1) (hi v) (by simp;omega);have e:aD .i64 (n:Int) 1=((n+1:Nat):Int):=bE an;have f:aD .i64 (n:Int) 2=((n+2:Nat):Int):=JQ (n:=2) an;have g:=VG v b;have h:((n:Int)<16)=True:=bC an;have i:(((n+1:Nat):Int)<16)=True:=bC an;have j:(n+1<=16)=True:=az an
 have o:(n+1+1<=16)=True:=az an;have k:(n<=14)=True:=az an;simp[H4,e,f,g,zCf,zIi,a,h,i,j,k,c,d,-aab,-aap]
def JP(v:Nat)(h:v<18446744073709551616):fB .u64 (v:Int)=(v:Int):=by unfold fB;exact IntWalk.u64_in _ ⟨an,an⟩
def zx2(a b:Nat)(e:a<4294967296)(f:b<4294967296):tj .u64 (a:Int) (iH .u64 (b:Int) 32)=((a+b*4294967296:Nat):Int):=by
 have c:iH .u64 (b:Int) 32=((b*4294967296:Nat):Int):=by
  unfold iH
  have:(min (32:Int).toNat IntKind.u64.bits)=32:=by decide
  rw[this];rw[show((b:Int)*2^32)=((b*4294967296:Nat):Int) by omega];exact IntWalk.u64_in _ ⟨an,an⟩
 rw[c];change IntKind.u64.wrap ((ach 64 (a:Int) ||| ach 64 ((b*4294967296:Nat):Int)).toNat:Int)=_;rw[qq,qq]
 have d:(aci 64 a ||| aci 64 (b*4294967296)).toNat=a+b*4294967296:=by rw[BitVec.toNat_or,abZ,abZ,abk an,abk an];have:=aa5 (i:=32) (b:=a) an b;rw[ab7,aaR,show(4294967296:Nat)=2^32 from rfl,<-this];omega
 rw[d];exact IntWalk.u64_in _ ⟨an,an⟩
def yu(d:Da)(i:Nat):List Nat:=(j6 d).take (4+2*i)++aQ (12-2*i)
def zrm{d:Da}(h:d.args.length=6){i:Nat}(hi:i<=6):(yu d i).length=16:=by simp[yu,yN h];omega
def zrn{d:Da}(h:d.args.length=6){i:Nat}(hi:i<=6)(j:Nat):(yu d i)[j]?=if j<4+2*i then(j6 d)[j]? else if j<16 then some 0 else none:=by
 have c:=yN h;rw[yu,List.getElem?_append,aas,c,aaE]
 by_cases a:j<4+2*i
 ·rw[if_pos an,if_pos a,if_pos a]
 ·rw[if_neg an,if_neg a]
  by_cases b:j<16
  ·rw[if_pos b];simp[aQ,abh];omega
  ·rw[if_neg b];simp[aQ,abh];omega
def zwn{d:Da}(h:d.args.length=6){i:Nat}(m:i<6):((yu d i).set (4+2*i) (lo d.args[i])).set (4+2*i+1) (hi d.args[i])=yu d (i+1):=by
 have f:=zrm h (show i<=6 by omega);have a:=zrk d.args i an
 have g:(j6 d)[4+2*i]?=some (lo d.args[i]):=by rw[j6,aan ir];simpa using a.1
 have k:(j6 d)[4+2*i+1]?=some (hi d.args[i]):=by rw[j6,aan (by simp;omega)];simpa[show 4+2*i+1-4=2*i+1 by omega] using a.2
 apply aa2;intro j;rw[zrn h an,aaU,aaU,abt,f,zrn h an]
 by_cases b:4+2*i+1=j
 ·subst b;rw[if_pos rfl,if_pos an,if_pos an,k]
 ·rw[if_neg b]
  by_cases c:4+2*i=j
  ·subst c;rw[if_pos rfl,if_pos an,if_pos an,g]
  ·rw[if_neg c]
   by_cases e:j<4+2*i
   ·rw[if_pos e,if_pos an]
   ·rw[if_neg e]
    by_cases l:j<4+2*(i+1)
    ·omega
    ·rw[if_neg l]
def zCg(d:Da)(h:d.args.length=6):((((aQ 16).set 0 d.nr).set 1 d.aG).set 2 (lo d.ip)).set 3 (hi d.ip)=yu d 0:=by have:aQ 16=0::0::0::0::aQ 12:=rfl;rw[this];simp[yu,j6]
def zCh(d:Da)(h:d.args.length=6):yu d 6=j6 d:=by simp only[yu,show 12-2*6=0 from rfl,aQ,List.replicate_zero,acb];exact aal (by rw[yN h];exact abv _)
def ztj[bJ G](d:Da)(hd:d.ok):FP G 160 [DV d] (.agg (av .u32 (j6 d))):=by
 obtain⟨e,f,g,a,h⟩:=hd;refine bF bJ.afG (aaa rfl) ?_;have o:=zx2 d.nr d.aG e f
 have j:lo (d.nr+d.aG*4294967296)=d.nr:=by unfold lo;omega
 have l:hi (d.nr+d.aG*4294967296)=d.aG:=by unfold hi;omega
 have p1:=VH (G:=G) d.cs (aQ 16) 0 (d.nr+d.aG*4294967296) ir (by decide) an;have p2:=VH (G:=G) d.cs (((aQ 16).set 0 d.nr).set 1 d.aG) 2 d.ip ir (by decide) g;rw[j,l] at p1;have m:=eG (k:=.u64) a;simp[H4,Da.cs,-aab,-aaJ] at p1 p2;simp(disch:=omega)[DV,Da.cs,JP,o,-aab,-aaJ];refine jL p1 ir ?_;simp[ai];refine jL p2 ir ?_;simp[ai,a,m]
 refine aP 6 (fun i=>[(2,.ptr 1 0),(3,.ptr 2 0),(5,.fn 159 [.ptr 2 0,.ptr 3 0]),(24,.agg (av .u64 d.args)),(25,.int .i64 i)])
  (fun i=>H4 d.cs (yu d i) (4+2*i)) (fun _=>True) ?_ ?_
 ·simp[aq,ai,H4,Da.cs,zCg d a]
 intro i hi _
 by_cases b:i<6
 ·have p3:=VH (G:=G) d.cs (yu d i) (4+2*i) d.args[i] (zrm a hi) an (h _ (aaw _));rw[zwn a b] at p3;have n:=q6 .u64 d.args i an;simp[H4,Da.cs,-aab,-aaJ] at p3;simp(disch:=omega)[bC,az,a,n,H4,Da.cs,-aab,-aaJ];refine jL p3 ir ?_;simp(disch:=omega)[ai,bE,b,aq,show 4+2*(i+1)=4+2*i+2 from an,-aab,-aaJ]
 ·have p:i=6:=an
  subst p;have c:=yN a;have q:=eG (k:=.u32) c;simp[H4,zCh d a,c,q]
def Bv(d:Da)(a:Nat):Nat×Bool:=if a%4=0/\a<64 then((j6 d).getD (a/4) 0,true) else(0,false)
def ztk[bJ G](n:Nat)(d:n<4294967296):FP G 158 [.int .u32 n] (.bool (decide (n%4=0/\n<64))):=by
 refine bF bJ.afE (aaa rfl) ?_;have a:oE (n:Int) 4=((n%4:Nat):Int):=E7 (b:=4)
 by_cases h:n%4=0
 ·have c:((n:Int)<64)=(n<64):=propext an;simp[a,h,c]
 ·have:((n%4:Nat):Int)≠0:=an
  simp[a,h,aM this,-aao]
def ZX[bJ G](d:Da)(n:Nat)(hd:d.ok)(a:n<4294967296):FP G 161 [DV d,.int .u32 n] (.bc [.int .u32 ((Bv d n).1:Nat),.bool (Bv d n).2]):=by
 refine bF bJ.afH (aaa rfl) ?_;have e:=ztj (G:=G) d hd;have g:=eG (k:=.u64) hd.2.2.2.1;have f:=hd.2.2.2.1;simp[DV,Da.cs] at e |-;refine ax (ztk n a) ?_
 by_cases h:n%4=0/\n<64
 ·have i:lY .u32 (n:Int) 4=((n/4:Nat):Int):=RV (b:=4) a (by decide);have j:=yN f;have c:=q6 .u32 (j6 d) (n/4) an
  have l:(j6 d).getD (n/4) 0=(j6 d)[n/4]'(by omega):=by simp[List.getD,aac (show n/4<(j6 d).length by omega)]
  simp[h,f,g,Bv];refine ax e ?_;simp(disch:=omega)[i,bC,az,j,c,-aap]
 ·simp[h,Bv]
def Gl(n:Int):Prop:=-9223372036854775808<=n/\n<=9223372036854775807
def af.ok(x:af):Prop:=(Gl x.op/\Gl x.jt/\Gl x.jf)/\x.k<4294967296
def zx3{k:IntKind}{cs:List V}(h:i_ (.int k) cs):∃ n,cs=[.int k n]/\(Lit.int k n).wf=true:=by simpa only[i_] using h
def fY.self{H:ae}(h:fY H):ai H.length H=H:=by have:=LB h [] 0;simpa using this
def fY.back{H:ae}(h:fY H)(r:ae):ai H.length (H++r)=H:=by have:=LB h r 0;simpa using this
def fY.app{H:ae}(h:fY H){r:ae}(a:∀ n,r.map (aaY (aw.cl n))=r):fY (H++r):=by intro m b;rw[abJ,a,h m (by rw[aaZ] at b;omega)]
def fY.nil:fY []:=fun _ _=>rfl
structure Nd where
 kind:Nat
 f:List Nat
 n:Nat
 vars:List Nat
 tab:List Nat
 op:Int
 x:Nat
 y:Nat
 deriving DecidableEq
def Nd.cs(a:Nd):List V:=.int .i64 (a.kind:Int)::(av .u32 a.f++.int .i64 (a.n:Int)::(av .i64 a.vars++(av .u32 a.tab++[.int .i64 a.op,.int .i64 (a.x:Int),.int .i64 (a.y:Int)])))
def qM:Nd:=⟨0,aQ 35,0,aQ 4,aQ 16,0,0,0⟩
def nz:(V.int .i64 0::(av .u32 (aQ 35)++V.int .i64 0::V.int .i64 0::V.int .i64 0::V.int .i64 0::V.int .i64 0::(av .u32 (aQ 16)++[V.int .i64 0,V.int .i64 0,V.int .i64 0])))=qM.cs:=rfl
def Nd.ok(a:Nd):Prop:=a.f.length=35/\a.vars.length=4/\a.tab.length=16
def Nd.len{a:Nd}(h:a.ok):a.cs.length=60:=by simp[Nd.cs,h.1,h.2.1,h.2.2]
def eZ(f:List Nat):Nd:={ qM with f:=f }
def zzW(f:List Nat)(a:f.length=35)(e:Env)(t:Nat)(b:e t=.agg (av .u32 f)):mg e qM.cs [(0,1,.c (.int .i64 0)),(1,35,.t t)]=some (eZ f).cs:=by
 have d:(av .u32 f).length=35:=by simp[a]
 have hd:∀ r:List V,(av .u32 (aQ 35)++r).drop 35=r:=fun r=>by rw[aa0 ir]
 simp[mg,b,qM,Nd.cs,d,hd,eZ]
def VI[au G](c:Nat):FP G 243 [.int .u32 c] (.agg (av .u32 (c::aQ 34))):=by refine bF au.ac7 (aaa rfl) ?_;have a:av .u32 (aQ 35)=.int .u32 0::av .u32 (aQ 34):=rfl;have b:av .u32 (c::aQ 34)=.int .u32 (c:Int)::av .u32 (aQ 34):=rfl;simp[a,b]
def cF(i:Nat):List Nat:=(aQ 35).set (i+1) 1
def VJ[au G](i:Nat)(hi:i<34):FP G 244 [.int .i64 i] (.bc [.agg (av .u32 (cF i)),.int .i64 0]):=by
 refine bF au.ac8 (aaa rfl) ?_;have c:av .u32 (aQ 35)=.int .u32 0::av .u32 (aQ 34):=rfl;have d:=vU .u32 (aQ 34) i 1 (by simp;omega)
 have e:av .u32 (cF i)=.int .u32 0::av .u32 ((aQ 34).set i 1):=by rw[cF,show aQ 35=0::aQ 34 from rfl,List.set_cons_succ];rfl
 have b:∀(a:V) (l:List V),(a::l).take (1+i)=a::l.take i:=fun a l=>by rw[aa3];rfl
 have h:(1:Int)=((1:Nat):Int):=rfl
 have hd:(av .u32 (aQ 34)).take i++V.int .u32 1::(av .u32 (aQ 34)).drop (1+i)=av .u32 ((aQ 34).set i 1):=by rw[aa3];exact d
 have f:((aQ 34).set i 1).length=34:=by simp
 have g:=eG (k:=.u32) f;simp(disch:=omega)[bC,jN,C6,az,c,e,hd,b,g]
def zx4[au G](i:Int)(hi:i<0\/34<=i):FP G 244 [.int .i64 i] (.bc [.agg (av .u32 (aQ 35)),.int .i64 1]):=by
 refine bF au.ac8 (aaa rfl) ?_
 by_cases h:i<0
 ·simp[h]
 ·have a:(34<=i)=True:=eq_true an;have b:(i<0)=False:=eq_false h;simp[b,a]
def D4:∀{k1 k2:List Kd} {a b c d:List V} {x y:Bool},bZ k1 a b=some x->bZ k2 c d=some y->bZ (k1++k2) (a++c) (b++d)=some (x&&y)
 | [],k2,[],[],c,d,x,y,e,f=>by simp only[bZ,abw.injEq] at e;subst e;simpa using f
 | [],_,[],_::_,_,_,_,_,h,_=>by simp[bZ] at h
 | [],_,_::_,_,_,_,_,_,h,_=>by simp[bZ] at h
 | _::_,_,[],_,_,_,_,_,h,_=>by simp[bZ] at h
 | _::_,_,_::_,[],_,_,_,_,h,_=>by simp[bZ] at h
 | k::k1,k2,a::as,b::j,c,d,x,y,e,f=>by
  simp only[bZ] at e;split at e
  case h_2=>cases e
  rename_i u v g i;simp only[abw.injEq] at e;subst e;simp only[aaN,bZ,g,D4 i f,Bool.and_assoc]
def Gm(k:IntKind):∀{n:Nat} {a b:List Nat},a.length=n->b.length=n->bZ (aaq n .int) (av k a) (av k b)=some (decide (a=b))
 | 0,[],[],_,_=>rfl
 | 0,_::_,_,h,_=>by simp at h
 | 0,[],_::_,_,h=>by simp at h
 | n+1,[],_,h,_=>by simp at h
 | n+1,_::_,[],_,h=>by simp at h
 | n+1,x::a,y::b,c,d=>by
  have e:=Gm k (n:=n) (a:=a) (b:=b) (by simpa using c) (by simpa using d);rw[abT];show bZ (.int::aaq n .int) (.int k (x:Int)::av k a) (.int k (y:Int)::av k b)=_;simp only[bZ,oV,if_true,e,abw.injEq];rw[aaS];simp
def LI(k:IntKind)(x y:Int):bZ [.int] [.int k x] [.int k y]=some (decide (x=y)):=by
 simp only[bZ,oV,if_true,Bool.and_true]
 congr 1
def VK{a b:Nd}(d:a.ok)(e:b.ok):bZ (aaq 60 .int) a.cs b.cs=some (decide (a=b)):=by
 have h:=D4 (LI .i64 a.kind b.kind) (D4 (Gm .u32 d.1 e.1) (D4 (LI .i64 a.n b.n) (D4 (Gm .i64 d.2.1 e.2.1) (D4 (Gm .u32 d.2.2 e.2.2)
  (D4 (LI .i64 a.op b.op) (D4 (LI .i64 a.x b.x) (LI .i64 a.y b.y)))))))
 have i:aaq 60 Kd.int=[Kd.int]++(aaq 35 .int++([.int]++(aaq 4 .int++(aaq 16 .int++([.int]++([.int]++[.int])))))):=rfl;rw[i]
 have g:∀ c:Nd,c.cs=[.int .i64 (c.kind:Int)]++(av .u32 c.f++([.int .i64 (c.n:Int)]++(av .i64 c.vars++(av .u32 c.tab++([.int .i64 c.op]++([.int .i64 (c.x:Int)]++[.int .i64 (c.y:Int)])))))):=fun c=>by simp[Nd.cs]
 rw[g a,g b,h]
 congr 1
 rw[aaS];cases a;cases b;simp
def wG(i:Nat):List Nd->List (V×V)
 | []=>[]
 | a::L=>(.agg a.cs,.int .i64 (i:Int))::wG (i+1) L
def ents(L:List Nd):List (V×V):=wG 0 L
def zro(a:Nd):∀(L:List Nd) (i:Nat),wG i (L++[a])=wG i L++[(.agg a.cs,.int .i64 ((i+L.length:Nat):Int))]
 | [],i=>by simp[wG]
 | b::L,i=>by
  have:=zro a L (i+1);simp only[aaN,wG,this,aaC];rw[show i+1+L.length=i+(L.length+1) by omega]
def ztl{a:Nd}(c:a.ok):∀{L:List Nd} (i:Nat),(∀ x∈L,x.ok)->a∈L->js (.row (aaq 60 .int)) (.agg a.cs) (wG i L) i=some (some (i+L.idxOf a,.int .i64 ((i+L.idxOf a:Nat):Int)))
 | [],i,_,h=>by cases h
 | b::L,i,d,h=>by
  simp only[wG,js,jr,VK c (d b ir)]
  by_cases e:a=b
  ·subst e;simp
  ·have f:a∈L:=by simpa[e] using h
   have g:=ztl c (i+1) (fun x j=>d x (by simp[j])) f
   have k:(b::L).idxOf a=L.idxOf a+1:=by rw[List.idxOf_cons,beq_false_of_ne (Ne.symm e)];rfl
   simp only[e,decide_false,g,k,show i+1+L.idxOf a=i+(L.idxOf a+1) from an]
def zrp{a:Nd}(c:a.ok):∀{L:List Nd} (i:Nat),(∀ x∈L,x.ok)->a∉L->js (.row (aaq 60 .int)) (.agg a.cs) (wG i L) i=some none
 | [],i,_,_=>rfl
 | b::L,i,d,h=>by
  simp only[aai,not_or] at h;simp only[wG,js,jr,VK c (d b ir),h.1,decide_false];exact zrp c (i+1) (fun x e=>d x (by simp[e])) h.2
def qN(L:List Nd):List (List V):=L.map Nd.cs
def wQ(L:List Nd)(z m:Nat):aw:=.cells [.vs (qN L) (.own z),.mp m]
structure Bk (H:ae) (b z m:Nat) (L:List Nd):Prop where
 hb:H[b]?=some (some (wQ L z m))
 hz:H[z]?=some (some (.zone L.length))
 hm:H[m]?=some (some (.map (ents L)))
 shut:fY H
 ok:∀ a∈L,a.ok
 small:L.length<=1000000
def da(H:ae)(b z m:Nat)(L:List Nd):ae:=((H.set b (some (wQ L z m))).set z (some (.zone L.length))).set m (some (.map (ents L)))
def qF(H:ae)(b z m:Nat)(L:List Nd):(da H b z m L).length=H.length:=by simp[da]
section
variable {H:ae} {b z m:Nat} {L L':List Nd}
def Bk.bz(h:Bk H b z m L):b≠z:=fun e=>by have a:=h.hb;rw[e,h.hz] at a;simp[wQ] at a
def Bk.bm(h:Bk H b z m L):b≠m:=fun e=>by have a:=h.hb;rw[e,h.hm] at a;simp[wQ] at a
def Bk.zm(h:Bk H b z m L):z≠m:=fun e=>by have a:=h.hz;rw[e,h.hm] at a;simp at a
def Bk.lb(h:Bk H b z m L):b<H.length:=(aaj.1 h.hb).1
def Bk.lz(h:Bk H b z m L):z<H.length:=(aaj.1 h.hz).1
def Bk.lm(h:Bk H b z m L):m<H.length:=(aaj.1 h.hm).1
def Bp{α:Type}{l:List α}{i:Nat}{a:α}(h:l[i]?=some a):l.set i a=l:=by
 apply aa2;intro j;rw[aaU]
 by_cases e:i=j
 ·subst e;rw[if_pos rfl,if_pos (aaj.1 h).1,h]
 ·rw[if_neg e]
def Bk.fc(h:Bk H b z m L):da H b z m L=H:=by unfold da;rw[Bp h.hb,Bp h.hz,Bp h.hm]
def VM(n:Nat):∀(L:List Nd) (i:Nat),(wG i L).map (fun p=>(p.1.cl n,p.2.cl n))=wG i L
 | [],i=>rfl
 | a::L,i=>by
  have b:=VM n L (i+1)
  have c:aX n a.cs=a.cs:=by rw[ie];simp[Nd.cs,av,abi,V.cl]
  simp only[wG,aa7,V.cl,c,b]
def Bo{α β:Type}(f:α->β):∀(l:List α) (i:Nat) (a:α),(l.set i a).map f=(l.map f).set i (f a):=fun l i a=>List.map_set
def Bk.ug(h:Bk H b z m L)(L':List Nd):fY (da H b z m L'):=by
 intro n a;rw[qF] at a;have c:=h.shut n a;have g:=h.lz;have i:=h.lm;unfold da;rw[Bo,Bo,Bo,c]
 have d:aaY (aw.cl n) (some (wQ L' z m))=some (wQ L' z m):=by simp[wQ,aw.cl,aX,V.cl,Tk.cl,show z<n from an,show m<n from an]
 have e:aaY (aw.cl n) (some (aw.zone L'.length))=some (.zone L'.length):=rfl
 have f:aaY (aw.cl n) (some (aw.map (ents L')))=some (.map (ents L')):=by simp only[aa_,aw.cl,ents,VM]
 rw[d,e,f]
def Bk.Gn(h:Bk H b z m L)(c:∀ a∈L',a.ok)(d:L'.length<=1000000):Bk (da H b z m L') b z m L':=by
 have e:=h.bz;have f:=h.bm;have g:=h.zm;refine⟨?_,?_,?_,h.ug L',c,d⟩
 ·unfold da;rw[aat f.symm,aat e.symm,aa1 h.lb]
 ·unfold da;rw[aat g.symm,aa1 (by simp[h.lz])]
 ·unfold da;rw[aa1 (by simp[h.lm])]
def Bk.app(h:Bk H b z m L){r:ae}(a:∀ n,r.map (aaY (aw.cl n))=r):Bk (H++r) b z m L :=
 ⟨by rw[aaf h.lb];exact h.hb,by rw[aaf h.lz];exact h.hz,by rw[aaf h.lm];exact h.hm,h.shut.app a,h.ok,h.small⟩
def Bk.bP(h:Bk H b z m L)(r:ae)(L':List Nd):da (H++r) b z m L'=da H b z m L'++r:=by unfold da;rw[aaL _ _ h.lb,aaL _ _ (by simp[h.lz]),aaL _ _ (by simp[h.lm])]
def Bk.km(h:Bk H b z m L)(c a:List Nd):da (da H b z m c) b z m a=da H b z m a:=by
 have d:=h.bz;have e:=h.bm;have f:=h.zm;apply aa2;intro i;unfold da;simp only[aaU,abt]
 repeat' split
 all_goals first|rfl|omega
end
def gU(L:List Nd)(a:Nd):List Nd:=if a∈L then L else L++[a]
def zrq{L:List Nd}{a:Nd}(h:a∉L):L.idxOf a=L.length:=List.idxOf_eq_length h
open Go Go.RowKit
variable {G:aN}
variable {H:ae} {b z m:Nat} {L:List Nd}
def QX(a:List iM)(R:V->ae->Prop)(x:Ex)(b:Env)(H1:ae):Prop:=(x=.nx\/x=.ret)/\∃ vs,tN b H1 a=some vs/\R (tO vs) H1
@[simp] theorem agL (a:List iM) (R:V->ae->Prop) (b:Env) (H1:ae):QX a R .nx b H1=∃ vs,tN b H1 a=some vs/\R (tO vs) H1:=by simp[QX]
@[simp] theorem VN (a:List iM) (R:V->ae->Prop) (b:Env) (H1:ae):QX a R .ret b H1=∃ vs,tN b H1 a=some vs/\R (tO vs) H1:=by simp[QX]
def SF(G:aN)(f:Nat)(args:List V)(H:ae)(r:V)(H':ae):Prop:=∃ a H1,bp G (.F f args H a H1)/\a.cl H.length=r/\ai H.length H1=H'
def jx{f b:Nat}{body:aY}{a:List iM}{args:List V}{r:V}{H H':ae}(d:G f=some ⟨b,body,a⟩)(e:args.length<=b)
  (h:W G body [] (fU (oJ 0 args)) H (QX a fun g H1=>g.cl H.length=r/\ai H.length H1=H')):SF G f args H r H':=by
 obtain⟨x,m,H1,c,i,vs,j,k,l⟩:=h;rw[<-Lk] at c;exact⟨_,_,.fn d e c i j,k,l⟩
def cC{f:Nat}{args:List V}{r:V}{H H':ae}{base:Nat}{d:Option Nat}{os:List aC}{K:List Kt}{e:Env}{Q:Ex->Env->ae->Prop}(h:SF G f args H r H')
  (a:WO G base os K (e.put d r) H' Q):PA G f args base d os K e H Q:=by
 obtain⟨i,H1,b,c,g⟩:=h;refine xG b ?_;rw[c,g];exact a
def zx5{f:Nat}{args:List V}{r:V}{H H':ae}{base:Nat}{d:Option Nat}{os:List aC}{K:List Kt}{e:Env}{Q:Ex->Env->ae->Prop}(h:SF G f args H r H')(b:Ks base args H H')
  (c:WO G base os K (e.put d r) H' Q):zBb G f args base d os K e H Q:=by
 obtain⟨g,H1,i,j,a⟩:=h;exact⟨g,H1,i,by rw[a];exact b,by rw[j,a];exact c⟩
def Bk.back(h:Bk H b z m L)(L':List Nd)(r:ae):ai H.length (da H b z m L'++r)=da H b z m L':=by have:=(h.ug L').back r;rwa[qF] at this
@[simp] theorem zIj (L:List Nd):(qN L).length=L.length:=by simp[qN]
theorem VO{x:Nat}{a:Nd}(h:L[x]?=some a):(qN L)[x]?=some a.cs:=by simp[qN,h]
def zzX(L:List Nd)(a:Nd):qN L++[a.cs]=qN (L++[a]):=by simp[qN]
def zx6(h:∀ a∈L,a.ok):(∀ f∈qN L,f.length=60):=by intro f b;simp only[qN,abm] at b;obtain⟨a,c,rfl⟩:=b;exact Nd.len (h a c)
def Bk.cE(h:Bk H b z m L):H[b]?=some (some (.cells [.vs (qN L) (.own z),.mp m])):=h.hb
def zDY[aI G](h:Bk H b z m L):bp G (.F 257 [.ptr b 0] H (.int .i64 L.length) H):=by refine eB aI.adl (aaa rfl) ?_;have a:=h.cE;simp[a]
def dL(L:List Nd)(i:Int):Bool:=decide (0<=i/\i<(L.length:Int))
def zDZ[aI G](i:Int)(h:Bk H b z m L):bp G (.F 258 [.ptr b 0,.int .i64 i] H (.bool (dL L i)) H):=by
 refine eB aI.adm (aaa rfl) ?_;have c:=h.shut.self
 by_cases a:0<=i
 ·simp[a];refine xG (zDY h) ?_;simp[c,dL,a]
 ·simp[a,dL]
def zzY[aI G](x:Nat)(a:Nd)(h:Bk H b z m L)(e:L[x]?=some a):bp G (.F 264 [.ptr b 0,.int .i64 x] H (.bc [.agg (av .u32 a.f),.bool (decide (a.kind=0))]) (H++[some (.cells (av .u32 a.f))])):=by
 refine eB aI.ads (aaa rfl) ?_;have i:=h.lb;have j:=h.cE
 have l:∀ r:ae,(H++r)[b]?=some (some (.cells [.vs (qN L) (.own z),.mp m])):=fun r=>by rw[aaf i];exact j
 have n:=VO e;have c:=h.ok a (aaK e);have o:=Nd.len c;have p:a.cs.take 1=[.int .i64 (a.kind:Int)]:=rfl
 have d:(a.cs.drop 1).take 35=av .u32 a.f:=by show(av .u32 a.f++_).take 35=_;rw[aaM (by simp[c.1])]
 have q:a.cs.tail.take 35=av .u32 a.f:=by rw[<-abS];exact d
 have hd:(av .u32 (aQ 35)).drop 35=[]:=rfl
 have s:b≠H.length:=an
 have u:(H.length=b)=False:=eq_false an;have g:=c.1
 have t:((a.kind:Int)==0)=decide (a.kind=0):=by rw[aaS];simp
 simp[l,n,o,p,q,hd,s,g,eG (k:=.u32) g,t]
def IU[aI G](a:Nd)(c:a.ok)(h:Bk H b z m L)(hs:L.length<1000000):SF G 259 [.ptr b 0,.agg a.cs] H (.int .i64 (L.idxOf a:Nat)) (da H b z m (gU L a)):=by
 have F:=h.lb;have I:=h.lz;have A:=h.lm;have B:=h.cE;have l:=h.bz;have n:=h.bm;have o:=h.zm;have p:=Nd.len c;have q:a.cs.take 60=a.cs:=aal an;have s:=VK c c;simp only[decide_true] at s;have C:(H.length+1<=b)=False:=eq_false an;have t:(H.length+1<=H.length)=False:=eq_false an;have J:(H.length=b)=False:=eq_false an;have M:(H.length=m)=False:=eq_false an
 have N:(H.length=z)=False:=eq_false an
 have D:∀ r:ae,(H++r)[b]?=some (some (.cells [.vs (qN L) (.own z),.mp m])):=fun r=>by rw[aaf F];exact B
 have d:∀ r:ae,(H++r)[m]?=some (some (.map (ents L))):=fun r=>by rw[aaf A];exact h.hm
 have qX:∀ r:ae,(H++r)[z]?=some (some (.zone L.length)):=fun r=>by rw[aaf I];exact h.hz
 refine jx aI.adn (aaa rfl) ?_
 by_cases e:a∈L
 ·have k:=ztl c 0 h.ok e;simp only[acj] at k;have u:=h.shut.back
  have O:da H b z m (gU L a)=H:=by rw[gU,if_pos e,h.fc]
  simp[-aae,D,d,p,q,s,ents,k,C,t,u,O]
 ·have k:=zrp c 0 h.ok e;have P:∀(x:Option aw) (r:ae),(H++r).set m x=H.set m x++r:=fun x r=>aaL _ _ A;obtain⟨K,g⟩:∃ K,K=H.set m (some (.map (ents (L++[a])))):=⟨_,rfl⟩
  have Q:K.length=H.length:=by rw[g,abt]
  have R:wG 0 L++[(V.agg a.cs,V.int .i64 (L.length:Int))]=ents (L++[a]):=by rw[ents,zro,acj]
  have E:∀ r:ae,(K++r)[b]?=some (some (.cells [.vs (qN L) (.own z),.mp m])):=fun r=>by
   rw[aaf an,g,aat n.symm];exact B
  have S:∀ r:ae,(K++r)[z]?=some (some (.zone L.length)):=fun r=>by
   rw[aaf an,g,aat o.symm];exact h.hz
  have T:∀(x:Option aw) (r:ae),(K++r).set z x=K.set z x++r:=fun x r=>aaL _ _ an
  have v:∀(x:Option aw) (r:ae),(K.set z x++r)[b]?=some (some (.cells [.vs (qN L) (.own z),.mp m])):=fun x r=>by
   rw[aaf (by simp;omega),aat l.symm];have:=E [];simpa using this
  have U:∀(x y:Option aw) (r:ae),(K.set z x++r).set b y=(K.set z x).set b y++r:=fun x y r=>aaL _ _ (by simp;omega);have j:=zrq e;have W:=zx6 h.ok;have X:((L.length+1)*280<=140737488355328)=True:=eq_true an;have Y:(∀ f∈qN L,f.length=60)=True:=eq_true W
  have Z:a.cs.all V.pure=true:=by simp[Nd.cs,av,V.pure]
  have rf:qM.cs.length=60:=rfl;have dT:=zzX L a
  have w:(K.set z (some (.zone (L.length+1)))).set b (some (.cells [.vs (qN (L++[a])) (.own z),.mp m]))=da H b z m (gU L a):=by
   rw[gU,if_neg e,da,g,wQ,aaZ];apply aa2;intro i;simp only[aaU,abt]
   repeat' split
   all_goals first|rfl|omega
  have u:=h.back (gU L a)
  have kh:∀ r:ae,(K++r)[H.length]?=r[0]?:=fun r=>by rw[<-Q,aan (abv _),abH]
  simp[-aae,D,d,p,q,s,ents,k,C,t];simp[-aae,P,R,<-g,E,S,p,q,t,X,Y,Z,nz,rf,kh,T,v,U,dT,w,u,j]
def qO(o:Nat->Nat->Nat)(f g:List Nat)(i:Nat):List Nat:=aau o (f.take i) (g.take i)++f.drop i
section
variable {o:Nat->Nat->Nat} {f g:List Nat} {i n:Nat}
def zva(a:f.length=n)(b:g.length=n):(qO o f g i).length=n:=by simp[qO,a,b];omega
def zzZ:qO o f g 0=f:=by simp[qO]
def zCi(a:f.length=n)(b:g.length=n):qO o f g n=aau o f g:=by rw[qO,aal an,aal an,aaQ an,acb]
def zCj(a:f.length=n)(b:g.length=n)(h:i<n):(qO o f g i)[i]?=some (f[i]' an):=by
 rw[qO,aan (by simp;omega)]
 have e:i-(aau o (f.take i) (g.take i)).length=0:=by simp;omega
 rw[e,abz];exact jX an
def zvb(b:f.length=n)(c:g.length=n)(h:i<n):(qO o f g i).set i (o (f[i]' an) (g[i]' an))=qO o f g (i+1):=by
 apply aa2;intro j;have e:(qO o f g i).length=n:=zva b c;rw[aaU]
 have a:∀ k,(aau o (f.take k) (g.take k)).length=min k n:=fun k=>by simp[b,c]
 by_cases d:i=j
 ·subst d;simp only[if_true,e,h];rw[qO,aaf (by rw[a];omega)];simp[abP,show i<f.length by omega,show i<g.length by omega]
 ·rw[if_neg d,qO,qO]
  by_cases l:j<i
  ·rw[aaf (by rw[a];omega),aaf (by rw[a];omega)];simp[abP,l,show j<i+1 by omega]
  ·rw[aan (by rw[a];omega),aan (by rw[a];omega),a,a];simp only[abz]
   congr 1
   omega
end
def BC{l:List Nat}{i x:Nat}(k:IntKind)(h:l[i]?=some x):((av k l).drop i).take 1=[.int k (x:Int)]:=by obtain⟨a,rfl⟩:=aaj.1 h;exact q6 k l i a
section
variable {α:Type} (H l:List α)
def jW:(H++l)[H.length]?=l[0]?:=by rw[aan (abv _),abH]
def fW(k:Nat):(H++l)[H.length+k]?=l[k]?:=by rw[aan an,abI]
def wT(x:α):(H++l).set H.length x=H++l.set 0 x:=by rw[abl _ _ (abv _),abH]
def uS(k:Nat)(x:α):(H++l).set (H.length+k) x=H++l.set k x:=by rw[abl _ _ an,abI]
end
def VQ[au G](fn:Nat)(cap:List V)(o:Nat->Nat->Nat)(f g:List Nat)(H:ae)(y:fY H)(a:f.length=35)(b:g.length=35)(q:∀ n,H.length<=n->aX n cap=cap)
  (s:∀(i:Nat) (h:i<35) (r:ae),bp G (.F fn ([.int .u32 (f[i]'(by omega):Nat),.int .u32 (g[i]'(by omega):Nat)]++cap) (H++r) (.int .u32 (o (f[i]' an) (g[i]' an):Nat)) (H++r))) :
  bp G (.F 245 [.agg (av .u32 f),.agg (av .u32 g),.fn fn cap] H (.agg (av .u32 (aau o f g))) (H++[some (.cells (av .u32 (aau o f g))),some (.cells (av .u32 g)),some (.cells (av .u32 (aau o f g)))])):=by
 refine eB au.ac9 (aaa rfl) ?_;have c:∀ i,(qO o f g i).length=35:=fun i=>zva a b
 have z:∀ r,fY (H++[some (.cells (av .u32 r)),some (.cells (av .u32 g)),some (.cells (av .u32 (aQ 35)))]):=fun r=>y.app fun n=>by simp[aw.cl]
 have j:∀ r x,ai (H.length+3) (H++some (.cells (av .u32 r))::some (.cells (av .u32 g))::some (.cells (av .u32 (aQ 35)))::x)=H++[some (.cells (av .u32 r)),some (.cells (av .u32 g)),some (.cells (av .u32 (aQ 35)))]:=fun r x=>by
  have:=(z r).back x;simpa using this
 have A:=s 0 an;have t:((av .u32 f).drop 0).take 1=[.int .u32 (f[0]:Nat)]:=q6 .u32 f 0 an;have d:((av .u32 g).drop 0).take 1=[.int .u32 (g[0]:Nat)]:=q6 .u32 g 0 an;rw[List.drop_zero] at t d;have J:=eG (k:=.u32) a;have K:=eG (k:=.u32) b
 have u:V.int .u32 (o f[0] g[0]:Nat)::(av .u32 f).drop 1=av .u32 (qO o f g 1):=by have v:=vU .u32 (qO o f g 0) 0 (o f[0] g[0]) (by rw[c];omega);rw[zvb a b an,zzZ] at v;simpa using v
 rw[abS] at u;obtain⟨m,l⟩:∃ m:Nat->ae,∀ i,m i=H++[some (.cells (av .u32 (qO o f g (i+1)))),some (.cells (av .u32 g)),some (.cells (av .u32 (aQ 35)))]:=⟨_,fun _=>rfl⟩;simp[a,b,t,d];refine jL (A _) ir ?_;simp[j,a,u];refine aP 34 (fun i=>[(2,.fn fn cap),(3,.ptr H.length 0),(4,.ptr (H.length+1) 0),(6,.ptr (H.length+2) 0),(15,.int .i64 i)]) m (fun _=>True) ?_ ?_
 ·simp[aq,j,l,q]
 intro i hi _
 by_cases B:i<34
 ·have p:=zCj (o:=o) a b (show i+1<35 by omega);have C:g[i+1]?=some (g[i+1]' an):=jX an;have q1:=BC .u32 p;have D:=BC .u32 C;have e:=vU .u32 (qO o f g (i+1)) (i+1) (o (f[i+1]' an) (g[i+1]' an)) (by rw[c];omega);rw[zvb a b an] at e;simp(disch:=omega)[bC,leFn,az,jW,fW,l,c,b,show 1+i=i+1 from aa3 1 i,q1,D,-aab];refine jL (s (i+1) an [some (.cells (av .u32 (qO o f g (i+1)))),some (.cells (av .u32 g)),some (.cells (av .u32 (aQ 35)))]) (fun _=>by have:=j (qO o f g (i+1)) [];simpa using this) ?_
  simp(disch:=omega)[bC,az,jW,l,B,c,show 1+i=i+1 from aa3 1 i,e,-aab,j,bE,aq,q]
 ·have E:i=34:=an
  subst E;have L:=c 35;have I:=zCi (o:=o) a b
  have w:(aau o f g).length=35:=by simp[a,b]
  simp(disch:=omega)[leFn,jW,fW,l,I,w,eG (k:=.u32) w]
def oO(f g:List Nat):List Nat:=aau (fun a b=>(a+b)%4294967296) f g
def iv(f g:List Nat):List Nat:=aau (fun a b=>(a+4294967296-b)%4294967296) f g
def gV(f:List Nat)(k:Nat):List Nat:=f.map fun a=>a*k%4294967296
def zCk[au G](a b:Nat)(H:ae):bp G (.F 246 [.int .u32 a,.int .u32 b] H (.int .u32 ((a+b)%4294967296:Nat)) H):=by refine eB au.ada (aaa rfl) ?_;simp;simp[aD,C7]
def zCl[au G](a b:Nat)(c:b<4294967296)(H:ae):bp G (.F 248 [.int .u32 a,.int .u32 b] H (.int .u32 ((a+4294967296-b)%4294967296:Nat)) H):=by refine eB au.ade (aaa rfl) ?_;simp;simp[cM,C7];omega
def zCm[au G](a b k p:Nat)(H:ae)(c:H[p]?=some (some (.cells [.int .u32 k]))):bp G (.F 250 [.int .u32 a,.int .u32 b,.ptr p 0] H (.int .u32 (a*k%4294967296:Nat)) H):=by refine eB au.adg (aaa rfl) ?_;simp[c];simp[eI,C7]
def zCn[au G](f g:List Nat)(c:f.length=35)(d:g.length=35):FP G 247 [.agg (av .u32 f),.agg (av .u32 g)] (.agg (av .u32 (oO f g))):=by
 refine bF au.adb (aaa rfl) ?_;have o:=eG (k:=.u32) c;have p:=eG (k:=.u32) d
 have j:(oO f g).length=35:=by simp[oO,c,d]
 have q:=eG (k:=.u32) j
 have l:fY [some (.cells (av .u32 f)),some (.cells (av .u32 g)),some (.cells (av .u32 (aQ 35)))]:=fun n _=>by simp[aw.cl]
 have m:=l.back;simp at m;simp[c,d,o,p];refine xG (VQ 246 [] (fun a b=>(a+b)%4294967296) f g _ l c d (fun _ _=>rfl) (fun i h r=>zCk _ _ _)) ?_;have e:aau (fun a b=>(a+b)%4294967296) f g=oO f g:=rfl;simp[e,m,j,q]
def VR[au G](f g:List Nat)(c:f.length=35)(d:g.length=35)(j:∀ x∈g,x<4294967296):FP G 249 [.agg (av .u32 f),.agg (av .u32 g)] (.agg (av .u32 (iv f g))):=by
 refine bF au.adf (aaa rfl) ?_;have p:=eG (k:=.u32) c;have q:=eG (k:=.u32) d
 have l:(iv f g).length=35:=by simp[iv,c,d]
 have s:=eG (k:=.u32) l
 have m:fY [some (.cells (av .u32 f)),some (.cells (av .u32 g)),some (.cells (av .u32 (aQ 35)))]:=fun n _=>by simp[aw.cl]
 have o:=m.back;simp at o;simp[c,d,p,q];refine xG (VQ 248 [] (fun a b=>(a+4294967296-b)%4294967296) f g _ m c d (fun _ _=>rfl) (fun i h r=>zCl _ _ (j _ (aaw _)) _)) ?_;have e:aau (fun a b=>(a+4294967296-b)%4294967296) f g=iv f g:=rfl;simp[e,o,l,s]
def PU[au G](f:List Nat)(k:Nat)(b:f.length=35):FP G 251 [.agg (av .u32 f),.int .u32 k] (.agg (av .u32 (gV f k))):=by
 refine bF au.adh (aaa rfl) ?_;have j:=eG (k:=.u32) b
 have c:(gV f k).length=35:=by simp[gV,b]
 have l:=eG (k:=.u32) c
 have d:fY [some (.cells (av .u32 f)),some (.cells [.int .u32 k]),some (.cells (av .u32 (aQ 35)))]:=fun n _=>by simp[aw.cl]
 have g:=d.back;simp at g;simp[b,j];refine xG (VQ 250 [.ptr 1 0] (fun a _=>a*k%4294967296) f f _ d b b (fun n m=>by simp at m;simp[aX,V.cl,show 1<n by omega]) (fun i h r=>zCm _ _ k 1 _ ir)) ?_;have e:f.map (fun a=>a*k%4294967296)=gV f k:=rfl;simp[e,g,c,l]
def o6(f:List Nat):Option Nat:=if f.drop 1=aQ 34 then f.head? else none
def PW[au G](f:List Nat)(i:f.length=35):FP G 253 [.agg (av .u32 f)] (.bc [.int .u32 ((o6 f).getD 0:Nat),.bool (o6 f).isSome]):=by
 refine bF au.adj (aaa rfl) ?_
 obtain⟨c,t,rfl⟩:∃ c t,f=c::t:=by cases f with|nil=>simp at i|cons c t=>exact⟨c,t,rfl⟩
 have d:t.length=34:=by simpa using i
 have j:av .u32 (c::t)=.int .u32 (c:Int)::av .u32 t:=rfl;have g:=Gm .u32 (n:=34) (a:=t) (b:=aQ 34) d ir;have l:=eG (k:=.u32) d
 by_cases e:t=aQ 34
 ·have h:o6 (c::t)=some c:=by simp[o6,e]
  rw[decide_eq_true e] at g;simp[-aae,j,d,l,g,h]
 ·have h:o6 (c::t)=none:=by simp[o6,e]
  rw[decide_eq_false e] at g;simp[-aae,j,d,l,g,h]
def zY(f v:List Nat)(i:Nat):Nat:=((aau (·*·) (f.drop 1) v).take i).sum
def LK(f v:List Nat):Nat:=(f.headD 0+zY f v 34)%4294967296
def zz0[au G](f v:List Nat)(g:f.length=35)(j:v.length=34)(b:∀ x∈f,x<4294967296):FP G 252 [.agg (av .u32 f),.agg (av .u32 v)] (.int .u32 (LK f v:Nat)):=by
 refine bF au.adi (aaa rfl) ?_
 obtain⟨c,t,rfl⟩:∃ c t,f=c::t:=by cases f with|nil=>simp at g|cons c t=>exact⟨c,t,rfl⟩
 have d:t.length=34:=by simpa using g
 have n:av .u32 (c::t)=.int .u32 (c:Int)::av .u32 t:=rfl;have o:=eG (k:=.u32) d;have w:=eG (k:=.u32) j;have p:c<4294967296:=b c ir;simp[n,d,o];obtain⟨S,a⟩:∃ S:Nat->Nat,∀ i,S i=(c+zY (c::t) v i)%4294967296:=⟨_,fun _=>rfl⟩
 have q:S 0=c:=by rw[a];simp[zY];omega
 have e:S 34=LK (c::t) v:=by rw[a];rfl
 have r:∀(i:Nat) (h:i<34),(S i+(t[i]' an)*(v[i]' an))%4294967296=S (i+1):=fun i h=>by
  rw[a,a,zY,zY,aaT,aac (by simp;omega)];simp;omega
 refine aP 34 (fun i=>[(3,.ptr 1 0),(5,.int .u32 (S i:Nat)),(11,.agg (av .u32 t)),(12,.int .i64 i)]) (fun _=>[some (.cells (.int .u32 (c:Int)::av .u32 t)),some (.cells (av .u32 v))]) (fun _=>True) ?_ ?_
 ·simp[aq,q,ai,aX,V.cl]
 intro i hi _
 by_cases l:i<34
 ·have q1:=BC .u32 (jX (show i<t.length by omega));have s:=BC .u32 (jX (show i<v.length by omega))
  have m:aD .u32 (S i:Int) (eI .u32 (t[i]:Nat) (v[i]:Nat))=((S (i+1):Nat):Int):=by rw[<-r i l];simp[aD,eI,C7]
  simp(disch:=omega)[bC,leFn,az,l,d,j,q1,s,m,-aab,bE,aq,ai,aX,V.cl]
 ·have u:i=34:=an
  subst u;simp[e]
def my(f:List Nat):Option Nat:=(aaB 34).find? fun i=>decide (f=cF i)
def zCo[au G](f:List Nat)(p:f.length=35):FP G 254 [.agg (av .u32 f)] (.bc [.int .i64 ((my f).getD 0:Nat),.bool (my f).isSome]):=by
 refine bF au.adk (aaa rfl) ?_
 obtain⟨c,t,rfl⟩:∃ c t,f=c::t:=by cases f with|nil=>simp at p|cons c t=>exact⟨c,t,rfl⟩
 have g:t.length=34:=by simpa using p
 have s:av .u32 (c::t)=.int .u32 (c:Int)::av .u32 t:=rfl;have x:=eG (k:=.u32) g;have u:=eG (k:=.u32) p;rw[s] at u;have D:(aaq 35 Kd.int)=Kd.int::aaq 34 .int:=rfl;simp[-aae,s,g,x];refine aP 34 (fun i=>[(1,.ptr 0 0),(9,.agg (av .u32 t)),(10,.int .i64 i)]) (fun _=>[some (.cells (.int .u32 (c:Int)::av .u32 t))]) (fun i=>∀ j,j<i->c::t≠cF j) ?_ ?_
 ·simp[aq,ai,aX,V.cl]
 intro i hi q
 by_cases r:i<34
 ·have q1:=BC .u32 (jX (show i<t.length by omega));have hd:(av .u32 (aQ 35)).drop 35=[]:=rfl
  have l:(cF i).length=35:=by simp[cF]
  have w:=eG (k:=.u32) l;have m:=Gm .u32 (n:=35) (a:=cF i) (b:=c::t) l p;rw[s] at m
  have y:c::t=cF i->t[i]=1:=fun e=>by
   have d:(c::t)[i+1]?=some 1:=by rw[e,cF,aa1 (by simp;omega)]
   rw[aaW,jX an] at d;exact abw.inj d
  simp(disch:=omega)[-aae,bC,az,g,q1];refine ax (VJ i r) ?_
  by_cases d:t[i]=1
  ·by_cases e:cF i=c::t
   ·have z:my (c::t)=some i:=by rw[my,abG];exact⟨by simpa using e.symm,aa4.2 r,fun j o=>by simpa using q j o⟩
    rw[decide_eq_true e] at m;simp(disch:=omega)[-aae,leFn,g,l,w,u,hd,d,m,z]
   ·rw[decide_eq_false e] at m
    have v:∀ j,j<i+1->c::t≠cF j:=fun j o=>by
     by_cases e':j=i
     ·subst e';exact fun h=>e h.symm
     ·exact q j an
    simp(disch:=omega)[-aae,leFn,r,g,l,w,u,hd,d,m,-aab,bE,aq,ai,aX,V.cl];exact v
  ·have v:∀ j,j<i+1->c::t≠cF j:=fun j o=>by
    by_cases e':j=i
    ·subst e';exact fun h=>d (y h)
    ·exact q j an
   have A:((t[i]:Int)==1)=false:=by rw[beq_eq_false_iff_ne];omega
   simp(disch:=omega)[-aae,r,l,hd,A,-aab,bE,aq,ai,aX,V.cl];exact v
 ·have B:i=34:=an
  subst B
  have C:my (c::t)=none:=by rw[my,abx];intro j o;simpa using q j (aa4.1 o)
  simp[C]
open Go Go.RowKit
variable {G:aN}
def zIk(e:bw G){kind:Int}{d gv vs:List Int}{a b tab:List Nat}(c:ny kind d gv a b)(f:∀ w∈a,w<4294967296)(g:∀ w∈b,w<4294967296)(i:Right vs tab)
  (j:∀ p,c_ vs tab p=(fL kind (c_ d a p) (c_ gv b p)).1):FP G 109 [.int .i64 kind,FV d a,FV gv b] (.bc [FV vs tab,.bool true]):=by
 have k:=c.2.1.1;have l:=c.2.2.1.1;have q:=Ay k c.2.1.2.1;have s:=Ay l c.2.2.1.2.1;obtain⟨r,m,h|⟨_,t,u,rfl,n,_,o⟩⟩:=zBj e kind d gv a b an an an an f g
 ·exact absurd c h.1
 ·obtain⟨rfl,rfl⟩:=zBi n i fun p=>by rw[j,o]
  exact m
def zD0(vs:List Int)(tab:List Nat)(r:Int->Nat):val vs tab r<4294967296:=uV _ 32
variable {H:ae} {b z m:Nat} {L:List Nd}
def zz1{f:List Nat}(a:f.length=35):(eZ f).ok:=⟨a,rfl,rfl⟩
def bt(L:List Nd)(a:Nd):Int×List Nd:=((L.idxOf a:Nat),gU L a)
def BF(G:aN)(f:Nat)(args:List V)(H:ae)(b z m:Nat)(p:Int×List Nd):Prop:=SF G f (.ptr b 0::args) H (.int .i64 p.1) (da H b z m p.2)
def AX[aI G](f:List Nat)(a:f.length=35)(h:Bk H b z m L)(c:L.length<1000000):BF G 260 [.agg (av .u32 f)] H b z m (bt L (eZ f)):=by
 have d:=eG (k:=.u32) a
 have e:Bk (H++[some (.cells (av .u32 f))]) b z m L:=h.app fun n=>by simp[aw.cl]
 have g:=h.bP [some (.cells (av .u32 f))] (gU L (eZ f));have i:=h.back (gU L (eZ f)) [some (.cells (av .u32 f))];refine jx aI.ado (aaa rfl) ?_;simp[-aae,a,d,-mg,nz,zzW f a,leFn];refine cC (IU (eZ f) (zz1 a) e c) ?_;simp[bt,g,i]
def HB[au G][aI G](c:Nat)(h:Bk H b z m L)(d:L.length<1000000):BF G 262 [.int .u32 c] H b z m (bt L (eZ (c::aQ 34))):=by have a:=h.back (gU L (eZ (c::aQ 34))) [];refine jx aI.adq (aaa rfl) ?_;simp at a;simp;refine ax (VI c) ?_;simp;refine cC (AX (c::aQ 34) ir h d) ?_;simp[bt,a]
def kU(L:List Nd)(i:Int):Int×List Nd:=if 0<=i/\i<34 then bt L (eZ (cF i.toNat)) else(-1,L)
def ZN[au G][aI G](i:Int)(h:Bk H b z m L)(f:L.length<1000000):BF G 263 [.int .i64 i] H b z m (kU L i):=by
 refine jx aI.adr (aaa rfl) ?_;have hd:(av .u32 (aQ 35)).drop 35=[]:=rfl
 by_cases hi:i<0\/34<=i
 ·have a:kU L i=(-1,L):=by rw[kU,if_neg an]
  have c:=h.shut.back;simp[a,h.fc];refine ax (zx4 i hi) ?_;simp[hd,c]
 ·obtain⟨n,rfl⟩:=aar (show 0<=i by omega)
  have a:kU L n=bt L (eZ (cF n)):=by rw[kU,if_pos an];rfl
  have d:(cF n).length=35:=by simp[cF]
  have g:=eG (k:=.u32) d
  have e:Bk (H++[some (.cells (av .u32 (cF n)))]) b z m L:=h.app fun n=>by simp[aw.cl]
  have j:=h.bP [some (.cells (av .u32 (cF n)))] (gU L (eZ (cF n)));have c:=h.back (gU L (eZ (cF n))) [some (.cells (av .u32 (cF n)))];have l:=e.shut.self;simp at l;simp[a];refine ax (VJ n an) ?_;simp[hd,d,g];refine cC (AX (cF n) d e f) ?_;simp[bt,j,c]
def tw(a:List Int)(b:List Nat):Nd:={ qM with kind:=1,n:=a.length,vars:=a.map abe++aQ (4-a.length),tab:=b++aQ (16-b.length) }
def ones:Nat:=4294967295
def r_(L:List Nd)(b:List Int)(a:List Nat):Int×List Nd :=
 match b with
 | []=>bt L (eZ (a.headD 0::aQ 34))
 | [i]=>if a=[0,ones] then bt L (eZ (cF i.toNat)) else if a=[ones,0] then bt L (eZ (iv (ones::aQ 34) (cF i.toNat))) else bt L (tw [i] a)
 | b=>bt L (tw b a)
def zz2[au G][aI G](R:List Int)(F:List Nat)(hR:Right R F)(h:Bk H b z m L)(K:L.length<1000000):BF G 261 [FV R F] H b z m (r_ L R F):=by
 refine jx aI.adp (aaa rfl) ?_
 have M:Bk (H++[some (.cells [.vs (ints .i64 R) .no,.vs (aj .u32 F) .no])]) b z m L:=h.app fun n=>by simp[aw.cl,aX,V.cl]
 obtain⟨h4,d,hm⟩:=hR
 match R,h4,d,hm,M with
 | [],_,d,_,M => 
  obtain⟨c,rfl⟩:∃ c,F=[c]:=by match F,d with|[c],_=>exact⟨c,rfl⟩
  have g:=h.bP [some (.cells [.vs (ints .i64 []) .no,.vs (aj .u32 [c]) .no])] (gU L (eZ (c::aQ 34)));have o:=h.back (gU L (eZ (c::aQ 34))) [some (.cells [.vs (ints .i64 []) .no,.vs (aj .u32 [c]) .no])];have hn:∀ x:Nat,aj .u32 [x]=[[.int .u32 (x:Int)]]:=fun _=>rfl;simp only[hn,zzI] at M g o;have eR:=M.shut.self;simp at eR;simp[FV,r_,az,leFn,hn];refine cC (HB c M K) ?_
  simp[bt,g,o]
 | i::t,h4,d,hm,M => 
  have ar:t.length+1<=4:=by simpa using h4
  have hb:∀ v∈t,0<=v:=fun v A=>by
   obtain⟨j,hj,rfl⟩:=abU A;obtain⟨w,hw,Bn,_⟩:=hm (j+1) (by simp;omega);rw[aaW,aac hj] at hw;cases hw;exact Bn
  obtain⟨v,A,Ph,VT,_⟩:=hm 0 ir
  obtain rfl:i=v:=by simpa using A
  obtain⟨n,rfl⟩:=aar Ph;have hd:(av .u32 (aQ 35)).drop 35=[]:=rfl
  have s:(cF n).length=35:=by simp[cF]
  have ht:=eG (k:=.u32) s
  obtain⟨p,q,r,rfl⟩:∃ p q r,F=p::q::r:=by
   match F,d with
   | p::q::r,_=>exact⟨p,q,r,rfl⟩
   | [p],d=>exfalso;have:=ab0 (n:=t.length);simp[abd] at d;omega
   | [],d=>exfalso;have:=ab0 (n:=t.length);simp[abd] at d;omega
  have h2:Bk (H++[some (.cells [.vs (ints .i64 ((n:Int)::t)) .no,.vs (aj .u32 (p::q::r)) .no]),some (.cells (av .u32 (cF n)))]) b z m L:=h.app fun n=>by simp[aw.cl,aX,V.cl]
  have VU:=M.shut.self;have Gq:=h2.shut.self;simp at VU Gq;simp(disch:=omega)[FV,aM,jW,az,leFn];refine ax (VJ n an) ?_
  have cs:(t=[]/\p=0/\q=ones)\/(t=[]/\p=ones/\q=0)\/(t≠[]\/t=[]/\p≠0/\p≠ones\/t=[]/\p=0/\q≠ones\/t=[]/\p=ones/\q≠0):=by
   by_cases e1:t=[]
   ·simp only[e1,true_and,ne_eq,not_true,false_or,ones];omega
   ·exact .inr (.inr (.inl e1))
  rcases cs with⟨rfl,rfl,rfl⟩|⟨rfl,rfl,rfl⟩|cs
  ·obtain rfl:r=[]:=by simpa using d
   have g:=h.bP [some (.cells [.vs (ints .i64 [(n:Int)]) .no,.vs (aj .u32 [0,ones]) .no]),some (.cells (av .u32 (cF n)))] (gU L (eZ (cF n)));have o:=h.back (gU L (eZ (cF n))) [some (.cells [.vs (ints .i64 [(n:Int)]) .no,.vs (aj .u32 [0,ones]) .no]),some (.cells (av .u32 (cF n)))];have S:=h2;simp[ones,aj] at g o S;simp(disch:=omega)[ones,aj,jW,fW,az,leFn,hd,ht,s];refine cC (AX (cF n) s S K) ?_
   simp[bt,g,o,r_,ones]
  ·obtain rfl:r=[]:=by simpa using d
   have Ci:(iv (ones::aQ 34) (cF n)).length=35:=by simp[iv,s]
   have g:=h.bP [some (.cells [.vs (ints .i64 [(n:Int)]) .no,.vs (aj .u32 [ones,0]) .no]),some (.cells (av .u32 (cF n)))] (gU L (eZ (iv (ones::aQ 34) (cF n))));have o:=h.back (gU L (eZ (iv (ones::aQ 34) (cF n)))) [some (.cells [.vs (ints .i64 [(n:Int)]) .no,.vs (aj .u32 [ones,0]) .no]),some (.cells (av .u32 (cF n)))];have S:=h2
   have VV:∀ x∈cF n,x<4294967296:=fun x N=>by
    rw[cF] at N
    rcases abE N with N|rfl
    ·rw[aQ,ab1] at N;omega
    ·omega
   simp[ones,aj] at g o S Ci;simp(disch:=omega)[ones,aj,aM,jW,fW,az,leFn,hd,s];refine ax (VI 4294967295) ?_;simp(disch:=omega)[fW,leFn,ht,s];refine ax (VR (4294967295::aQ 34) (cF n) ir s VV) ?_;simp;refine cC (AX _ Ci S K) ?_;simp[bt,g,o,r_,ones]
  ·have U4:r_ L ((n:Int)::t) (p::q::r)=bt L (tw ((n:Int)::t) (p::q::r)):=by
    cases t with
    | cons _ _=>rfl
    | nil =>
     obtain rfl:r=[]:=by simpa using d
     simp only[r_];rw[if_neg,if_neg]
     ·intro e;simp at e;simp at cs;omega
     ·intro e;simp at e;simp at cs;omega
   obtain⟨a,ha⟩:∃ a,a=tw ((n:Int)::t) (p::q::r):=⟨_,rfl⟩
   have u:(p::q::r).length<=16:=by rw[d];exact aah (n:=2) (by decide) h4
   have T:a.ok:=by
    rw[ha];refine⟨rfl,?_,?_⟩
    ·simp[tw];omega
    ·simp[tw] at u |-;omega
   have SL:(av .u32 (aQ 35)).length=35:=by simp
   obtain⟨a1,I⟩:∃ a1:Nd,a1={ qM with kind:=1,n:=t.length+1 }:=⟨_,rfl⟩;obtain⟨a2,iR⟩:∃ a2:Nd,a2={ a1 with vars:=((n:Int)::t).map abe++aQ (4-(t.length+1)) }:=⟨_,rfl⟩
   have hf:a={ a2 with tab:=p::q::r++aQ (16-(r.length+2)) }:=by rw[ha,iR,I];rfl
   have rr:∀ r:List (Nat×V),mg (fU ((66,.int .i64 ((t.length:Int)+1))::r)) qM.cs [(0,1,.c (.int .i64 1)),(36,1,.t 66)]=some a1.cs:=fun r=>by
    have he:(fU ((66,.int .i64 ((t.length:Int)+1))::r)) 66=.int .i64 ((t.length:Int)+1):=by simp
    have hd:∀ r:List V,(av .u32 (aQ 35)++r).drop 36=r.drop 1:=fun r=>by rw[show 36=(av .u32 (aQ 35)).length+1 by simp,List.drop_append];simp
    simp[mg,qM,Nd.cs,I,hd]
   have ku:a1.cs.length=60:=Nd.len (by rw[I];exact⟨rfl,rfl,rfl⟩);have yQ:a1.cs.take 60=a1.cs:=aal an;have qb:qM.cs.length=60:=rfl;have sK:qM.cs.drop 60=[]:=rfl;obtain⟨P,U⟩:∃ P,P=t.length+1:=⟨_,rfl⟩;obtain⟨Q,l7⟩:∃ Q,Q=r.length+2:=⟨_,rfl⟩
   have hg:∀ l:List Int,((ints .i64 l).map abO).sum=l.length:=fun l=>by induction l with
    | nil=>rfl
    | cons x l J=>simp only[B_,aa7,ace,J,aaC,abo];omega
   have hh:∀ l:List Nat,((aj .u32 l).map abO).sum=l.length:=fun l=>by rw[U_,ints,ab2];induction l with
    | nil=>rfl
    | cons x l J=>simp only[aa7,ace,ab2] at J |-;rw[J];simp;omega
   have hk:min ((ints .i64 ((n:Int)::t)).map abO).sum 4=P:=by rw[hg];simp;omega
   have VW:min ((aj .u32 (p::q::r)).map abO).sum 16=Q:=by rw[hh];simp at u |-;omega
   have vw:(ints .i64 ((n:Int)::t)).flatten=av .i64 (((n:Int)::t).map abe):=by
    have:∀ l:List Int,(∀ v∈l,0<=v)->(ints .i64 l).flatten=av .i64 (l.map abe):=fun l=>by
     induction l with
     | nil=>intro _;rfl
     | cons x l J =>
      intro N;rw[B_,abC,J (fun v A=>N v (by simp[A]))];have:=N x ir;simp[av];omega
    exact this _ fun v A=>by rcases aai.1 A with rfl|A;omega;exact hb v A
   have W:(aj .u32 (p::q::r)).flatten=av .u32 (p::q::r):=by
    have:∀ l:List Nat,(aj .u32 l).flatten=av .u32 l:=fun l=>by
     induction l with
     | nil=>rfl
     | cons x l J=>rw[zrd,abC,J];rfl
    exact this _
   have B:(av .i64 (((n:Int)::t).map abe)).take P=av .i64 (((n:Int)::t).map abe):=aal (by simp;omega);have C:(av .u32 (p::q::r)).take Q=av .u32 (p::q::r):=aal (by simp;omega)
   have X:∀ c:Nd,c.ok->c.cs.take 37=.int .i64 (c.kind:Int)::(av .u32 c.f++[.int .i64 (c.n:Int)])/\c.cs.drop 37=av .i64 c.vars++(av .u32 c.tab++[.int .i64 c.op,.int .i64 (c.x:Int),.int .i64 (c.y:Int)]):=fun c hc=>by
    have e:c.cs=(.int .i64 (c.kind:Int)::(av .u32 c.f++[.int .i64 (c.n:Int)]))++(av .i64 c.vars++(av .u32 c.tab++[.int .i64 c.op,.int .i64 (c.x:Int),.int .i64 (c.y:Int)])):=by simp[Nd.cs]
    have d:(V.int .i64 (c.kind:Int)::(av .u32 c.f++[.int .i64 (c.n:Int)])).length=37:=by simp[hc.1]
    rw[e];exact⟨aaM d,aa0 d⟩
   have Y:∀ c:Nd,c.ok->c.cs.take 41=.int .i64 (c.kind:Int)::(av .u32 c.f++.int .i64 (c.n:Int)::av .i64 c.vars)/\c.cs.drop 41=av .u32 c.tab++[.int .i64 c.op,.int .i64 (c.x:Int),.int .i64 (c.y:Int)]:=fun c hc=>by
    have e:c.cs=(.int .i64 (c.kind:Int)::(av .u32 c.f++.int .i64 (c.n:Int)::av .i64 c.vars))++(av .u32 c.tab++[.int .i64 c.op,.int .i64 (c.x:Int),.int .i64 (c.y:Int)]):=by simp[Nd.cs]
    have d:(V.int .i64 (c.kind:Int)::(av .u32 c.f++.int .i64 (c.n:Int)::av .i64 c.vars)).length=41:=by simp[hc.1,hc.2.1]
    rw[e];exact⟨aaM d,aa0 d⟩
   have LL:a1.ok:=by rw[I];exact⟨rfl,rfl,rfl⟩
   have Gr:a2.ok:=by rw[iR,I];refine⟨rfl,?_,rfl⟩;simp;omega
   have dz:∀(k:IntKind) (n j:Nat) (r:List V),j<=n->(av k (aQ n)++r).drop j=av k (aQ (n-j))++r:=fun k n j r h=>by
    rw[List.drop_append_of_le_length (by simp;exact h),av,<-List.map_drop,aQ,List.drop_replicate];rfl
   have D:a1.cs.take 37++(av .i64 (((n:Int)::t).map abe)++a1.cs.drop (37+P))=a2.cs:=by rw[<-aaP,(X a1 LL).1,(X a1 LL).2,show a1.vars=aQ 4 by rw[I];rfl,dz .i64 4 P _ an,iR,U];simp[Nd.cs,I,av]
   have E:a2.cs.take 41++(av .u32 (p::q::r)++a2.cs.drop (41+Q))=a.cs:=by rw[<-aaP,(Y a2 Gr).1,(Y a2 Gr).2,show a2.tab=aQ 16 by rw[iR,I];rfl,dz .u32 16 Q _ (by simp at u;omega),hf,l7];simp[Nd.cs,av]
   have xa:=Nd.len T;have Ck:=Nd.len Gr;have PX:a.cs.take 60=a.cs:=aal an
   have BU:∀(c:Nd) (n:Nat),aX n c.cs=c.cs:=fun c n=>by rw[ie];simp[Nd.cs,av,abi,V.cl]
   have O:Bk (H++[some (.cells [.vs (ints .i64 ((n:Int)::t)) .no,.vs (aj .u32 (p::q::r)) .no]),some (.cells (av .u32 (cF n))),some (.cells a.cs)]) b z m L:=h.app fun n=>by simp[aw.cl,BU,aX,V.cl]
   have g:=h.bP [some (.cells [.vs (ints .i64 ((n:Int)::t)) .no,.vs (aj .u32 (p::q::r)) .no]),some (.cells (av .u32 (cF n))),some (.cells a.cs)] (gU L a);have o:=h.back (gU L a) [some (.cells [.vs (ints .i64 ((n:Int)::t)) .no,.vs (aj .u32 (p::q::r)) .no]),some (.cells (av .u32 (cF n))),some (.cells a.cs)];rw[U4,<-ha];rw[U] at D B;rw[l7] at E C;rw[show r.length+2=r.length+1+1 from rfl] at E C
   simp only[aa7,ab5] at D B
   rcases cs with cs|⟨rfl,cs,fC⟩|⟨rfl,rfl,cs⟩|⟨rfl,rfl,cs⟩
   ·have gC:0<t.length:=List.length_pos_iff.2 cs;simp(disch:=omega)[-mg,nz,aM,jW,fW,az,leFn,hd,s,rr,ku,qb,sK,vw,W,B,C,D,E,xa,Ck,PX];refine cC (IU a T O K) ?_;simp[bt,g,o]
   ·have PY:((p:Int)==0)=false:=aM an;have Z:((p:Int)==4294967295)=false:=aM (by rw[ones] at fC;omega);have qe:∀ r,mg (fU ((66,.int .i64 1)::r)) qM.cs [(0,1,.c (.int .i64 1)),(36,1,.t 66)]=some a1.cs:=fun r=>rr r;simp at D B E C O g o;simp(disch:=omega)[PY,Z,qe,-mg,nz,jW,fW,az,leFn,hd,s,ku,qb,sK,vw,W,B,C,D,E,xa,Ck,PX];refine cC (IU a T O K) ?_;simp[bt,g,o]
   ·have Z:((q:Int)==4294967295)=false:=aM (by rw[ones] at cs;omega);have qe:∀ r,mg (fU ((66,.int .i64 1)::r)) qM.cs [(0,1,.c (.int .i64 1)),(36,1,.t 66)]=some a1.cs:=fun r=>rr r;simp at D B E C O g o;simp(disch:=omega)[Z,qe,-mg,nz,aM,jW,fW,az,leFn,hd,s,ku,qb,sK,vw,W,B,C,D,E,xa,Ck,PX];refine cC (IU a T O K) ?_;simp[bt,g,o]
   ·have Z:((q:Int)==0)=false:=aM an;have qe:∀ r,mg (fU ((66,.int .i64 1)::r)) qM.cs [(0,1,.c (.int .i64 1)),(36,1,.t 66)]=some a1.cs:=fun r=>rr r;simp[ones] at D B E C O g o;simp only[ones] at VW W;simp(disch:=omega)[ones,Z,qe,-mg,nz,aM,jW,fW,az,leFn,hd,s,ku,qb,sK,vw,W,B,C,D,E,xa,Ck,PX];refine cC (IU a T O K) ?_;simp[bt,g,o]
def gD(a:Nd):Option (List Int×List Nat) :=
 if a.kind=1 then some ((a.vars.take a.n).map fun(x:Nat)=>(x:Int),a.tab.take (2^a.n))
 else if a.kind=0 then(match o6 a.f with
  | some c=>some ([],[c])
  | none=>match my a.f with
   | some i=>some ([(i:Int)],[0,ones])
   | none=>match my (iv (ones::aQ 34) a.f) with
    | some i=>some ([(i:Int)],[ones,0])
    | none=>none)
 else none
def qP(o:Option (List Int×List Nat)):V:=match o with
 | some p=>.bc [FV p.1 p.2,.bool true]
 | none=>.bc [.agg [.vs [] .full,.vs [] .full],.bool false]
def VX(k:IntKind)(r:List V):∀(n:Nat) (l:List Nat),n<=l.length->nS 1 n (av k l++r)=aj k (l.take n)
 | 0,_,_=>by simp[nS]
 | n+1,[],h=>by simp at h
 | n+1,x::l,h=>by
  have a:=VX k r n l (by simpa using h);simp only[av,aa7,aaN,nS,List.take_succ_cons,zrd];rw[show(V.int k (x:Int)::((l.map fun(x:Nat)=>V.int k (x:Int))++r)).drop 1=av k l++r from rfl,a];rfl
def Nd.j8(n:Nat)(c:Nd):aX n c.cs=c.cs:=by rw[ie];simp[Nd.cs,av,abi,V.cl]
def VY(i:Nat)(hi:i<34):Right [(i:Int)] [0,ones]/\Right [(i:Int)] [ones,0]:=by
 constructor
 all_goals
  refine⟨ir,ir,fun j a=>?_⟩
  obtain rfl:j=0:=by simpa using a
  exact⟨_,rfl,an,an,fun u h=>absurd h an,by decide⟩
def zz3[bw G](i:Nat)(hi:i<34):FP G 109 [.int .i64 164,FV [(i:Int)] [0,ones],FV [] [ones]] (.bc [FV [(i:Int)] [ones,0],.bool true]):=by
 obtain⟨a,b⟩:=VY i hi;have c:Right [] [ones]:=⟨ir,ir,fun j d=>by simp at d⟩
 exact zIk (by infer_instance) ⟨by decide,a,c,by simp[eF]⟩ (by simp[ones]) (by simp[ones]) b fun p=>by cases h:p (i:Int)<;>simp[c_,idx,h,fL,ones]
def zx7[au G][bw G][aI G](x:Nat)(a:Nd)(h:Bk H b z m L)(A:L[x]?=some a)(hn:a.kind=1->a.n<=4)(B:∀ c∈a.f,c<4294967296):SF G 265 [.ptr b 0,.int .i64 x] H (qP (gD a)) H:=by
 refine jx aI.adt (aaa rfl) ?_;have Y:=h.lb;have hb:=h.cE
 have P:∀ r:ae,(H++r)[b]?=some (some (.cells [.vs (qN L) (.own z),.mp m])):=fun r=>by rw[aaf Y];exact hb
 have Q:=VO A;have l:=h.ok a (aaK A);have q:=Nd.len l;have R:a.cs.take 60=a.cs:=aal an;have S:qM.cs.drop 60=[]:=rfl;have T:qM.cs.length=60:=rfl;have u:=h.shut.back;have g0:a.cs.head?=some (.int .i64 (a.kind:Int)):=rfl;have U:a.cs.take 1=[.int .i64 (a.kind:Int)]:=rfl
 have Z:a.cs=(.int .i64 (a.kind:Int)::av .u32 a.f)++(.int .i64 (a.n:Int)::(av .i64 a.vars++(av .u32 a.tab++[.int .i64 a.op,.int .i64 (a.x:Int),.int .i64 (a.y:Int)]))):=by simp[Nd.cs]
 have ha:(V.int .i64 (a.kind:Int)::av .u32 a.f).length=36:=by simp[l.1]
 have C:a.cs.drop 36=.int .i64 (a.n:Int)::(av .i64 a.vars++(av .u32 a.tab++[.int .i64 a.op,.int .i64 (a.x:Int),.int .i64 (a.y:Int)])):=by rw[Z];exact aa0 ha
 have D:a.cs.drop 37=av .i64 a.vars++(av .u32 a.tab++[.int .i64 a.op,.int .i64 (a.x:Int),.int .i64 (a.y:Int)]):=by rw[show 37=36+1 from rfl,<-aaP,C];rfl
 have he:a.cs.drop 41=av .u32 a.tab++[.int .i64 a.op,.int .i64 (a.x:Int),.int .i64 (a.y:Int)]:=by rw[show 41=37+4 from rfl,<-aaP,D];exact aa0 (by simp[l.2.1])
 have hf:(a.cs.drop 36).take 1=[.int .i64 (a.n:Int)]:=by rw[C];rfl
 have hh:(a.cs.drop 1).take 35=av .u32 a.f:=by show(av .u32 a.f++_).take 35=_;rw[aaM (by simp[l.1])]
 have E:a.cs.tail.take 35=av .u32 a.f:=by rw[<-abS];exact hh
 have k9:(H.length=b)=False:=eq_false an;have hq:(b=H.length)=False:=eq_false an
 by_cases s:a.kind=1
 ·have F:((a.kind:Int)==1)=true:=Bq an;have I:=hn s;have VZ:((a.n:Int)<=4)=True:=eq_true an;have LM:2^a.n<=16:=aah (n:=2) (by decide) I;obtain⟨w,B⟩:∃ w,w=2^a.n:=⟨_,rfl⟩
  have eR:iH .i64 1 (a.n:Int)=(w:Int):=by rw[B];exact ud an
  rw[<-B] at LM;have vf:((a.n:Int)<0)=False:=eq_false an
  have ml:a.cs.all V.pure=true:=by simp[Nd.cs,av,V.pure]
  have xz:nS 1 a.n (a.cs.drop 37)=ints .i64 ((a.vars.take a.n).map fun(x:Nat)=>(x:Int)):=by rw[D,VX _ _ _ _ (by rw[l.2.1];exact I),U_];rfl
  have tH:nS 1 w (a.cs.drop 41)=aj .u32 (a.tab.take w):=by rw[he,VX _ _ _ _ (by rw[l.2.2];exact LM)]
  have o:gD a=some ((a.vars.take a.n).map fun(x:Nat)=>(x:Int),a.tab.take w):=by rw[gD,if_pos s,B]
  have LN:((w:Int)<=16)=True:=eq_true an;simp(disch:=omega)[nz,VZ,eR,LN,vf,ml,xz,tH,o,qP,FV,u,P,Q,q,R,S,T,jW,fW,az,leFn,U,hf,F]
 ·have F:((a.kind:Int)==1)=false:=aM an
  by_cases J:a.kind=0
  ·have W:((a.kind:Int) !=0)=false:=zQ an;have vg:=PW (G:=G) a.f l.1;have ve:=eG (k:=.u32) l.1;have eR:∀ r:List aw,True:=fun _=>trivial
   cases v:o6 a.f with
   | some c =>
    have o:gD a=some ([],[c]):=by rw[gD,if_neg s,if_pos J,v]
    simp(disch:=omega)[-aae,nz,W,o,qP,FV,P,Q,q,R,S,T,jW,fW,az,leFn,U,E,F];refine ax vg ?_;simp(disch:=omega)[-aae,v];refine ax (ztf (by infer_instance) c) ?_
    simp(disch:=omega)[-aae,FV,u,jW]
   | none =>
    have X:(iv (ones::aQ 34) a.f).length=35:=by simp[iv,l.1]
    obtain⟨d,wH⟩:∃ d,d=iv (ones::aQ 34) a.f:=⟨_,rfl⟩;have K:=VR (G:=G) (ones::aQ 34) a.f ir l.1 B;rw[<-wH] at X K;have zy:=eG (k:=.u32) X;have pq:(av .u32 (aQ 35)).drop 35=[]:=rfl;simp(disch:=omega)[-aae,nz,W,P,Q,q,R,S,T,jW,fW,az,leFn,U,E,F];refine ax vg ?_;simp(disch:=omega)[-aae,v];refine ax (VI 4294967295) ?_;simp(disch:=omega)[-aae,q,fW,az,leFn,E];refine ax K ?_
    simp(disch:=omega)[-aae,q,fW,az,leFn,E,X,zy,l.1,pq]
    have h3:Bk (H++[some (.cells [.vs [] .full,.vs [] .full]),some (.cells a.cs),some (.cells (av .u32 d))]) b z m L:=h.app fun n=>by simp[aw.cl,aX,V.cl,Nd.j8]
    have qZ:=h3.shut.back;have M:=h3.shut.self;simp at qZ M;have iC:(((aaq 2 (av .u32 (aQ 35))).set 0 (av .u32 a.f)).set 1 (av .u32 d))=[av .u32 a.f,av .u32 d]:=rfl;rw[iC]
    refine aP 2 (fun i=>[(4,.ptr H.length 0),(6,.ptr (H.length+1) 0),(56,.vs [av .u32 a.f,av .u32 d] .full),(57,.int .i64 2),(58,.int .i64 i)]) (fun _=>H++[some (.cells [.vs [] .full,.vs [] .full]),some (.cells a.cs),some (.cells (av .u32 d))])
     (fun i=>(0<i->my a.f=none)/\(1<i->my d=none)) ?_ ?_
    ·simp[aq,M]
    intro i hi N
    by_cases Y:i<2
    ·obtain⟨g,ef,O,PT⟩:∃ g,[av .u32 a.f,av .u32 d][i]?=some (av .u32 g)/\g.length=35/\(i=0/\g=a.f\/i=1/\g=d):=by
      rcases(show i=0\/i=1 by omega) with rfl|rfl
      ·exact⟨a.f,rfl,l.1,.inl ⟨rfl,rfl⟩⟩
      ·exact⟨d,rfl,X,.inr ⟨rfl,rfl⟩⟩
     have hm:=zCo (G:=G) g O;have jB:=eG (k:=.u32) O;have we:([av .u32 a.f,av .u32 d][i]'(by simp;omega))=av .u32 g:=(aaj.1 ef).2;have p:=Gm .u32 (n:=35) (a:=g) (b:=a.f) O l.1
     have ho:∀(r:ae),ai (H.length+3) (H++some (.cells [.vs [] .full,.vs [] .full])::some (.cells a.cs)::some (.cells (av .u32 d))::r)=H++[some (.cells [.vs [] .full,.vs [] .full]),some (.cells a.cs),some (.cells (av .u32 d))]:=fun r=>by
      have:=h3.shut.back r;simpa using this
     simp(disch:=omega)[-aae,bC,we,O,jB,pq,fW,leFn];refine ax hm ?_
     cases t:my g with
     | none =>
      have gY:my a.f=none/\(0<i->my d=none):=by
       rcases PT with⟨rfl,rfl⟩|⟨rfl,rfl⟩
       ·exact⟨t,fun h=>by omega⟩
       ·exact⟨N.1 an,fun _=>t⟩
      simp(disch:=omega)[-aae,Y,-aab,bE,aq,gY,ho]
      exact gY.2
     | some j =>
      have hj:j<34:=by have:=aa8 t;exact aa4.1 this
      have hv:=zDU (G:=G) (by infer_instance) (j:Int);rw[if_pos ⟨an,an⟩] at hv;simp(disch:=omega)[-aae];refine ax hv ?_;simp(disch:=omega)[FV,-aae,O,jB,fW,az,leFn,E,q]
      rcases PT with⟨rfl,rfl⟩|⟨rfl,rfl⟩
      ·have o:gD a=some ([(j:Int)],[0,ones]):=by rw[gD,if_neg s,if_pos J,v];simp only[t]
       simp only[decide_true] at p;simp(disch:=omega)[o,qP,FV,ones,u,-aae,p,jW,fW,leFn]
      ·have Gs:g≠a.f:=fun e=>by rw[e,N.1 an] at t;cases t
       have o:gD a=some ([(j:Int)],[ones,0]):=by rw[gD,if_neg s,if_pos J,v];simp only[N.1 an,<-wH,t]
       rw[decide_eq_false Gs] at p;simp(disch:=omega)[o,qP,FV,ones,-aae,p,fW,leFn];refine ax (ztf (by infer_instance) 4294967295) ?_;simp(disch:=omega)[FV,-aae];have A:=zz3 (G:=G) j hj;simp only[FV,ones] at A;refine ax A ?_;simp(disch:=omega)[u,-aae,jW,fW,leFn]
    ·obtain rfl:i=2:=by omega
     have h1:=N.1 an;have h2:=N.2 an
     have o:gD a=none:=by rw[gD,if_neg s,if_pos J,v];simp only[h1,<-wH,h2]
     simp(disch:=omega)[-aae,o,qP,u,jW]
  ·have o:gD a=none:=by rw[gD,if_neg s,if_neg J]
   have W:((a.kind:Int) !=0)=true:=jM an;simp(disch:=omega)[-aae,nz,W,o,qP,u,P,Q,q,R,S,T,jW,fW,az,leFn,U,F]
def Nd.wf(a:Nd):Prop:=(∀ c∈a.f,c<4294967296)/\(a.kind=1->Right ((a.vars.take a.n).map fun(x:Nat)=>(x:Int)) (a.tab.take (2^a.n))/\a.n<=4/\∀ w∈a.tab,w<4294967296)
def ry(a:Nd):Option Nat:=if a.kind=0 then o6 a.f else none
def JV[aI G](x:Nat)(a:Nd)(h:Bk H b z m L)(c:L[x]?=some a):SF G 264 [.ptr b 0,.int .i64 x] H (.bc [.agg (av .u32 a.f),.bool (decide (a.kind=0))]) H :=
 ⟨_,_,zzY x a h c,ir,h.shut.back _⟩
def EZ[aI G](i:Int)(h:Bk H b z m L):SF G 258 [.ptr b 0,.int .i64 i] H (.bool (dL L i)) H :=
 ⟨_,_,zDZ i h,rfl,h.shut.self⟩
def cV(L:List Nd)(i:Int):Option Nat:=if dL L i then(L[i.toNat]?).bind ry else none
def zmW[au G][aI G](i:Int)(h:Bk H b z m L):SF G 266 [.ptr b 0,.int .i64 i] H (.bc [.int .u32 ((cV L i).getD 0:Nat),.bool (cV L i).isSome]) H:=by
 refine jx aI.adu (aaa rfl) ?_;have l:=h.shut.back;have p:=h.shut.self;have o:(av .u32 (aQ 35)).drop 35=[]:=rfl;simp;refine cC (EZ i h) ?_;cases hi:dL L i
 ·simp[p,cV,hi]
 ·obtain⟨q,u⟩:0<=i/\i<L.length:=by simpa[dL] using hi
  obtain⟨n,rfl⟩:=aar q
  have s:n<L.length:=an
  obtain⟨a,e⟩:∃ a,L[n]?=some a:=⟨_,jX s⟩;have c:=h.ok a (aaK e);have t:=eG (k:=.u32) c.1
  have g:cV L n=ry a:=by simp[cV,hi,e]
  rw[g];simp;refine cC (JV n a (h.app (r:=[none]) fun n=>by simp) e) ?_
  by_cases d:a.kind=0
  ·have j:ry a=o6 a.f:=by rw[ry,if_pos d]
   simp[d,j,o,c.1,t];refine ax (PW a.f c.1) ?_;simp[l]
  ·have j:ry a=none:=by rw[ry,if_neg d]
   simp[d,j,o,c.1,l]
abbrev R3:=Int×Bool×List Nd
def oP(p:Int×List Nd):R3:=(p.1,true,p.2)
def mz(L:List Nd):R3:=(0,false,L)
def j0(L:List Nd)(kind:Int)(a c:Nd):R3 :=
 if a.kind=0/\c.kind=0 then
  if kind=4 then oP (bt L (eZ (oO a.f c.f)))
  else if kind=20 then oP (bt L (eZ (iv a.f c.f)))
  else match o6 a.f,o6 c.f with
   | some u,some v=>if kind=36 then oP (bt L (eZ (gV a.f v))) else if kind=100 then oP (bt L (eZ (gV a.f (fL 100 1 v).1)))
    else((bt L (eZ ((fL kind u v).1::aQ 34))).1,(fL kind u v).2,(bt L (eZ ((fL kind u v).1::aQ 34))).2)
   | none,some v=>if kind=36 then oP (bt L (eZ (gV a.f v))) else if kind=100 then oP (bt L (eZ (gV a.f (fL 100 1 v).1))) else mz L
   | some u,none=>if kind=36 then oP (bt L (eZ (gV c.f u))) else mz L
   | none,none=>mz L
 else mz L
def BF3(G:aN)(f:Nat)(args:List V)(H:ae)(b z m:Nat)(p:R3):Prop:=SF G f (.ptr b 0::args) H (.bc [.int .i64 p.1,.bool p.2.1]) (da H b z m p.2.2)
def Gt{f:List Nat}{c:Nat}(h:o6 f=some c)(a:∀ x∈f,x<4294967296):c<4294967296:=by
 rw[o6] at h;split at h
 ·exact a c (List.mem_of_mem_head? h)
 ·cases h
def zCp[dK G][au G][aI G](kind:Int)(x y:Nat)(a c:Nd)(h:Bk H b z m L)(q:L.length<1000000)(R:L[x]?=some a)(S:L[y]?=some c)(U:a.wf)(K:c.wf) :
  BF3 G 267 [.int .i64 kind,.int .i64 x,.int .i64 y] H b z m (j0 L kind a c):=by
 refine jx aI.adv (aaa rfl) ?_;have T:(av .u32 (aQ 35)).drop 35=[]:=rfl;have e:=h.ok a (aaK R);have l:=h.ok c (aaK S);have w:=eG (k:=.u32) e.1;have F:=eG (k:=.u32) l.1
 have V:Bk (H++[some (.cells (av .u32 a.f))]) b z m L:=h.app fun n=>by simp[aw.cl]
 have p:Bk (H++[some (.cells (av .u32 a.f)),some (.cells (av .u32 c.f))]) b z m L:=h.app fun n=>by simp[aw.cl]
 have A:=h.shut.back;have W:=V.shut.self;have X:=p.shut.self;have s:∀ L',da (H++[some (.cells (av .u32 a.f)),some (.cells (av .u32 c.f))]) b z m L'=da H b z m L'++[some (.cells (av .u32 a.f)),some (.cells (av .u32 c.f))]:=fun L'=>h.bP _ L';have t:∀ L' r,ai H.length (da H b z m L'++r)=da H b z m L':=fun L' r=>h.back L' r;have B:=h.fc;simp at W X;simp;refine cC (JV x a (h.app (r:=[none]) fun n=>by simp) R) ?_
 simp[T,e.1];refine cC (JV y c (h.app (r:=[some (.cells (av .u32 a.f)),none]) fun n=>by simp[aw.cl]) S) ?_;simp[T,l.1]
 by_cases g:a.kind=0
 case neg=>simp[g,j0,mz,B,A]
 by_cases o:c.kind=0
 case neg=>simp[g,o,j0,mz,B,A]
 have Y:=PW (G:=G) a.f e.1;have Z:=PW (G:=G) c.f l.1;simp[g,o,e.1,w,leFn];refine ax Y ?_;simp[l.1,F,az,leFn];refine ax Z ?_;simp
 have V2:(iv a.f c.f).length=35:=by simp[iv,e.1,l.1]
 have xa:(oO a.f c.f).length=35:=by simp[oO,e.1,l.1]
 have M:∀ k,(gV a.f k).length=35:=fun k=>by simp[gV,e.1]
 have V4:∀ k,(gV c.f k).length=35:=fun k=>by simp[gV,l.1]
 by_cases C:kind=4
 ·subst C
  have d:j0 L 4 a c=oP (bt L (eZ (oO a.f c.f))):=by simp[j0,g,o]
  simp[e.1,w,l.1,F,az,leFn];refine ax (zCn a.f c.f e.1 l.1) ?_;simp;refine cC (AX (oO a.f c.f) xa p q) ?_;simp[s,t,d,oP,bt]
 by_cases D:kind=20
 ·subst D
  have d:j0 L 20 a c=oP (bt L (eZ (iv a.f c.f))):=by simp[j0,g,o]
  simp[e.1,w,l.1,F,az,leFn];refine ax (VR a.f c.f e.1 l.1 K.1) ?_;simp;refine cC (AX (iv a.f c.f) V2 p q) ?_;simp[s,t,d,oP,bt]
 by_cases E:kind=36
 ·subst E
  cases i:o6 a.f<;>cases j:o6 c.f
  ·have d:j0 L 36 a c=mz L:=by simp[j0,g,o,i,j]
   simp[d,mz,B,A]
  ·rename_i v
   have d:j0 L 36 a c=oP (bt L (eZ (gV a.f v))):=by simp[j0,g,o,i,j]
   simp[e.1,w,leFn];refine ax (PU a.f v e.1) ?_;simp;refine cC (AX (gV a.f v) (M v) p q) ?_;simp[s,t,d,oP,bt]
  ·rename_i u
   have d:j0 L 36 a c=oP (bt L (eZ (gV c.f u))):=by simp[j0,g,o,i,j]
   simp[l.1,F,az,leFn];refine ax (PU c.f u l.1) ?_;simp;refine cC (AX (gV c.f u) (V4 u) p q) ?_;simp[s,t,d,oP,bt]
  ·rename_i u v
   have d:j0 L 36 a c=oP (bt L (eZ (gV a.f v))):=by simp[j0,g,o,i,j]
   simp[e.1,w,leFn];refine ax (PU a.f v e.1) ?_;simp;refine cC (AX (gV a.f v) (M v) p q) ?_;simp[s,t,d,oP,bt]
 have N:(kind==4)=false:=aM C;have O:(kind==20)=false:=aM D;have P:(kind==36)=false:=aM E
 by_cases I:kind=100
 ·subst I
  cases j:o6 c.f with
  | none =>
   have d:j0 L 100 a c=mz L:=by cases i:o6 a.f<;>simp[j0,g,o,i,j]
   cases i:o6 a.f<;>simp[d,mz,B,A]
  | some v =>
   have d:j0 L 100 a c=oP (bt L (eZ (gV a.f (fL 100 1 v).1))):=by cases i:o6 a.f<;>simp[j0,g,o,i,j]
   have J:=HF (G:=G) (by infer_instance) 100 1 v (by decide) (Gt j K.1);simp at J;simp;refine ax J ?_;simp[e.1,w,leFn];refine ax (PU a.f (fL 100 1 v).1 e.1) ?_;simp;refine cC (AX (gV a.f (fL 100 1 v).1) (M _) p q) ?_;simp[s,t,d,oP,bt]
 have Q:(kind==100)=false:=aM I
 cases i:o6 a.f with
 | none =>
  have d:j0 L kind a c=mz L:=by cases j:o6 c.f<;>simp[j0,g,o,i,j,C,D,E,I]
  simp[N,O,P,Q,d,mz,B,A]
 | some u =>
  cases j:o6 c.f with
  | none =>
   have d:j0 L kind a c=mz L:=by simp[j0,g,o,i,j,C,D,E]
   simp[N,O,P,Q,d,mz,B,A]
  | some v =>
   have d:j0 L kind a c=((bt L (eZ ((fL kind u v).1::aQ 34))).1,(fL kind u v).2,(bt L (eZ ((fL kind u v).1::aQ 34))).2):=by simp[j0,g,o,i,j,C,D,E,I]
   have J:=HF (G:=G) (by infer_instance) kind u v (Gt i U.1) (Gt j K.1);simp[N,O,P,Q];refine ax J ?_;simp;refine cC (HB (fL kind u v).1 p q) ?_;simp[s,t,d,bt]
def zvd{f:List Nat}{i:Nat}(h:my f=some i):i<34:=aa4.1 (aa8 h)
def E2{a:Nd}{p:List Int×List Nat}(d:a.wf)(h:gD a=some p):Right p.1 p.2/\∀ w∈p.2,w<4294967296:=by
 rw[gD] at h;split at h
 ·rename_i e;obtain⟨f,m,g⟩:=d.2 e;cases h;exact⟨f,fun w b=>g w (List.mem_of_mem_take b)⟩
 ·split at h
  ·split at h
   ·rename_i c k;cases h;exact⟨⟨ir,ir,fun j l=>by simp at l⟩,fun w b=>by rw[abY.1 b];exact Gt k d.1⟩
   ·split at h
    ·rename_i i hi;cases h;exact⟨(VY i (zvd hi)).1,by simp[ones]⟩
    ·split at h
     ·rename_i i hi;cases h;exact⟨(VY i (zvd hi)).2,by simp[ones]⟩
     ·cases h
  ·cases h
open Classical in
noncomputable def yw(kind:Int)(p q:List Int×List Nat):Option (List Int×List Nat) :=
 if h:ny kind p.1 q.1 p.2 q.2/\∃ r:List Int×List Nat,Right r.1 r.2/\(∀ w∈r.2,w<4294967296)/\∀ s,c_ r.1 r.2 s=(fL kind (c_ p.1 p.2 s) (c_ q.1 q.2 s)).1 then some (Classical.choose h.2) else none
def Cn(o:Option (List Int×List Nat)):V:=match o with
 | some p=>.bc [FV p.1 p.2,.bool true]
 | none=>.bc [FV [] [],.bool false]
def V7{kind:Int}{p q r:List Int×List Nat}(h:yw kind p q=some r):ny kind p.1 q.1 p.2 q.2/\Right r.1 r.2/\(∀ w∈r.2,w<4294967296)/\∀ s,c_ r.1 r.2 s=(fL kind (c_ p.1 p.2 s) (c_ q.1 q.2 s)).1:=by
 rw[yw] at h;split at h
 ·rename_i a;cases h;exact⟨a.1,Classical.choose_spec a.2⟩
 ·cases h
def zD1[j:bw G](kind:Int)(p q:List Int×List Nat)(c:Right p.1 p.2)(d:Right q.1 q.2)(k:∀ w∈p.2,w<4294967296)(l:∀ w∈q.2,w<4294967296) :
  FP G 109 [.int .i64 kind,FV p.1 p.2,FV q.1 q.2] (Cn (yw kind p q))/\(yw kind p q=none->¬ny kind p.1 q.1 p.2 q.2):=by
 have b:=c.1;have m:=d.1;have y:=Ay b c.2.1;have z:=Ay m d.2.1;obtain⟨r,f,h|⟨n,o,t,rfl,g,u,i⟩⟩:=zBj j kind p.1 q.1 p.2 q.2 an an an an k l
 ·have e:yw kind p q=none:=by rw[yw,dif_neg (fun a=>h.1 a.1)]
  rw[e];obtain⟨b,rfl⟩:=h;exact⟨f,fun _=>b⟩
 ·have a:ny kind p.1 q.1 p.2 q.2/\∃ r:List Int×List Nat,Right r.1 r.2/\(∀ w∈r.2,w<4294967296)/\∀ s,c_ r.1 r.2 s=(fL kind (c_ p.1 p.2 s) (c_ q.1 q.2 s)).1:=⟨n,(o,t),g,u,i⟩
  have e:yw kind p q=some (Classical.choose a.2):=by rw[yw,dif_pos a]
  obtain⟨_,R,W,S⟩:=V7 e;rw[e];refine⟨?_,fun h=>by cases h⟩
  obtain⟨v,x⟩:=zBi g R fun s=>by rw[i,S]
  rw[Cn,<-v,<-x];exact f
noncomputable def mB(L:List Nd)(kind:Int)(a c:Nd):R3 :=
 match gD a,gD c with
 | some p,some q=>(match yw kind p q with|some r=>oP (r_ L r.1 r.2)|none=>mz L)
 | _,_=>mz L
def E1[au G][bw G][aI G](x:Nat)(a:Nd)(h:Bk H b z m L)(d:L[x]?=some a)(c:a.wf):SF G 265 [.ptr b 0,.int .i64 x] H (qP (gD a)) H :=
 zx7 x a h d (fun e=>(c.2 e).2.1) c.1
def kA(o:Option (List Int×List Nat)):List V:=match o with
 | some p=>[.vs (ints .i64 p.1) .no,.vs (aj .u32 p.2) .no]
 | none=>[.vs [] .full,.vs [] .full]
def HP(o:Option (List Int×List Nat)):qP o=.bc [.agg (kA o),.bool o.isSome]:=by cases o<;>rfl
def HQ(o:Option (List Int×List Nat)):(kA o).length=2:=by cases o<;>rfl
def HO(o:Option (List Int×List Nat))(n:Nat):aX n (kA o)=kA o:=by cases o<;>simp[kA,aX,V.cl]
def zz4[au G][bw G][aI G](kind:Int)(x y:Nat)(a c:Nd)(h:Bk H b z m L)(u:L.length<1000000)(v:L[x]?=some a)(w:L[y]?=some c)(k:a.wf)(l:c.wf) :
  BF3 G 268 [.int .i64 kind,.int .i64 x,.int .i64 y] H b z m (mB L kind a c):=by
 refine jx aI.adw (aaa rfl) ?_
 have A:Bk (H++[some (.cells (kA (gD a)))]) b z m L:=h.app fun n=>by simp[aw.cl,HO]
 have o:Bk (H++[some (.cells (kA (gD a))),some (.cells (kA (gD c)))]) b z m L:=h.app fun n=>by simp[aw.cl,HO]
 have g:=h.shut.back;have B:=A.shut.self;have s:=o.shut.self;have C:∀ L' r,ai H.length (da H b z m L'++r)=da H b z m L':=fun L' r=>h.back L' r;have i:=h.fc;simp at B s;simp;refine cC (E1 x a (h.app (r:=[none]) fun n=>by simp) v k) ?_;simp[HP,HQ];refine cC (E1 y c (h.app (r:=[some (.cells (kA (gD a))),none]) fun n=>by simp[aw.cl,HO]) w l) ?_;simp[HP,HQ]
 cases e:gD a with
 | none => 
  have d:mB L kind a c=mz L:=by simp[mB,e]
  simp[d,mz,i,g]
 | some p =>
  cases f:gD c with
  | none =>
   have d:mB L kind a c=mz L:=by simp[mB,e,f]
   simp[d,mz,i,g]
  | some q =>
   obtain⟨D,E⟩:=E2 k e;obtain⟨F,I⟩:=E2 l f;obtain⟨t,M⟩:=zD1 (G:=G) kind p q D F E I;simp[e,f] at s o;simp[kA];simp only[FV] at t;refine ax t ?_
   cases j:yw kind p q with
   | none =>
    have d:mB L kind a c=mz L:=by simp[mB,e,f,j]
    simp[Cn,FV,d,mz,i,g]
   | some r =>
    have d:mB L kind a c=oP (r_ L r.1 r.2):=by simp[mB,e,f,j]
    simp[Cn,FV,d,oP]
    have J:Bk (H++[some (.cells [.vs (ints .i64 p.1) .no,.vs (aj .u32 p.2) .no]),some (.cells [.vs (ints .i64 q.1) .no,.vs (aj .u32 q.2) .no]),some (.cells [.vs (ints .i64 r.1) .no,.vs (aj .u32 r.2) .no])]) b z m L :=
     h.app fun n=>by simp[aw.cl,aX,V.cl]
    have K:=h.bP [some (.cells [.vs (ints .i64 p.1) .no,.vs (aj .u32 p.2) .no]),some (.cells [.vs (ints .i64 q.1) .no,.vs (aj .u32 q.2) .no]),some (.cells [.vs (ints .i64 r.1) .no,.vs (aj .u32 r.2) .no])] (r_ L r.1 r.2).2;refine cC (zz2 r.1 r.2 (V7 j).2.1 J u) ?_;simp[K,C]
def j4(kind:Int)(a:Option Nat)(x y:Int):Int×Bool :=
 if kind=4\/kind=20\/kind=100\/kind=116 then(x,decide (a=some 0)) else if kind=68 then(x,decide (a=some 0)||decide (x=y)) else if kind=164 then(x,decide (a=some 0))
 else if kind=84 then(x,decide (a=some ones)||decide (x=y)) else(0,false)
def zrr[au G][aI G](kind x y:Int)(h:Bk H b z m L) :
  SF G 269 [.ptr b 0,.int .i64 kind,.int .i64 x,.int .i64 y] H (.bc [.int .i64 (j4 kind (cV L y) x y).1,.bool (j4 kind (cV L y) x y).2]) H:=by
 refine jx aI.adx (aaa rfl) ?_;have a:=h.shut.self;simp;refine cC (zmW y h) ?_
 have l:((x==y):Bool)=decide (x=y):=by rw[aaS];simp
 have n:∀(u w:Bool),u=decide (cV L y=some 0)->w=decide (cV L y=some ones)->True:=fun _ _ _ _=>trivial
 cases s:cV L y with
 | none =>
  simp
  by_cases d:kind=4
  ·subst d;simp[a,j4]
  by_cases e:kind=20
  ·subst e;simp[a,j4]
  by_cases f:kind=100
  ·subst f;simp[a,j4]
  by_cases g:kind=116
  ·subst g;simp[a,j4]
  by_cases i:kind=68
  ·subst i;simp[a,j4,l]
  by_cases j:kind=164
  ·subst j;simp[a,j4]
  by_cases k:kind=84
  ·subst k;simp[a,j4,l]
  simp[a,j4,aM d,aM e,aM f,aM g,aM i,aM j,aM k,d,e,f,g,i,j,k]
 | some c =>
  have q:((c:Int)==0)=decide (c=0):=by rw[aaS];simp
  have r:((c:Int)==4294967295)=decide (c=4294967295):=by rw[aaS];simp;omega
  simp[q,r]
  by_cases d:kind=4
  ·subst d;simp[a,j4]
  by_cases e:kind=20
  ·subst e;simp[a,j4]
  by_cases f:kind=100
  ·subst f;simp[a,j4]
  by_cases g:kind=116
  ·subst g;simp[a,j4]
  by_cases i:kind=68
  ·subst i
   by_cases o:c=0
   ·simp[a,j4,o]
   ·simp[a,j4,l,o]
  by_cases j:kind=164
  ·subst j;simp[a,j4]
  by_cases k:kind=84
  ·subst k
   by_cases p:c=4294967295
   ·simp[a,j4,p,ones]
   ·simp[a,j4,l,p,ones]
  simp[a,j4,aM d,aM e,aM f,aM g,aM i,aM j,aM k,d,e,f,g,i,j,k]
variable {L:List Nd}
def Nd.cQ(n:Nat)(a:Nd):Prop:=a.ok/\a.wf/\(a.kind=0\/a.kind=1\/a.kind=2/\a.x<n/\a.y<n/\(fL a.op 0 1).2=true)
structure Inv (L:List Nd):Prop where
 cQ:∀(i:Nat) (a:Nd),L[i]?=some a->a.cQ i
 one:L.Nodup
def Inv.ok(h:Inv L):∀ a∈L,a.ok:=fun a b=>by obtain⟨i,hi⟩:=abn b;exact(h.cQ i a hi).1
def Inv.wf(h:Inv L):∀ a∈L,a.wf:=fun a b=>by obtain⟨i,hi⟩:=abn b;exact(h.cQ i a hi).2.1
def Inv.nil:Inv []:=⟨fun i a h=>by simp at h,List.nodup_nil⟩
structure Ext (L L':List Nd) (k:Nat):Prop where
 pre:L <+: L'
 inv:Inv L'
 len:L'.length<=L.length+k
def Ext.refl(h:Inv L)(k:Nat):Ext L L k:=⟨ab_ L,h,an⟩
def Ext.trans{L' Sa:List Nd}{k l:Nat}(h:Ext L L' k)(a:Ext L' Sa l):Ext L Sa (k+l):=⟨h.pre.trans a.pre,a.inv,by have:=h.len;have:=a.len;omega⟩
def Ext.mono{L':List Nd}{k l:Nat}(h:Ext L L' k)(a:k<=l):Ext L L' l:=⟨h.pre,h.inv,by have:=h.len;omega⟩
def zCq{α:Type}{l b:List α}(h:l <+: b){i:Nat}{a:α}(hi:l[i]?=some a):b[i]?=some a:=by obtain⟨t,rfl⟩:=h;rw[aaf (aaj.1 hi).1];exact hi
def Ext.get{L':List Nd}{k i:Nat}{a:Nd}(h:Ext L L' k)(hi:L[i]?=some a):L'[i]?=some a:=zCq h.pre hi
def vT(h:Inv L){a:Nd}(f:a.cQ L.length):Ext L (bt L a).2 1/\∃ i:Nat,(bt L a).1=i/\(bt L a).2[i]?=some a:=by
 by_cases c:a∈L
 ·have e:(bt L a).2=L:=by show gU L a=L;rw[gU,if_pos c]
  refine⟨by rw[e];exact .refl h 1,L.idxOf a,rfl,?_⟩;rw[e,aac (aby c),List.getElem_idxOf]
 ·have e:(bt L a).2=L++[a]:=by show gU L a=_;rw[gU,if_neg c]
  have g:(bt L a).1=(L.length:Nat):=by show((L.idxOf a:Nat):Int)=_;rw[zrq c]
  refine⟨⟨by rw[e];exact ab3 _ _,?_,by rw[e];simp⟩,L.length,g,by rw[e];simp⟩;rw[e];refine⟨fun i x b=>?_,?_⟩
  ·by_cases hi:i<L.length
   ·rw[aaf hi] at b;exact h.cQ i x b
   ·have j:=(aaj.1 b).1;simp at j
    obtain rfl:i=L.length:=by omega
    simp at b;subst b;exact f
  ·rw[List.nodup_append];exact⟨h.one,ir,fun x b y d e'=>by simp at d;rw[<-d,<-e'] at c;exact c b⟩
def yJ{f:List Nat}(a:f.length=35)(b:∀ c∈f,c<4294967296)(n:Nat):(eZ f).cQ n:=⟨⟨a,rfl,rfl⟩,⟨b,fun h=>by cases h⟩,.inl rfl⟩
def uX(n:Nat):∀ c∈aQ n,c<4294967296:=fun c a=>by rw[aQ,ab1] at a;omega
def EG{c:Nat}(b:c<4294967296):∀ x∈c::aQ 34,x<4294967296:=fun x a=>by
 rcases aai.1 a with rfl|a
 ·exact b
 ·exact uX 34 x a
def zve(i:Nat):∀ x∈cF i,x<4294967296:=fun x a=>by
 rw[cF] at a
 rcases abE a with a|rfl
 ·exact uX 35 x a
 ·omega
def V8(i:Nat):(cF i).length=35:=by simp[cF]
def V9{o:Nat->Nat->Nat}(d:∀ a b,o a b<4294967296):∀(f g:List Nat),∀ x∈aau o f g,x<4294967296
 | [],_,x,c=>by simp at c
 | _::_,[],x,c=>by simp at c
 | a::f,b::g,x,c=>by
  simp only[List.zipWith_cons_cons,aai] at c
  rcases c with rfl|c
  ·exact d a b
  ·exact V9 d f g x c
def zCr(f g:List Nat):∀ x∈oO f g,x<4294967296:=V9 (fun a b=>aaI _ (by decide)) f g
def zvf(f g:List Nat):∀ x∈iv f g,x<4294967296:=V9 (fun a b=>aaI _ (by decide)) f g
def LP(f:List Nat)(k:Nat):∀ x∈gV f k,x<4294967296:=fun x a=>by
 obtain⟨y,_,rfl⟩:=abm.1 a;exact aaI _ (by decide)
def zz5{f g:List Nat}(a:f.length=35)(b:g.length=35):(oO f g).length=35:=by simp[oO,a,b]
def ztn{f g:List Nat}(a:f.length=35)(b:g.length=35):(iv f g).length=35:=by simp[iv,a,b]
def LQ{f:List Nat}(k:Nat)(a:f.length=35):(gV f k).length=35:=by simp[gV,a]
def zpA{a:List Int}{b:List Nat}(h:∀ v∈a,0<=v)(c:b.length=2^a.length):((tw a b).vars.take (tw a b).n).map (fun(x:Nat)=>(x:Int))=a/\(tw a b).tab.take (2^(tw a b).n)=b:=by
 constructor
 ·show((a.map abe++aQ (4-a.length)).take a.length).map _=a;rw[aaM ir,ab2]
  conv=>rhs;rw[<-List.map_id a]
  exact List.map_congr_left fun v d=>by have:=h v d;simp;omega
 ·show(b++aQ (16-b.length)).take (2^a.length)=b;rw[<-c];exact aaM rfl
def zto{a:List Int}{d:List Nat}(h:Right a d):∀ v∈a,0<=v:=fun v e=>by
 obtain⟨j,b,rfl⟩:=abU e;obtain⟨w,c,f,_⟩:=h.2.2 j b;rw[aac b] at c;cases c;exact f
def zz6{b:List Int}{a:List Nat}(h:Right b a)(f:∀ c∈a,c<4294967296)(n:Nat):(tw b a).cQ n:=by
 have d:=h.1
 have j:a.length<=16:=by rw[h.2.1];exact aah (n:=2) (by decide) d
 obtain⟨g,i⟩:=zpA (zto h) h.2.1;refine⟨⟨rfl,by simp[tw];omega,by simp[tw];omega⟩,⟨uX 35,fun _=>⟨?_,d,?_⟩⟩,.inr (.inl rfl)⟩
 ·rw[g,i];exact h
 ·intro w e;simp only[tw,abK] at e
  rcases e with h|h
  ·exact f w h
  ·exact uX _ w h
def zCs:∀ i,i<34->gD (eZ (cF i))=some ([(i:Int)],[0,ones])/\gD (eZ (iv (ones::aQ 34) (cF i)))=some ([(i:Int)],[ones,0]):=by decide +kernel
def zz7(h:Inv L){d:List Int}{b:List Nat}(j:Right d b)(q:∀ c∈b,c<4294967296):Ext L (r_ L d b).2 1/\∃(i:Nat) (a:Nd),(r_ L d b).1=i/\(r_ L d b).2[i]?=some a/\gD a=some (d,b):=by
 have g:r_ L d b=bt L (tw d b)->Ext L (r_ L d b).2 1/\∃(i:Nat) (a:Nd),(r_ L d b).1=i/\(r_ L d b).2[i]?=some a/\gD a=some (d,b):=fun e=>by
  obtain⟨o,p⟩:=zpA (zto j) j.2.1;obtain⟨k,i,l,m⟩:=vT h (zz6 j q _);rw[e];exact⟨k,i,_,l,m,by rw[gD,if_pos (show(tw d b).kind=1 from rfl),o,p]⟩
 match d,j,g with
 | [],j,g =>
  obtain⟨c,rfl⟩:∃ c,b=[c]:=by match b,j.2.1 with|[c],_=>exact⟨c,rfl⟩
  obtain⟨k,i,l,m⟩:=vT h (yJ (f:=c::aQ 34) ir (EG (q c ir)) _)
  exact⟨k,i,_,l,m,by simp[gD,eZ,qM,o6]⟩
 | [v],j,g =>
  obtain⟨w,r,s,z,_⟩:=j.2.2 0 ir
  obtain rfl:v=w:=by simpa using r
  obtain⟨n,rfl⟩:=aar s;obtain⟨x,y⟩:=zCs n an
  by_cases o:b=[0,ones]
  ·have e:r_ L [(n:Int)] b=bt L (eZ (cF n)):=by rw[o];rfl
   obtain⟨k,i,l,m⟩:=vT h (yJ (V8 n) (zve n) _);rw[e];exact⟨k,i,_,l,m,by rw[x,o]⟩
  ·by_cases p:b=[ones,0]
   ·have e:r_ L [(n:Int)] b=bt L (eZ (iv (ones::aQ 34) (cF n))):=by rw[p];rfl
    obtain⟨k,i,l,m⟩:=vT h (yJ (ztn (f:=ones::aQ 34) rfl (V8 n)) (zvf _ _) _);rw[e];exact⟨k,i,_,l,m,by rw[y,p]⟩
   ·exact g (by simp only[r_,o,p,if_false])
 | u::v::t,j,g=>exact g rfl
def fY.pd{H:ae}(h:fY H){r:ae}(b:∀ n,(H++r).length<=n->r.map (aaY (aw.cl n))=r):fY (H++r):=by intro m a;rw[abJ,b m a,h m (by rw[aaZ] at a;omega)]
def Bk.pd(h:Bk H b z m L){r:ae}(a:∀ n,(H++r).length<=n->r.map (aaY (aw.cl n))=r):Bk (H++r) b z m L :=
 ⟨by rw[aaf h.lb];exact h.hb,by rw[aaf h.lz];exact h.hz,by rw[aaf h.lm];exact h.hm,h.shut.pd a,h.ok,h.small⟩
def Bk.to(h:Bk H b z m L){L':List Nd}(hi:Inv L')(a:L'.length<=1000000):Bk (da H b z m L') b z m L':=h.Gn hi.ok a
def zrs(h:Bk H b z m L){L':List Nd}{p:Nat}{c:List V}(a:H[p]?=some (some (.cells c)))(d:p≠b):(da H b z m L')[p]?=some (some (.cells c)):=by
 unfold da
 have f:m≠p:=fun e=>by subst e;rw[h.hm] at a;simp at a
 have g:z≠p:=fun e=>by subst e;rw[h.hz] at a;simp at a
 rw[aat f,aat g,aat (Ne.symm d)];exact a
def yx(kind:Int):Bool:=decide (kind≠20/\kind≠52/\kind≠100/\kind≠116)
def AY(kind:Int)(x y:Nat):Nd:={ qM with kind:=2,op:=kind,x:=x,y:=y }
noncomputable def rz(L:List Nd)(kind:Int)(x y:Nat)(a c:Nd):Int×List Nd :=
 let b:=j0 L kind a c
 let d:=mB b.2.2 kind a c
 let e:=j4 kind (ry c) x y
 let f:=j4 kind (ry a) y x
 if b.2.1=true then(b.1,b.2.2) else if d.2.1=true then(d.1,d.2.2) else if e.2=true then(e.1,b.2.2)
 else if yx kind=true/\f.2=true then(f.1,b.2.2)
 else if yx kind=true/\y<x then bt b.2.2 (AY kind y x) else bt b.2.2 (AY kind x y)
noncomputable def ig(L:List Nd)(kind x y:Int):Int×List Nd :=
 if(fL kind 0 1).2=true/\dL L x=true/\dL L y=true then(match L[x.toNat]?,L[y.toNat]? with|some a,some c=>rz L kind x.toNat y.toNat a c|_,_=>(-1,L)) else(-1,L)
def zCt(L:List Nd)(kind:Int)(a c:Nd)(h:(mB L kind a c).2.1=false):(mB L kind a c).2.2=L:=by
 cases b:gD a with
 | none=>simp[mB,b,mz]
 | some p =>
  cases d:gD c with
  | none=>simp[mB,b,d,mz]
  | some q =>
   cases e:yw kind p q with
   | none=>simp[mB,b,d,e,mz]
   | some r=>simp[mB,b,d,e,oP] at h
section
variable {K:ae} {kind:Int} {x y p0 p1 p2 p3 p4:Nat} {a c:Nd}
def zCu[dK G][au G][aI G](h:Bk K b z m L)(e:L.length<1000000)(f:L[x]?=some a)(g:L[y]?=some c)(i:a.wf)(j:c.wf)
  (k:K[p0]?=some (some (.cells [.ptr b 0]))) (l:K[p1]?=some (some (.cells [.int .i64 kind]))) (n:K[p2]?=some (some (.cells [.int .i64 x]))) (o:K[p3]?=some (some (.cells [.int .i64 y]))) :
  SF G 270 [.ptr p0 0,.ptr p1 0,.ptr p2 0,.ptr p3 0] K (.bc [.int .i64 (j0 L kind a c).1,.bool (j0 L kind a c).2.1]) (da K b z m (j0 L kind a c).2.2):=by
 refine jx aI.ady (aaa rfl) ?_;have d:=h.back (j0 L kind a c).2.2 [];simp at d;simp[k,l,n,o];refine cC (zCp kind x y a c h e f g i j) ?_;simp[d]
def zCv[au G][bw G][aI G](h:Bk K b z m L)(e:L.length<1000000)(f:L[x]?=some a)(g:L[y]?=some c)(i:a.wf)(j:c.wf)
  (k:K[p0]?=some (some (.cells [.ptr b 0]))) (l:K[p1]?=some (some (.cells [.int .i64 kind]))) (n:K[p2]?=some (some (.cells [.int .i64 x]))) (o:K[p3]?=some (some (.cells [.int .i64 y]))) :
  SF G 271 [.ptr p0 0,.ptr p1 0,.ptr p2 0,.ptr p3 0] K (.bc [.int .i64 (mB L kind a c).1,.bool (mB L kind a c).2.1]) (da K b z m (mB L kind a c).2.2):=by
 refine jx aI.adz (aaa rfl) ?_;have d:=h.back (mB L kind a c).2.2 [];simp at d;simp[k,l,n,o];refine cC (zz4 kind x y a c h e f g i j) ?_;simp[d]
def zCw[au G][aI G](h:Bk K b z m L)
  (a:K[p0]?=some (some (.cells [.ptr b 0]))) (c:K[p1]?=some (some (.cells [.int .i64 kind]))) (d:K[p2]?=some (some (.cells [.int .i64 x]))) (e:K[p3]?=some (some (.cells [.int .i64 y]))) :
  SF G 272 [.ptr p0 0,.ptr p1 0,.ptr p2 0,.ptr p3 0] K (.bc [.int .i64 (j4 kind (cV L y) x y).1,.bool (j4 kind (cV L y) x y).2]) K:=by
 refine jx aI.adA (aaa rfl) ?_;have f:=h.shut.self;simp[a,c,d,e];refine cC (zrr kind x y h) ?_;simp[f]
def zCx[au G][aI G](a:Bool)(h:Bk K b z m L)(c:K[p4]?=some (some (.cells [.bool a])))
  (e:K[p0]?=some (some (.cells [.ptr b 0]))) (f:K[p1]?=some (some (.cells [.int .i64 kind]))) (g:K[p2]?=some (some (.cells [.int .i64 x]))) (i:K[p3]?=some (some (.cells [.int .i64 y]))) :
  SF G 273 [.ptr p4 0,.ptr p0 0,.ptr p1 0,.ptr p3 0,.ptr p2 0] K (.bc [.int .i64 (if a=true then(j4 kind (cV L x) y x).1 else 0),.bool (a&&(j4 kind (cV L x) y x).2)]) K:=by
 refine jx aI.adB (aaa rfl) ?_;have d:=h.shut.self;cases a
 ·simp[c,d]
 ·simp[e,f,g,i,c];refine cC (zrr kind y x h) ?_;simp[d]
end
def ztp{kind:Int}{a c:Nd}(h:Inv L)(d:a.ok)(g:c.ok)(i:a.wf)(j:c.wf):Ext L (j0 L kind a c).2.2 1:=by
 have e:Ext L (mz L).2.2 1:=.refl h 1;have b:∀ f:List Nat,f.length=35->(∀ x∈f,x<4294967296)->Ext L (oP (bt L (eZ f))).2.2 1:=fun f k l=>(vT h (yJ k l _)).1;rw[j0];split
 ·split
  ·exact b _ (zz5 d.1 g.1) (zCr _ _)
  ·split
   ·exact b _ (ztn d.1 g.1) (zvf _ _)
   ·split
    ·rename_i u v m n;split
     ·exact b _ (LQ _ d.1) (LP _ _)
     ·split
      ·exact b _ (LQ _ d.1) (LP _ _)
      ·exact(vT h (yJ ir (EG (RM kind (Gt m i.1) (Gt n j.1))) _)).1
    ·split
     ·exact b _ (LQ _ d.1) (LP _ _)
     ·split
      ·exact b _ (LQ _ d.1) (LP _ _)
      ·exact e
    ·split
     ·exact b _ (LQ _ g.1) (LP _ _)
     ·exact e
    ·exact e
 ·exact e
def zrt{y:Nat}{c:Nd}(a:L[y]?=some c):cV L y=ry c:=by
 have b:=(aaj.1 a).1
 have d:dL L y=true:=by simp[dL];exact b
 simp[cV,d,a]
def P0{f:Nat}{cap args:List V}{r:V}{H':ae}{base:Nat}{d:Option Nat}{os:List aC}{K:List Kt}{e:Env}{Q:Ex->Env->ae->Prop}(h:SF G f (args++cap) H r H')
  (a:WO G base os K (e.put d r) H' Q):IH G false (.fn f cap) args base d os K e H Q:=by
 obtain⟨i,H1,b,c,g⟩:=h;refine jL b ir ?_;rw[c,g];exact a
def NT[dK G][au G][bw G][aI G](kind x y:Int)(h:Bk H b z m L)(hi:Inv L)(hs:L.length<999990):BF G 274 [.int .i64 kind,.int .i64 x,.int .i64 y] H b z m (ig L kind x y):=by
 refine jx aI.adC (aaa rfl) ?_;obtain⟨B0,IY⟩:∃ B0:ae,B0=[some (.cells [.ptr b 0]),some (.cells [.int .i64 kind]),some (.cells [.int .i64 x]),some (.cells [.int .i64 y])]:=⟨_,rfl⟩
 have X:∀ n,H.length<=n->b<n:=fun n D=>by have:=h.lb;omega
 have h1:Bk (H++[some (.cells [.ptr b 0]),some (.cells [.int .i64 kind]),some (.cells [.int .i64 x]),some (.cells [.int .i64 y])]) b z m L:=h.pd fun n D=>by simp[aw.cl,aX,V.cl];exact X n (by simp at D;omega)
 have qo:=h1.shut.self;have eR:=h.shut.back;have T:=h.fc;simp at qo;have u0:=HF (G:=G) (by infer_instance) kind 0 1 (by decide) (by decide);simp at u0
 have iz:∀ p:Prop,ig L kind x y=(-1,L)->p->(ig L kind x y).1=-1/\da H b z m (ig L kind x y).2=H:=fun p e _=>by rw[e];exact⟨rfl,T⟩
 simp;refine ax u0 ?_;simp
 cases jJ:(fL kind 0 1).2 with
 | false =>
  have J:ig L kind x y=(-1,L):=by rw[ig,if_neg (by simp[jJ])]
  simp[J,T,eR]
 | true =>
  simp;refine cC (EZ x h1) ?_
  cases hx:dL L x with
  | false =>
   have J:ig L kind x y=(-1,L):=by rw[ig,if_neg (by simp[hx])]
   simp[J,T,eR]
  | true =>
   simp;refine cC (EZ y h1) ?_
   cases hy:dL L y with
   | false =>
    have J:ig L kind x y=(-1,L):=by rw[ig,if_neg (by simp[hy])]
    simp[J,T,eR]
   | true =>
    obtain⟨uD,yk⟩:0<=x/\x<L.length:=by simpa[dL] using hx
    obtain⟨E0,Ax⟩:0<=y/\y<L.length:=by simpa[dL] using hy
    obtain⟨f,rfl⟩:=aar uD;obtain⟨g,rfl⟩:=aar E0;obtain⟨a,Y⟩:∃ a,L[f]?=some a:=⟨_,jX an⟩;obtain⟨c,Z⟩:∃ c,L[g]?=some c:=⟨_,jX an⟩
    have J:ig L kind f g=rz L kind f g a c:=by rw[ig,if_pos ⟨jJ,hx,hy⟩];simp[Y,Z]
    rw[J];obtain⟨l,v⟩:∃ l,l=yx kind:=⟨_,rfl⟩
    have h2:Bk (H++[some (.cells [.ptr b 0]),some (.cells [.int .i64 kind]),some (.cells [.int .i64 f]),some (.cells [.int .i64 g]),some (.cells [.bool l])]) b z m L:=h.pd fun n D=>by simp[aw.cl,aX,V.cl];exact X n (by simp at D;omega)
    obtain⟨C,K⟩:∃ C:List V,C=[.fn 270 [.ptr H.length 0,.ptr (H.length+1) 0,.ptr (H.length+2) 0,.ptr (H.length+3) 0],.fn 271 [.ptr H.length 0,.ptr (H.length+1) 0,.ptr (H.length+2) 0,.ptr (H.length+3) 0],
     .fn 272 [.ptr H.length 0,.ptr (H.length+1) 0,.ptr (H.length+2) 0,.ptr (H.length+3) 0],.fn 273 [.ptr (H.length+4) 0,.ptr H.length 0,.ptr (H.length+1) 0,.ptr (H.length+3) 0,.ptr (H.length+2) 0]]:=⟨_,rfl⟩
    have s9:=h2.shut.self;simp at s9
    have c5:kind=20/\l=false\/kind=52/\l=false\/kind=100/\l=false\/kind=116/\l=false\/(kind≠20/\kind≠52/\kind≠100/\kind≠116)/\l=true:=by
     by_cases a1:kind=20
     ·simp[a1,v,yx]
     by_cases a2:kind=52
     ·simp[a2,v,yx]
     by_cases a3:kind=100
     ·simp[a3,v,yx]
     by_cases a4:kind=116
     ·simp[a4,v,yx]
     simp[a1,a2,a3,a4,v,yx]
    have P2:kind≠20->(kind !=20)=true:=fun h=>jM h;have V_:kind≠52->(kind !=52)=true:=fun h=>jM h;have LR:kind≠100->(kind !=100)=true:=fun h=>jM h;have Wa:kind≠116->(kind !=116)=true:=fun h=>jM h
    have U:∀ n,H.length+6<=n->aX n C=C:=fun n D=>by
     rw[K];simp[aX,V.cl,show H.length<n by omega,show H.length+1<n by omega,show H.length+2<n by omega,show H.length+3<n by omega,show H.length+4<n by omega]
    have h3:Bk (H++[some (.cells [.ptr b 0]),some (.cells [.int .i64 kind]),some (.cells [.int .i64 f]),some (.cells [.int .i64 g]),some (.cells [.bool l]),some (.cells C)]) b z m L:=h.pd fun n D=>by simp at D;simp[aw.cl,aX,V.cl,U n an];exact X n an
    obtain⟨j,q⟩:∃ j:List Nd->ae,∀ L',j L'=da H b z m L'++[some (.cells [.ptr b 0]),some (.cells [.int .i64 kind]),some (.cells [.int .i64 f]),some (.cells [.int .i64 g]),some (.cells [.bool l]),some (.cells C)]:=⟨_,fun _=>rfl⟩
    have bL:j L=H++[some (.cells [.ptr b 0]),some (.cells [.int .i64 kind]),some (.cells [.int .i64 f]),some (.cells [.int .i64 g]),some (.cells [.bool l]),some (.cells C)]:=by rw[q,T]
    have bU:∀ L':List Nd,j L'=da (H++[some (.cells [.ptr b 0]),some (.cells [.int .i64 kind]),some (.cells [.int .i64 f]),some (.cells [.int .i64 g]),some (.cells [.bool l]),some (.cells C)]) b z m L':=fun L'=>by rw[h.bP,q]
    have bB:∀ L':List Nd,Inv L'->L'.length<=1000000->Bk (j L') b z m L':=fun L' qY lH=>by rw[bU];exact h3.to qY lH
    have W:∀ d L2:List Nd,da (j d) b z m L2=j L2:=fun d L2=>by rw[bU,bU,h3.km]
    have R:∀ L':List Nd,(j L').length=H.length+6:=fun L'=>by rw[q];simp[qF]
    have g0:∀(L':List Nd) (r:ae),(da H b z m L'++r)[H.length]?=r[0]?:=fun L' r=>by rw[<-qF H b z m L',jW]
    have S:∀(L':List Nd) (r:ae) (k:Nat),(da H b z m L'++r)[H.length+k]?=r[k]?:=fun L' r k=>by
     have:=fW (da H b z m L') r k;rwa[qF] at this
    have sk:∀(L':List Nd) (r:ae) (k:Nat) (x:Option aw),(da H b z m L'++r).set (H.length+k) x=da H b z m L'++r.set k x:=fun L' r k x=>by
     have:=uS (da H b z m L') r k x;rwa[qF] at this
    have M:∀ L',(j L')[H.length]?=some (some (.cells [.ptr b 0])):=fun L'=>by rw[q,g0];rfl
    have q1:∀ L',(j L')[H.length+1]?=some (some (.cells [.int .i64 kind])):=fun L'=>by rw[q,S];rfl
    have N:∀ L',(j L')[H.length+2]?=some (some (.cells [.int .i64 f])):=fun L'=>by rw[q,S];rfl
    have O:∀ L',(j L')[H.length+3]?=some (some (.cells [.int .i64 g])):=fun L'=>by rw[q,S];rfl
    have q4:∀ L',(j L')[H.length+4]?=some (some (.cells [.bool l])):=fun L'=>by rw[q,S];rfl
    have q5:∀ L',(j L')[H.length+5]?=some (some (.cells C)):=fun L'=>by rw[q,S];rfl
    have gh:=hi.cQ f a Y;have sU:=hi.cQ g c Z;have P:=ztp (kind:=kind) hi gh.1 sU.1 gh.2.1 sU.2.1;obtain⟨d,E⟩:∃ d,d=(j0 L kind a c).2.2:=⟨_,rfl⟩;rw[<-E] at P;have l1:=P.len;have k0:=bB L hi an;have k1:=bB d P.inv an;have oY:=P.get Y;have xz:=P.get Z;have cx:=zrt oY;have cy:=zrt xz
    have tr:∀(L':List Nd),Inv L'->L'.length<=1000000->∀ r,ai (H.length+6) (j L'++r)=j L':=fun L' qY lH r=>by
     have:=(bB L' qY lH).shut.back r;rwa[R] at this
    have hb:=tr L hi an;have he:=tr d P.inv an
    have hf:ai (H.length+6) (j L)=j L:=by simpa using hb []
    have P3:ai (H.length+6) (j d)=j d:=by simpa using he []
    have hg:∀ L' r,ai H.length (j L'++r)=da H b z m L':=fun L' r=>by rw[q,ab6];exact h.back L' _
    have gP:∀ L',ai H.length (j L')=da H b z m L':=fun L'=>by simpa using hg L' []
    obtain⟨I,LU,P4⟩:∃ I:Nat->List Nd,I 0=L/\∀ i,I (i+1)=d:=⟨fun i=>match i with|0=>L|_+1=>d,rfl,fun _=>rfl⟩
    have C0:C.take 1=[.fn 270 [.ptr H.length 0,.ptr (H.length+1) 0,.ptr (H.length+2) 0,.ptr (H.length+3) 0]]:=by rw[K];rfl
    have C1:C.tail.take 1=[.fn 271 [.ptr H.length 0,.ptr (H.length+1) 0,.ptr (H.length+2) 0,.ptr (H.length+3) 0]]:=by rw[K];rfl
    have C2:(C.drop 2).take 1=[.fn 272 [.ptr H.length 0,.ptr (H.length+1) 0,.ptr (H.length+2) 0,.ptr (H.length+3) 0]]:=by rw[K];rfl
    have C3:(C.drop 3).take 1=[.fn 273 [.ptr (H.length+4) 0,.ptr H.length 0,.ptr (H.length+1) 0,.ptr (H.length+3) 0,.ptr (H.length+2) 0]]:=by rw[K];rfl
    have lC:C.length=4:=by rw[K];rfl
    have A1:=zCu (G:=G) (kind:=kind) k0 an Y Z gh.2.1 sU.2.1 (M L) (q1 L) (N L) (O L);have A2:=zCv (G:=G) (kind:=kind) k1 an oY xz gh.2.1 sU.2.1 (M d) (q1 d) (N d) (O d);have A3:=zCw (G:=G) (kind:=kind) k1 (M d) (q1 d) (N d) (O d);have A4:=zCx (G:=G) (kind:=kind) l k1 (q4 d) (M d) (q1 d) (N d) (O d);rw[<-E,W] at A1;rw[W] at A2;rw[cy] at A3;rw[cx] at A4
    have LV:I 1=d:=P4 0;have LW:I 2=d:=P4 1;have LX:I 3=d:=P4 2;have Co:I 4=d:=P4 3;have Gx:aD .i64 0 1=1:=rfl;have Dc:aD .i64 1 1=2:=rfl;have hj:aD .i64 2 1=3:=rfl;have hl:aD .i64 3 1=4:=rfl;have rr:∀(u w:Nat) (r:List (Nat×V)),mg (fU ((80,.int .i64 w)::(79,.int .i64 u)::(78,.int .i64 kind)::r)) qM.cs [(0,1,.c (.int .i64 2)),(57,1,.t 78),(58,1,.t 79),(59,1,.t 80)]=some (AY kind u w).cs:=fun _ _ _=>rfl
    have hd:=h.to P.inv an
    have s:∀ u w:Nat,rz L kind f g a c=bt d (AY kind u w) ->
      SF G 259 [.ptr b 0,.agg (AY kind u w).cs] (da H b z m d++[some (.cells [.ptr b 0]),some (.cells [.int .i64 kind]),some (.cells [.int .i64 u]),some (.cells [.int .i64 w]),some (.cells [.bool l]),some (.cells C)]) (.int .i64 (rz L kind f g a c).1)
       (da H b z m (rz L kind f g a c).2++[some (.cells [.ptr b 0]),some (.cells [.int .i64 kind]),some (.cells [.int .i64 u]),some (.cells [.int .i64 w]),some (.cells [.bool l]),some (.cells C)]):=fun u w o=>by
     have hm:Bk (da H b z m d++[some (.cells [.ptr b 0]),some (.cells [.int .i64 kind]),some (.cells [.int .i64 u]),some (.cells [.int .i64 w]),some (.cells [.bool l]),some (.cells C)]) b z m d :=
      hd.pd fun n D=>by simp[qF] at D;simp[aw.cl,aX,V.cl,U n an];exact X n an
     have:=IU (G:=G) (AY kind u w) ⟨rfl,rfl,rfl⟩ hm an;rw[hd.bP,h.km] at this;rw[o];exact this
    have vi:∀(L':List Nd) (r:ae),ai H.length (da H b z m L'++r)=da H b z m L':=fun L' r=>h.back L' r
    rcases c5 with⟨hk,A⟩|⟨hk,A⟩|⟨hk,A⟩|⟨hk,A⟩|⟨⟨z1,z2,z3,z4⟩,A⟩
    all_goals
     first
      | simp[P2 z1,V_ z2,LR z3,Wa z4]
      | simp[zQ (show kind=20 by omega)]
      | simp[P2 an,zQ (show kind=52 by omega)]
      | simp[P2 an,V_ an,zQ (show kind=100 by omega)]
      | simp[P2 an,V_ an,LR an,zQ (show kind=116 by omega)]
     rw[A] at bL;rw[<-K,<-bL]
     refine aP 4 (fun i=>[(4,.ptr H.length 0),(5,.ptr (H.length+1) 0),(6,.ptr (H.length+2) 0),(7,.ptr (H.length+3) 0),(11,.ptr (H.length+4) 0),(55,.rs (H.length+5) 0 4 1),(56,.int .i64 4),(57,.int .i64 i)])
      (fun i=>j (I i)) (fun i=>(0<i->(j0 L kind a c).2.1=false)/\(1<i->(mB d kind a c).2.1=false)/\(2<i->(j4 kind (ry c) f g).2=false)/\(3<i->(l&&(j4 kind (ry a) g f).2)=false)) ?_ ?_
     ·simp[aq,R,hf,LU]
     intro i vw B
     by_cases ar:i<4
     ·rcases(show i=0\/i=1\/i=2\/i=3 by omega) with rfl|rfl|rfl|rfl
      ·simp[LU,q5,C0,lC];refine P0 A1 ?_
       cases F:(j0 L kind a c).2.1 with
       | true =>
        have o:rz L kind f g a c=((j0 L kind a c).1,d):=by rw[E,rz];simp only[F,if_true]
        simp[o,gP]
       | false =>
        simp[R,aq,P3,LV,Gx]
      ·have p1:=B.1 an;simp[LV,q5,C1,lC];refine P0 A2 ?_
       cases F:(mB d kind a c).2.1 with
       | true =>
        have o:rz L kind f g a c=((mB d kind a c).1,(mB d kind a c).2.2):=by rw[rz];simp only[p1,<-E,F,if_true,aaF,if_false]
        simp[o,gP]
       | false =>
        have eL:=zCt d kind a c F;simp[p1,R,aq,P3,LW,eL,Dc]
      ·have p1:=B.1 an;have p2:=B.2.1 an;simp[LW,q5,C2,lC];refine P0 A3 ?_
       cases F:(j4 kind (ry c) f g).2 with
       | true =>
        have o:rz L kind f g a c=((j4 kind (ry c) f g).1,d):=by rw[rz];simp only[p1,p2,<-E,F,if_true,aaF,if_false]
        simp[o,gP]
       | false =>
        simp[p1,p2,R,aq,P3,LX,hj]
      ·have p1:=B.1 an;have p2:=B.2.1 an;have p3:=B.2.2.1 an;simp[LX,q5,C3,lC];refine P0 A4 ?_
       cases F:(l&&(j4 kind (ry a) g f).2) with
       | true =>
        have FN:yx kind=true/\(j4 kind (ry a) g f).2=true:=by rw[<-v];simpa using F
        have o:rz L kind f g a c=((j4 kind (ry a) g f).1,d):=by rw[rz];simp only[p1,p2,p3,<-E,FN,if_true,aaF,if_false,and_self]
        have Q:l=true:=by rw[v];exact FN.1
        simp[o,gP,Q]
       | false =>
        simp[p1,p2,p3,R,aq,P3,Co,hl]
        exact fun hh=>by simpa[hh] using F
     ·obtain rfl:i=4:=by omega
      have p1:=B.1 an;have p2:=B.2.1 an;have p3:=B.2.2.1 an;have p4:=B.2.2.2 an
      first
       | (
         have Q:yx kind=false:=by rw[<-v];exact A
         have o:rz L kind f g a c=bt d (AY kind f g):=by rw[rz];simp only[p1,p2,p3,<-E,Q,aaF,if_false,false_and]
         simp[Co,q4,N,O,q1,M,A];rw[q];simp[-mg];refine cC (s f g o) ?_
         simp[vi])
       | (
         have ho:¬(yx kind=true/\(j4 kind (ry a) g f).2=true):=fun hh=>by rw[v,hh.1,hh.2] at p4;cases p4
         have Q:yx kind=true:=by rw[<-v];exact A
         have p5:(j4 kind (ry a) g f).2=false:=by cases e:(j4 kind (ry a) g f).2 with|false=>rfl|true=>exact absurd ⟨Q,e⟩ ho
         by_cases Gz:g<f
         ·have o:rz L kind f g a c=bt d (AY kind g f):=by rw[rz];simp only[p1,p2,p3,<-E,p5,Q,Gz,if_true,aaF,if_false,and_false,and_self]
          simp[Co,q4,N,O,q1,M,A,Gz];rw[q];simp[-mg,nz,S,sk,rr];refine cC (s g f o) ?_;simp[vi]
         ·have o:rz L kind f g a c=bt d (AY kind f g):=by rw[rz];simp only[p1,p2,p3,<-E,p5,Q,Gz,aaF,if_false,and_false]
          simp[Co,q4,N,O,q1,M,A,Gz];rw[q];simp[-mg];refine cC (s f g o) ?_
          simp[vi])
open Go Go.RowKit
variable {G:aN}
variable {H:ae} {b z m:Nat} {L:List Nd}
def D6(L:List Nd):Int×List Nd:=bt L (eZ (0::aQ 34))
noncomputable def ou(L:List Nd)(x:Int):Int×List Nd:=if dL L x=true then ig (D6 L).2 20 (D6 L).1 x else(-1,L)
def Wb(h:Inv L):Ext L (D6 L).2 1:=(vT h (yJ ir (EG (by decide)) _)).1
def zCy[dK G][au G][bw G][aI G](x:Int)(h:Bk H b z m L)(hi:Inv L)(l:L.length<999980):BF G 275 [.int .i64 x] H b z m (ou L x):=by
 refine jx aI.adD (aaa rfl) ?_;have g:=h.shut.self;have i:=h.fc;simp;refine cC (EZ x h) ?_
 cases e:dL L x with
 | false =>
  have c:ou L x=(-1,L):=by rw[ou,if_neg (by simp[e])]
  simp[c,g,i]
 | true =>
  have c:ou L x=ig (D6 L).2 20 (D6 L).1 x:=by rw[ou,if_pos e]
  have d:=Wb hi;have n:=d.len;have j:=h.to d.inv an;simp;have k:=HB (G:=G) 0 h an;refine cC k ?_;have f:=NT (G:=G) 20 (D6 L).1 x j d.inv an;rw[BF,h.km] at f;have a:=h.back (ig (D6 L).2 20 (D6 L).1 x).2 [];simp at a;simp;refine cC f ?_;simp[c,a]
def xQ(kind:Int)(o o':Option Nat):Option Nat:=match o,o' with
 | some l,some r=>if(fL kind l r).2=true then some (fL kind l r).1 else none
 | _,_=>none
noncomputable def lE(v:List Nat)(b:List (Option Nat))(a:Nd):Option Nat :=
 if a.kind=0 then some (LK a.f v) else if a.kind=1 then(gD a).map fun p=>val p.1 p.2 (r9 v)
 else xQ a.op b[a.x]?.join b[a.y]?.join
noncomputable def dc(v:List Nat)(L:List Nd):List (Option Nat):=L.foldl (fun b a=>b++[lE v b a]) []
section
variable {v:List Nat}
def zru(L:List Nd)(a:Nd):dc v (L++[a])=dc v L++[lE v (dc v L) a]:=by simp[dc]
def wJ:∀ L:List Nd,(dc v L).length=L.length:=by
 intro L
 have:∀(L:List Nd) (b:List (Option Nat)),(L.foldl (fun b a=>b++[lE v b a]) b).length=b.length+L.length:=fun L=>by
  induction L with
  | nil=>intro b;rfl
  | cons a L c=>intro b;simp only[List.foldl_cons,c];simp;omega
 simpa[dc] using this L []
def zz8:∀(L M:List Nd),dc v L <+: dc v (L++M):=by
 intro L M
 have:∀(M:List Nd) (b:List (Option Nat)),b <+: M.foldl (fun b a=>b++[lE v b a]) b:=fun M=>by
  induction M with
  | nil=>intro b;exact ab_ _
  | cons a M c=>intro b;exact(ab3 _ _).trans (c _)
 rw[dc,dc,List.foldl_append];exact this M _
def zz9{L L':List Nd}(h:L <+: L'):dc v L <+: dc v L':=by obtain⟨M,rfl⟩:=h;exact zz8 L M
def LY(L:List Nd)(i:Nat):(dc v L).take i=dc v (L.take i):=by
 have h:=zz9 (v:=v) (List.take_prefix i L);obtain⟨t,a⟩:=h
 by_cases hi:i<=L.length
 ·rw[<-a,aaM (by rw[wJ,aas];omega)]
 ·rw[aal (by rw[wJ];omega),aal an]
def zCz{i:Nat}{a:Nd}(h:L[i]?=some a):(dc v L)[i]?=some (lE v (dc v (L.take i)) a):=by
 have d:=(aaj.1 h).1
 have e:L.take (i+1)=L.take i++[a]:=by rw[aaT,h];rfl
 have b:=LY (v:=v) L (i+1);rw[e,zru] at b
 have c:((dc v L).take (i+1))[i]?=(dc v L)[i]?:=by rw[aaE];simp
 rw[<-c,b,aan (by rw[wJ,aas];omega),wJ,aas];rw[show i-min i L.length=0 by omega];rfl
end
def zAa(f v:List Nat):LK f v<4294967296:=aaI _ (by decide)
def We{v:List Nat}{k i:Nat}{o:Option Nat}(hi:Inv L)(h:(dc v (L.take k))[i]?=some o):o.getD 0<4294967296:=by
 have a:∀(i:Nat) (o:Option Nat),(dc v L)[i]?=some o->o.getD 0<4294967296:=fun i=>by
  induction i using Nat.strongRecOn with
  | _ i n =>
   intro o m;have q:=(aaj.1 m).1;rw[wJ] at q;have s:=jX q;rw[zCz s] at m;cases m;have B:=hi.cQ i _ s
   have b:∀ j,j<i->(dc v (L.take i))[j]?=(dc v L)[j]?:=fun j C=>by rw[<-LY,aaE,if_pos C]
   rw[lE];split
   ·exact zAa _ _
   ·split
    ·cases e:gD L[i] with
     | none=>simp
     | some p=>simp only[aa_,aaO];exact zD0 _ _ _
    ·rcases B.2.2 with h|h|⟨_,t,u,_⟩
     ·contradiction
     ·contradiction
     ·unfold xQ;split
      ·rename_i l r c d;split
       ·rw[b _ t] at c;rw[b _ u] at d
        obtain⟨f,D,E⟩:∃ f,(dc v L)[L[i].x]?=some f/\f=some l:=by
         cases e:(dc v L)[L[i].x]? with
         | none=>rw[e] at c;cases c
         | some f=>rw[e] at c;exact⟨f,rfl,c⟩
        obtain⟨g,F,G⟩:∃ g,(dc v L)[L[i].y]?=some g/\g=some r:=by
         cases e:(dc v L)[L[i].y]? with
         | none=>rw[e] at d;cases d
         | some g=>rw[e] at d;exact⟨g,rfl,d⟩
        have w:=n _ t _ D;have z:=n _ u _ F;rw[E] at w;rw[G] at z;exact RM _ w z
       ·simp
      ·simp
 by_cases A:i<k
 ·rw[<-LY,aaE,if_pos A] at h;exact a i o h
 ·rw[<-LY,aaE,if_neg A] at h;cases h
noncomputable def gL(v:List Nat)(L:List Nd)(x:Int):Option Nat:=if dL L x=true then(dc v L)[x.toNat]?.join else none
def kn(l:List (Option Nat)):List V:=(l.map fun o=>[V.int .u32 (o.getD 0:Nat),.bool o.isSome]).flatten
def L0(l:List (Option Nat)):(kn l).length=2*l.length:=by
 induction l with
 | nil=>rfl
 | cons o l a=>simp[kn] at a |-;omega
def Wf:∀(l:List (Option Nat)) (i:Nat),(kn l).drop (2*i)=kn (l.drop i)
 | [],i=>by simp[kn]
 | o::l,0=>rfl
 | o::l,i+1=>by
  have e:kn (o::l)=[V.int .u32 (o.getD 0:Nat),.bool o.isSome]++kn l:=rfl;have a:([V.int .u32 (o.getD 0:Nat),.bool o.isSome]++kn l).drop 2=kn l:=rfl;rw[e,show 2*(i+1)=2+2*i by omega,<-aaP,a,Wf l i];rfl
def zvg:∀(l:List (Option Nat)) (i:Nat),(kn l).take (2*i)=kn (l.take i)
 | [],i=>by simp[kn]
 | o::l,0=>rfl
 | o::l,i+1=>by
  have e:kn (o::l)=[V.int .u32 (o.getD 0:Nat),.bool o.isSome]++kn l:=rfl;rw[e,show 2*(i+1)=2*i+1+1 by omega];show V.int .u32 (o.getD 0:Nat)::.bool o.isSome::(kn l).take (2*i)=_;rw[zvg l i];rfl
def Wh{l:List (Option Nat)}{i:Nat}{o:Option Nat}(h:l[i]?=some o):((kn l).drop (2*i)).take 2=[V.int .u32 (o.getD 0:Nat),.bool o.isSome]:=by rw[Wf];obtain⟨a,rfl⟩:=aaj.1 h;rw[abb a];rfl
def zD2{l:List (Option Nat)}{i:Nat}(h:i<l.length)(o:Option Nat):(kn l).take (2*i)++([V.int .u32 (o.getD 0:Nat),.bool o.isSome]++(kn l).drop (2*i+2))=kn (l.set i o):=by rw[zvg,show 2*i+2=2*(i+1) by omega,Wf,List.set_eq_take_append_cons_drop,if_pos h];simp[kn]
def zBm(l:List (Option Nat))(n:Nat):aX n (kn l)=kn l:=by
 induction l with
 | nil=>rfl
 | cons o l a =>
  have e:kn (o::l)=.int .u32 (o.getD 0:Nat)::.bool o.isSome::kn l:=rfl;rw[e];simp[aX,V.cl,a]
def zx8[dK G][au G][hB:il G][aI G][cT G](x:Int)(v:List Nat)(h:Bk H b z m L)(hi:Inv L)(D:v.length=34)(VV:∀ c∈v,c<4294967296) :
  SF G 276 [.ptr b 0,.int .i64 x,.agg (av .u32 v)] H (.bc [.int .u32 ((gL v L x).getD 0:Nat),.bool (gL v L x).isSome]) H:=by
 refine jx cT.adE (aaa rfl) ?_;have D3:=eG (k:=.u32) D
 have h1:Bk (H++[some (.cells (av .u32 v))]) b z m L:=h.app fun n=>by simp[aw.cl]
 have qo:=h1.shut.self;have eR:=h.shut.back;have ar:=h.lb;have hb:=h.cE
 have g_:∀ r:ae,(H++r)[b]?=some (some (.cells [.vs (qN L) (.own z),.mp m])):=fun r=>by rw[aaf ar];exact hb
 have y0:=h.small;simp at qo;simp;refine cC (EZ x h1) ?_
 cases U:dL L x with
 | false=>simp[gL,U,eR]
 | true =>
  obtain⟨uD,yk⟩:0<=x/\x<L.length:=by simpa[dL] using U
  obtain⟨n,rfl⟩:=aar uD
  have hn:n<L.length:=an
  have Wi:(∀ f∈qN L,f.length=60)=True:=eq_true (zx6 h.ok);obtain⟨S,W⟩:∃ S,S=(qN L).take (n+1):=⟨_,rfl⟩
  have yy:S.length=n+1:=by rw[W];simp;omega
  have X:∀(i:Nat) (a:Nd),i<n+1->L[i]?=some a->S[i]?=some a.cs:=fun i a hi u=>by rw[W,aaE,if_pos hi,VO u]
  have xC:(aaq (n+1) [V.int .u32 0,V.bool false]).flatten=kn (aaq (n+1) none):=by simp[kn]
  simp(disch:=omega)[g_,fW,bE,-aab,na,az,Wi,<-W,yy,xC];obtain⟨T,B⟩:∃ T:Nat->List (Option Nat),∀ i,T i=dc v (L.take i)++aaq (n+1-i) none:=⟨_,fun _=>rfl⟩
  have T0:T 0=aaq (n+1) none:=by rw[B];simp[dc]
  have Tl:∀ i,i<=n+1->(T i).length=n+1:=fun i hi=>by rw[B];simp[wJ];omega
  have Y:∀ i j,i<=n+1->j<i->(T i)[j]?=(dc v (L.take i))[j]?:=fun i j hi hj=>by rw[B,aaf (by simp[wJ];omega)]
  have Ts:∀(i:Nat) (a:Nd),i<n+1->L[i]?=some a->(T i).set i (lE v (dc v (L.take i)) a)=T (i+1):=fun i a hi u=>by
   have e:L.take (i+1)=L.take i++[a]:=by rw[aaT,u];rfl
   have E:(dc v (L.take i)).length=i:=by rw[wJ];simp;omega
   rw[B,B,e,zru,abl _ _ an,E,abH,show n+1-i=(n+1-(i+1))+1 by omega,abT,List.set_cons_zero,ab6];rfl
  obtain⟨g,F⟩:∃ g:Nat->ae,∀ i,g i=H++[some (.cells (av .u32 v)),some (.cells (kn (T i)))]:=⟨_,fun _=>rfl⟩
  have Cp:∀ i,Bk (g i) b z m L:=fun i=>by rw[F];exact h.app fun n=>by simp[aw.cl,zBm]
  have bl:∀ i,(g i).length=H.length+2:=fun i=>by rw[F];simp
  have tr:∀ i r,ai (H.length+2) (g i++r)=g i:=fun i r=>by have:=(Cp i).shut.back r;rwa[bl] at this
  have I:∀ i r,ai (H.length+2) (H++some (.cells (av .u32 v))::some (.cells (kn (T i)))::r)=g i:=fun i r=>by have:=tr i r;rw[F] at this |-;simpa using this
  refine aP (n+1) (fun i=>[(0,.ptr b 0),(1,.int .i64 n),(5,.ptr H.length 0),(8,.rs (H.length+1) 0 (n+1) 2),(32,.vs S .no),(33,.int .i64 (n+1:Nat)),(34,.int .i64 i)]) g (fun _=>True) ?_ ?_
  ·have:=I 0 [];have w:(b<H.length+2)=True:=eq_true an;simp[aq,<-T0,this,w]
  intro i hw _
  by_cases L3:i<n+1
  ·obtain⟨a,u⟩:∃ a,L[i]?=some a:=⟨_,jX an⟩;have hg:=X i a L3 u;have q:=hi.cQ i a u;have E:=Nd.len q.1;have eA:a.cs.take 60=a.cs:=aal an;have sK:qM.cs.drop 60=[]:=rfl;have qb:qM.cs.length=60:=rfl;have we:S[i]' an=a.cs:=(aaj.1 hg).2;have t1:a.cs.take 1=[.int .i64 (a.kind:Int)]:=rfl
   have Z:a.cs.tail.take 35=av .u32 a.f:=by show(av .u32 a.f++_).take 35=_;rw[aaM (by simp[q.1.1])]
   have dT:=Ts i a L3 u;have C:=Tl i an;have s:=zD2 (l:=T i) (i:=i) an (lE v (dc v (L.take i)) a);rw[dT,aaR 2 i] at s;have iT:((i:Int)<(n:Int)+1)=True:=eq_true an;have w:(b<H.length+2)=True:=eq_true an
   have Wj:i*2+2<=2*(n+1):=an
   rw[F];simp(disch:=omega)[bC,we,E,eA,sK,qb,nz,fW,az,leFn,t1];have K:∀ r,ai (H.length+2) (H++some (.cells (av .u32 v))::some (.cells (kn (T (i+1))))::r)=g (i+1):=fun r=>I (i+1) r
   by_cases M:a.kind=0
   ·have N:((a.kind:Int)==0)=true:=Bq an
    have t:lE v (dc v (L.take i)) a=some (LK a.f v):=by rw[lE,if_pos M]
    rw[t] at s;simp only[aaO,abA,aaN,abL] at s;simp(disch:=omega)[N,Z,jW,fW,az,leFn,E,D,D3];refine ax (zz0 a.f v q.1.1 D q.2.1.1) ?_;simp(disch:=omega)[fW,az,C,L0,fF,s,K,aq,w,bE,-aab]
   ·have N:((a.kind:Int)==0)=false:=aM an
    by_cases O:a.kind=1
    ·have lJ:((a.kind:Int)==1)=true:=Bq an
     obtain⟨p,hp⟩:∃ p,gD a=some p:=by rw[gD,if_pos O];exact⟨_,rfl⟩
     obtain⟨P,v5⟩:=E2 q.2.1 hp
     have t:lE v (dc v (L.take i)) a=some (val p.1 p.2 (r9 v)):=by rw[lE,if_neg M,if_pos O,hp];rfl
     rw[t] at s;simp only[aaO,abA,aaN,abL] at s;have hy:=P.1;have hz:=Ay P.1 P.2.1;have Wm:=zCe hB p.1 p.2 v an an v5 D VV;rw[DW.2 P,if_pos rfl] at Wm;simp only[FV] at Wm;simp(disch:=omega)[N,lJ];refine cC (E1 i a (h.app (r:=[some (.cells (av .u32 v)),some (.cells (kn (T i))),some (.cells a.cs),none]) fun n=>by simp[aw.cl,zBm,Nd.j8]) u q.2.1) ?_;simp(disch:=omega)[hp,qP,FV,jW,fW,leFn,D,D3]
     refine ax Wm ?_;simp(disch:=omega)[fW,az,C,L0,fF,s,K,aq,w,bE,-aab]
    ·have lJ:((a.kind:Int)==1)=false:=aM an
     obtain⟨FM,hc,he,bj⟩:a.kind=2/\a.x<i/\a.y<i/\(fL a.op 0 1).2=true:=by rcases q.2.2 with h|h|h;exact absurd h M;exact absurd h O;exact h
     have hf:a.cs=(.int .i64 (a.kind:Int)::(av .u32 a.f++.int .i64 (a.n:Int)::(av .i64 a.vars++av .u32 a.tab)))++[.int .i64 a.op,.int .i64 (a.x:Int),.int .i64 (a.y:Int)]:=by simp[Nd.cs]
     have hh:(V.int .i64 (a.kind:Int)::(av .u32 a.f++.int .i64 (a.n:Int)::(av .i64 a.vars++av .u32 a.tab))).length=57:=by simp[q.1.1,q.1.2.1,q.1.2.2]
     have A:a.cs.drop 57=[.int .i64 a.op,.int .i64 (a.x:Int),.int .i64 (a.y:Int)]:=by rw[hf];exact aa0 hh
     have hm:(a.cs.drop 58).take 1=[.int .i64 (a.x:Int)]:=by rw[show 58=57+1 from rfl,<-aaP,A];rfl
     have hq:(a.cs.drop 59).take 1=[.int .i64 (a.y:Int)]:=by rw[show 59=57+2 from rfl,<-aaP,A];rfl
     have Wo:(a.cs.drop 57).take 1=[.int .i64 a.op]:=by rw[A];rfl
     obtain⟨Q,L4⟩:∃ o,(dc v (L.take i))[a.x]?=some o:=⟨_,jX (by rw[wJ,aas];omega)⟩;obtain⟨R,Cq⟩:∃ o,(dc v (L.take i))[a.y]?=some o:=⟨_,jX (by rw[wJ,aas];omega)⟩;have gx:=Wh (l:=T i) (i:=a.x) (o:=Q) (by rw[Y i a.x an hc,L4]);have gy:=Wh (l:=T i) (i:=a.y) (o:=R) (by rw[Y i a.y an he,Cq]);rw[aaR] at gx gy;have hr:((a.x:Int)<(n:Int)+1)=True:=eq_true an;have hs:((a.y:Int)<(n:Int)+1)=True:=eq_true an
     have ht:H.length+3+1=H.length+4:=rfl;simp(disch:=omega)[N,lJ,fW,az,leFn,E,Wo,hm,hq,hr,hs,L0,C,gx,gy,ht];have u0:=HF (G:=G) (by infer_instance) a.op (Q.getD 0) (R.getD 0) (We hi L4) (We hi Cq);refine ax u0 ?_;simp(disch:=omega)[fW,leFn]
     have t:lE v (dc v (L.take i)) a=xQ a.op Q R:=by rw[lE,if_neg M,if_neg O,L4,Cq];rfl
     have d:lE v (dc v (L.take i)) a=none->T (i+1)=T i:=fun e=>by
      rw[e] at dT;rw[<-dT];apply Bp;rw[B,aan (by rw[wJ,aas];omega),wJ,aas,abh,if_pos an]
     have S1:T (i+1)=T i->∀ r,ai (H.length+2) (H++some (.cells (av .u32 v))::some (.cells (kn (T i)))::r)=g (i+1):=fun e r=>by rw[<-e];exact K r
     cases Q with
     | none =>
      have J:=S1 (d t)
      simp(disch:=omega)[J,fF,aq,w,bE,-aab]
     | some l =>
      cases R with
      | none =>
       have J:=S1 (d t)
       simp(disch:=omega)[J,fW,leFn,fF,aq,w,bE,-aab]
      | some r =>
       cases hd:(fL a.op l r).2 with
       | false =>
        have J:=S1 (d (by rw[t,xQ];simp only[hd,aaF,if_false]))
        simp(disch:=omega)[hd,J,fW,leFn,fF,aq,w,bE,-aab]
       | true =>
        rw[xQ] at t;simp only[hd,if_true] at t;rw[t] at s;simp only[aaO,abA,aaN,abL] at s;simp(disch:=omega)[hd,fW,az,leFn,C,L0,fF,s,K,aq,w,bE,-aab]
  ·obtain rfl:i=n+1:=by omega
   obtain⟨o,ho⟩:∃ o,(dc v L)[n]?=some o:=⟨_,jX (by rw[wJ];omega)⟩
   have L5:gL v L n=o:=by rw[gL,if_pos U];simp[ho]
   have hu:(T (n+1))[n]?=some o:=by rw[Y (n+1) n an an,<-LY,aaE,if_pos an,ho]
   have IZ:=Wh hu;rw[aaR] at IZ;have C:=Tl (n+1) an;rw[F];have iT:((n:Int)<(n:Int)+1)=True:=eq_true an
   have k1:((kn (T (n+1))).drop (n*2)).take 1=[.int .u32 (o.getD 0:Nat)]:=by have:=congrArg (List.take 1) IZ;rwa[List.take_take] at this
   have k2:((kn (T (n+1))).drop (n*2+1)).take 1=[.bool o.isSome]:=by have:=congrArg (List.drop 1) IZ;rw[List.drop_take,aaP] at this;exact this
   simp(disch:=omega)[L5,fW,az,L0,C,iT,k1,k2,eR]
open Go Go.RowKit
variable {G:aN}
structure Md where
 kind:Int
 i:Int
 op:Int
 x:Int
 y:Int
 c:Nat
def Md.cs(a:Md):List V:=[.int .i64 a.kind,.int .i64 a.i,.int .i64 a.op,.int .i64 a.x,.int .i64 a.y,.int .u32 (a.c:Int)]
def mds(l:List Md):List (List V):=l.map Md.cs
@[simp] theorem zIl (l:List Md):(mds l).length=l.length:=by simp[mds]
def Sh(l:List Md)(i:Int):Bool:=decide (0<=i/\i<l.length)&&(match l[i.toNat]? with|some a=>decide (a.kind≠4)|none=>false)
def Wp(v:List Nat)(b:List (Option Nat))(a:Md):Option Nat :=
 if a.kind=0 then some a.c else if a.kind=1 then some (v[a.i.toNat]?.getD 0) else if a.kind=2 then xQ a.op b[a.x.toNat]?.join b[a.y.toNat]?.join
 else if a.kind=3 then(b[a.x.toNat]?.join).map wW else none
def refs(v:List Nat)(l:List Md):List (Option Nat):=l.foldl (fun b a=>b++[Wp v b a]) []
section
variable {v:List Nat} {l:List Md}
def R9(l:List Md):Prop:=∀(i:Nat) (a:Md),l[i]?=some a->a.c<4294967296/\(a.kind=0\/a.kind=1/\0<=a.i/\a.i<34\/a.kind=2/\0<=a.x/\a.x<i/\0<=a.y/\a.y<i\/a.kind=3/\0<=a.x/\a.x<i\/a.kind=4)
end
open Go Go.RowKit
variable {G:aN}
variable {H:ae} {b z m:Nat} {L:List Nd}
def Si(l:List Int)(i:Int):Int:=if 0<=i/\i<l.length then l[i.toNat]?.getD 0 else -1
structure MS where
 L:List Nd
 ids:List Int
 made:List Md
def zAb{kind:Int}{a c:Nd}(h:Inv L)(i:a.wf)(j:c.wf):Ext L (mB L kind a c).2.2 1:=by
 cases b:gD a with
 | none=>simp only[mB,b,mz];exact .refl h 1
 | some p =>
  cases d:gD c with
  | none=>simp only[mB,b,d,mz];exact .refl h 1
  | some q =>
   cases e:yw kind p q with
   | none=>simp only[mB,b,d,e,mz];exact .refl h 1
   | some r =>
    simp only[mB,b,d,e,oP];obtain⟨_,f,g,_⟩:=V7 e;exact(zz7 h f g).1
def zrv{kind:Int}{x y n:Nat}(a:(fL kind 0 1).2=true)(b:x<n)(c:y<n):(AY kind x y).cQ n :=
 ⟨⟨rfl,rfl,rfl⟩,⟨uX 35,fun h=>by cases h⟩,.inr (.inr ⟨rfl,b,c,a⟩)⟩
def ZQ{kind x y:Int}(h:Inv L):Ext L (ig L kind x y).2 2:=by
 rw[ig];split
 case isFalse=>exact .refl h 2
 rename_i d;obtain⟨d,j,k⟩:=d
 obtain⟨l,q⟩:0<=x/\x<L.length:=by simpa[dL] using j
 obtain⟨m,r⟩:0<=y/\y<L.length:=by simpa[dL] using k
 obtain⟨n,rfl⟩:=aar l;obtain⟨o,rfl⟩:=aar m;obtain⟨a,g⟩:∃ a,L[n]?=some a:=⟨_,jX an⟩;obtain⟨c,i⟩:∃ c,L[o]?=some c:=⟨_,jX an⟩;have e:=h.cQ _ _ g;have f:=h.cQ _ _ i;simp only[ab5,g,i,rz];have b:=ztp (kind:=kind) h e.1 f.1 e.2.1 f.2.1;have p:=zAb (kind:=kind) b.inv e.2.1 f.2.1;have s:=b.pre.length_le;split
 ·exact b.mono an
 ·split
  ·exact b.trans p
  ·split
   ·exact b.mono an
   ·split
    ·exact b.mono an
    ·split
     ·exact b.trans (vT b.inv (zrv d an an)).1
     ·exact b.trans (vT b.inv (zrv d an an)).1
def NZ{i:Int}(h:Inv L):Ext L (kU L i).2 1:=by
 rw[kU];split
 ·exact(vT h (yJ (V8 _) (zve _) _)).1
 ·exact .refl h 1
def ZO{x:Int}(h:Inv L):Ext L (ou L x).2 3:=by
 rw[ou];split
 ·exact(Wb h).trans (ZQ (Wb h).inv)
 ·exact .refl h 3
variable {L L':List Nd} {v:List Nat}
def zAc(i:Nat):gL v L i=(dc v L)[i]?.join:=by
 rw[gL]
 by_cases h:i<L.length
 ·have:dL L i=true:=by simp[dL];exact h
  rw[if_pos this];rfl
 ·have:¬dL L i=true:=by simp[dL];omega
  rw[if_neg this,aav (by rw[wJ];omega)];rfl
def zCA{i:Nat}{w:Nat}(h:Inv L)(a:gL v L i=some w):w<4294967296:=by
 rw[zAc] at a
 cases e:(dc v L)[i]? with
 | none=>rw[e] at a;cases a
 | some o =>
  rw[e] at a;have:=We (k:=L.length) (o:=o) (i:=i) h (by rw[List.take_length];exact e);rw[show o=some w from a] at this;exact this
def m_(x:af):Bool :=
 if x.op=32 then decide (x.k%4=0/\x.k<64) else if x.op=52 then decide (x.k≠0) else if x.op=2\/x.op=3\/x.op=96\/x.op=97 then decide (x.k<16) else if x.op=100\/x.op=116 then decide (x.k<32) else true
def ez(x:af)(left:Nat):Bool:=jw x&&m_ x&&(if x.op=5 then decide (x.k<left) else true)&&(if br x.op then decide (x.jt<left/\x.jf<left) else true)
def jo:List af->Bool
 | []=>true
 | x::f=>ez x f.length&&jo f
def jA(f:List af):Bool:=match f.getLast? with|some x=>iy x.op|none=>false
def dJ(f:List af):Bool:=decide (f.length<=4096)&&jo f&&jA f
def wN:List (V×V):=[(.int .i64 32,.fn 152 [.ptr 0 0]),(.int .i64 52,.fn 153 [.ptr 0 0]),(.int .i64 2,.fn 150 [.ptr 0 0]),(.int .i64 3,.fn 150 [.ptr 0 0]),(.int .i64 96,.fn 150 [.ptr 0 0]),(.int .i64 97,.fn 150 [.ptr 0 0]),
 (.int .i64 100,.fn 151 [.ptr 0 0]),(.int .i64 116,.fn 151 [.ptr 0 0])]
def zAd[aA G]:bp G (.F 154 [] [] (.mp 1) [some (.cells [.fn 149 []]),some (.map wN)]):=by refine eB aA.afC (aaa rfl) ?_;simp[wN]
def L7[aA G](H:ae)(b:Bool)(n:Int):bp G (.F 149 [.bool b,.int .i64 n] H (.int .i64 (if b then 0 else n)) H):=by
 refine eB aA.afx (aaa rfl) ?_
 cases b<;>simp
def RH(x:af):ae:=[some (.cells [.fn 149 []]),some (.map wN),some (.cells x.cs)]
def oq(n:Nat)(h:0<n):wN.map (fun p=>(p.1.cl n,p.2.cl n))=wN:=by simp[wN,h]
def L8{f:Nat}[aA G](x:af)(e:Int)(h:f=150/\e=(if decide (x.k<16) then 0 else 7)\/f=151/\e=(if decide (x.k<32) then 0 else 1)\/f=152/\e=(if decide (x.k%4=0/\x.k<64) then 0 else 6)\/f=153/\e=(if decide (x.k≠0) then 0 else 8)) :
  bp G (.F f [IV x,.ptr 0 0] (RH x) (.int .i64 e) (RH x++[some (.cells x.cs)])):=by
 have g:oE (x.k:Int) 4=((x.k%4:Nat):Int):=E7 (b:=4);have a:((x.k:Int)<16)=(x.k<16):=propext an;have c:((x.k:Int)<32)=(x.k<32):=propext an;have d:((x.k:Int)<64)=(x.k<64):=propext an
 have j:((x.k:Int) !=0)=decide (x.k≠0):=by rw[aaS];simp
 rcases h with⟨rfl,rfl⟩|⟨rfl,rfl⟩|⟨rfl,rfl⟩|⟨rfl,rfl⟩
 ·refine eB aA.afy (aaa rfl) ?_;simp[IV,af.cs,RH,a];refine jL (L7 _ _ _) ir ?_;simp[ai,oq]
 ·refine eB aA.afz (aaa rfl) ?_;simp[IV,af.cs,RH,c];refine jL (L7 _ _ _) ir ?_;simp[ai,oq]
 ·refine eB aA.afA (aaa rfl) ?_
  by_cases i:x.k%4=0
  ·simp[IV,af.cs,RH,g,i,d];refine jL (L7 _ _ _) ir ?_;simp[ai,oq]
  ·have:((x.k%4:Nat):Int)≠0:=an
   simp[IV,af.cs,RH,g,i,aM this,-aao];refine jL (L7 _ _ _) ir ?_;simp[ai,oq]
 ·refine eB aA.afB (aaa rfl) ?_;simp[IV,af.cs,RH,j];refine jL (L7 _ _ _) ir ?_;simp[ai,oq]
def dF(x:af)(a:Nat):List Int:=if iy x.op then [] else if x.op=5 then [((a+1+x.k:Nat):Int)] else if br x.op then [(a:Int)+1+min x.jt x.jf,(a:Int)+1+max x.jt x.jf] else [((a+1:Nat):Int)]
def af.Bx(x:af):Prop:=br x.op=true->0<=x.jt/\x.jt<=255/\0<=x.jf/\x.jf<=255
def yF{x:af}(h:jw x=true):x.Bx:=by
 intro b;unfold jw at h;split at h
 ·rename_i r c
  have a:∀ r∈uJ,br r.1=r.2.2.2:=by decide
  obtain⟨d,e⟩:=Kc c;have:=a r e;rw[d,b] at this;simp only[<-this,if_true,Bool.and_eq_true,decide_eq_true_eq] at h;exact h.2
 ·cases h
def EM(n:Nat)(h:n<4294967296):fB .i64 (n:Int)=(n:Int):=by unfold fB;exact IntWalk.i64_in _ ⟨an,an⟩
def lV[aB G][aA G](x:af)(c:Nat)(l:x.k<4294967296)(m:x.Bx)(v:c<=5000):FP G 155 [IV x,.int .i64 c] (.vs (ints .i64 (dF x c)) .no):=by
 refine bF aA.afD (aaa rfl) ?_;have i:=JF (G:=G) x;have j:=yg (G:=G) x;have n:aD .i64 (c:Int) 1=((c+1:Nat):Int):=bE an;simp[IV,af.cs,n,-aab] at i j |-;refine ax i ?_;cases d:iy x.op
 ·have w:iy x.op=false:=d;simp
  by_cases e:x.op=5
  ·have y:aD .i64 ((c+1:Nat):Int) (x.k:Int)=((c+1+x.k:Nat):Int):=qH an
   have f:aD .i64 ((c:Int)+1) (x.k:Int)=((c+1+x.k:Nat):Int):=by rw[<-qH (a:=c+1) (b:=x.k) an];rfl
   have g:iy 5=false:=by decide
   simp[e,g,EM x.k l,f,dF,ints,-aab]
  ·simp[e,aM];refine ax j ?_;cases h:br x.op
   ·simp[dF,d,e,h,ints]
   ·obtain⟨z,A,B,C⟩:=m h
    have o:(if x.jf<x.jt then x.jf else x.jt)=min x.jt x.jf:=an
    have p:(if x.jf>x.jt then x.jf else x.jt)=max x.jt x.jf:=an
    have D:aD .i64 ((c+1:Nat):Int) (min x.jt x.jf)=(c:Int)+1+min x.jt x.jf:=by rw[dW]<;>omega
    have E:aD .i64 ((c+1:Nat):Int) (max x.jt x.jf)=(c:Int)+1+max x.jt x.jf:=by rw[dW]<;>omega
    have q:(if x.jt<x.jf then x.jf else x.jt)=max x.jt x.jf:=an
    have r:(if x.jt>x.jf then x.jf else x.jt)=min x.jt x.jf:=an
    have s:(if x.jt<=x.jf then x.jt else x.jf)=min x.jt x.jf:=an
    have t:aD .i64 ((c:Int)+1) (min x.jt x.jf)=(c:Int)+1+min x.jt x.jf:=by rw[dW]<;>omega
    have u:aD .i64 ((c:Int)+1) (max x.jt x.jf)=(c:Int)+1+max x.jt x.jf:=by rw[dW]<;>omega
    simp[o,p,t,u,dF,d,e,h,ints,-aab]
 ·simp[dF,d]
def uQ(op:Int):Option (Nat×Nat) :=
 if op=32 then some (0,152) else if op=52 then some (1,153) else if op=2 then some (2,150) else if op=3 then some (3,150) else if op=96 then some (4,150) else if op=97 then some (5,150) else
 if op=100 then some (6,151) else if op=116 then some (7,151) else none
def zwo(op:Int):js (.sc .int) (.int .i64 op) wN 0=some ((uQ op).map fun p=>(p.1,.fn p.2 [.ptr 0 0])):=by
 unfold uQ wN
 by_cases a:op=32;· subst a;rfl
 by_cases b:op=52;· subst b;rfl
 by_cases c:op=2;· subst c;rfl
 by_cases d:op=3;· subst d;rfl
 by_cases e:op=96;· subst e;rfl
 by_cases f:op=97;· subst f;rfl
 by_cases g:op=100;· subst g;rfl
 by_cases h:op=116;· subst h;rfl
 simp[js,jr,oV,a,b,c,d,e,f,g,h,aM]
def zCB[aA G](x:af){i f:Nat}(h:uQ x.op=some (i,f)):∃ e:Int,bp G (.F f [IV x,.ptr 0 0] (RH x) (.int .i64 e) (RH x++[some (.cells x.cs)]))/\(e=0↔m_ x=true):=by
 unfold uQ at h
 have r4 (a:Bool) (n:Int) (j:n≠0):((if a=true then 0 else n)=0↔a=true):=by cases a<;>simp[j]
 unfold m_;split at h
 ·rename_i b;cases h;exact⟨_,L8 x _ (.inr (.inr (.inl ⟨rfl,rfl⟩))),by rw[r4 _ _ (by decide),if_pos b]⟩
 split at h
 ·rename_i d b;cases h;exact⟨_,L8 x _ (.inr (.inr (.inr ⟨rfl,rfl⟩))),by rw[r4 _ _ (by decide),if_neg d,if_pos b]⟩
 have two:¬x.op=32->¬x.op=52->x.op=2\/x.op=3\/x.op=96\/x.op=97->some (i,f)=some (i,150)->∃ e:Int,bp G (.F f [IV x,.ptr 0 0] (RH x) (.int .i64 e) (RH x++[some (.cells x.cs)])) /\
   (e=0↔(if x.op=32 then decide (x.k%4=0/\x.k<64) else if x.op=52 then decide (x.k≠0) else if x.op=2\/x.op=3\/x.op=96\/x.op=97 then decide (x.k<16) else if x.op=100\/x.op=116 then decide (x.k<32) else true)=true):=by
  intro d b l m;cases m;exact⟨_,L8 x _ (.inl ⟨rfl,rfl⟩),by rw[r4 _ _ (by decide),if_neg d,if_neg b,if_pos l]⟩
 rename_i n1 c;split at h
 ·rename_i b;cases h;exact two n1 c (.inl b) rfl
 split at h
 ·rename_i b;cases h;exact two n1 c (.inr (.inl b)) rfl
 split at h
 ·rename_i b;cases h;exact two n1 c (.inr (.inr (.inl b))) rfl
 split at h
 ·rename_i b;cases h;exact two n1 c (.inr (.inr (.inr b))) rfl
 rename_i o p q r
 have g:¬(x.op=2\/x.op=3\/x.op=96\/x.op=97):=an
 split at h
 ·rename_i b;cases h;exact⟨_,L8 x _ (.inr (.inl ⟨rfl,rfl⟩)),by rw[r4 _ _ (by decide),if_neg n1,if_neg c,if_neg g,if_pos (.inl b)]⟩
 split at h
 ·rename_i b;cases h;exact⟨_,L8 x _ (.inr (.inl ⟨rfl,rfl⟩)),by rw[r4 _ _ (by decide),if_neg n1,if_neg c,if_neg g,if_pos (.inr b)]⟩
 cases h
def zx9{x:af}(h:uQ x.op=none):m_ x=true:=by
 unfold uQ at h;unfold m_
 repeat' split at h
 all_goals first|(cases h;done)|skip
 rw[if_neg an,if_neg an,if_neg an,if_neg an]
end Go.Ev
