/- What the functions of ins, and those of hurdleref02, compute. -/
import Derived.Test.YtbkhoemaobbplaaGreatDoorEvInsCW
import Derived.Test.YtbkhoemaobbplaaGreatDoorEvBitsCW
import Derived.Test.YtbkhoemaobbplaaGreatDoorBitsP
set_option linter.defProp false
set_option linter.unusedSimpArgs false
set_option linter.unusedVariables false
set_option maxHeartbeats 4000000
set_option maxRecDepth 10000
open Int renaming natCast_add->aab,natCast_emod->aau,natCast_mul->aaP,eq_ofNat_of_zero_le->aa4,natCast_ediv->abj,toNat_natCast->abw,not_le->ab9,natCast_pow->acF
open Nat renaming le_of_ble_eq_true->aad,le_refl->aak,lt_of_lt_of_le->aaC,pow_le_pow_right->aaN,mod_eq_of_lt->aa1,add_comm->abn,eq_of_testBit_eq->abC,mod_lt->abD,testBit_succ->abT,mul_comm->acf,lt_of_le_of_lt->ach,zero_le->acw,div_le_self->acH,pow_succ->acQ
open List renaming getElem?_eq_getElem->aae,getElem_mem->aag,getElem?_eq_some_iff->aah,mem_cons->aai,length_cons->aaj,length_append->aal,mem_map->aan,mem_of_mem_drop->aao,mem_singleton->aap,mem_append->aar,getD->aas,length_pos_iff->aav,take_add_one->aaw,length_take->aax,length_drop->aay,drop_eq_getElem_cons->aaA,mem_of_mem_take->aaG,getElem?_append_right->aaH,range_succ->aaI,not_mem_nil->aaJ,take_length->aaL,getElem?_set->aaO,map_cons->aaT,mem_of_getElem?->aaW,append_assoc->aaX,take_of_length_le->aaY,drop_drop->aa0,all_eq_true->aa2,getElem?_replicate->aa3,length_eq_zero_iff->aa5,range->aba,ext_getElem?->abe,getElem?_eq_none->abi,cons_append->abl,getLast?_eq_getElem?->abm,pairwise_cons->abo,replicate->abp,mem_range->abt,flatMap_cons->abu,drop_eq_nil_of_le->aby,takeWhile_append_dropWhile->abB,nil_append->abE,pairwise_append->abF,foldl_cons->abG,mem_filter->abH,flatMap_append->abJ,drop_succ_cons->abK,drop_length_add_append->abN,getElem?_take->abP,getElem?_drop->abQ,mem_or_eq_of_mem_set->abR,getElem?_append_left->abS,map_nil->abV,getElem?_cons_succ->abZ,length_set->ab0,range_zero->ab2,filter_eq_nil_iff->ab4,set_append_right->ab5,length_replicate->ab6,getElem?_of_mem->ab7,getElem?_append->ab8,replicate_succ->aca,getElem?_range->acd,find?_eq_none->ace,mem_replicate->acj,flatten_cons->acm,getElem?_map->acv,drop_length->acx,any_eq_true->acA,perm_middle->acB,filter_cons->acC,find?_cons->acD,append_nil->acG,map_append->acI,length_map->acK,map_drop->acM,cons->acV
open Bool renaming and_eq_true->aaf,eq_iff_iff->aaq,false_eq_true->aat,true_and->aaB,not_eq_true->aaD,and_true->abz,not_eq_true'->acp,false_and->acL,true_or->acU
open Option renaming map_eq_some_iff->aaZ,toList->abA,some->ab3,toList_some->aci,getD_some->acz,map_some->acJ
open BitVec renaming ofNat->abU,getLsbD_ofNat->ab_,toNat_ofNat->acg,ofInt->acN
open Prod renaming mk->ack
open Function renaming comp_def->acn
namespace Go.Ev
open Go Go.RowKit
variable {G:aK}
structure af where
 op:Int
 jt:Int
 jf:Int
 k:Nat
 deriving DecidableEq
def af.cs(x:af):List V:=[.int .i64 x.op,.int .i64 x.jt,.int .i64 x.jf,.int .u32 (x.k:Int)]
def IV(x:af):V:=.agg x.cs
def IL(l:List af):List (List V):=l.map af.cs
def FL(l:List af):V:=.vs (IL l) .no
@[simp] theorem zNt (l:List af):(IL l).length=l.length:=by simp[IL]
@[simp] theorem YG (l:List af) (i:Nat):(IL l)[i]?=(l[i]?).map af.cs:=by simp[IL]
@[simp] theorem zHS:IL []=[]:=rfl
theorem SG(l:List af):IL l=[]↔l=[]:=by simp[IL]
def zBh(l m:List af):IL l++IL m=IL (l++m):=by simp[IL]
@[simp] theorem Om (l:List af) (x:af):IL l++[x.cs]=IL (l++[x]):=by simp[IL]
@[simp] theorem akx (l:List af):(∀f∈IL l,f.length=4)=True:=by simp only[eq_iff_iff,iff_true];intro f a;simp only[IL,aan] at a;obtain⟨x,_,rfl⟩:=a;rfl
@[simp] theorem zNu (x:af):x.cs.length=4:=rfl
abbrev vS:=Int×List UInt8×Bool×Bool
def qP(r:vS):List V:=[.int .i64 r.1,.str r.2.1,.bool r.2.2.1,.bool r.2.2.2]
def oJ(op:Int):Option vS:=o9.find? λr=>r.1==op
def YH{α β:Type}(g:α->List β)(k:Nat)(c:∀a,(g a).length=k):∀(l:List α) (n:Nat) (a:α),l[n]?=some a->(((l.map g).flatten).drop (n*k)).take k=g a
 | [],n,a,h=>by simp at h
 | b::l,0,a,h=>by
  simp at h;subst h
  simp[c]
 | b::l,n+1,a,h=>by
  simp only[abZ] at h;rw[aaT,acm,Nat.add_mul,Nat.one_mul,abn,<-c b,abN];have:=YH g k c l n a h;rw[c b];exact this
def zBi{n:Nat}{r:vS}(h:o9[n]?=some r):(yg.drop (n*4)).take 4=qP r:=YH (λr:vS=>qP r) 4 (λ_=>rfl) o9 n r h
def SH:yg.length=156:=by decide
def zxB:yg.take 156=yg:=by rw[aaY];rw[SH];exact aak _
def ztF(n:Nat):ba n yg=yg:=by rw[ij];simp[yg,List.map_flatten,acn,V.cl]
def K5(op:Int):V:=match oJ op with
 | some r=>.a_ [.agg (qP r),.bool true]
 | none=>.a_ [.agg [.int .i64 0,.str [],.bool false,.bool false],.bool false]
def ztG{α:Type}{p:α->Bool}{l:List α}(h:∀(n:Nat) (a:α),l[n]?=some a->p a=false):l.find? p=none:=by rw[ace];intro a b;obtain⟨n,c⟩:=ab7 b;simp[h n a c]
def YI{α:Type}{p:α->Bool}:∀{l:List α} {n:Nat} {a:α},l[n]?=some a->p a=true->(∀(m:Nat) (b:α),m<n->l[m]?=some b->p b=false)->l.find? p=some a
 | [],n,a,h,_,_=>by simp at h
 | b::l,0,a,h,d,_=>by simp at h;subst h;simp[d]
 | b::l,n+1,a,h,d,e=>by
  rw[acD];rw[e 0 b an rfl];exact YI (by simpa using h) d λm c g f=>e (m+1) c an (by simpa using f)
def SI(op:Int)(n:Nat):Prop:=∀(m:Nat) (b:vS),m<n->o9[m]?=some b->(b.1==op)=false
def YJ[aA G](op:Int):FP G 139 [.int .i64 op] (K5 op):=by
 refine bt aA.ad6 (aad rfl) ?_;simp[SH,zxB]
 refine aM 39 (λn=>[(0,.int .i64 op),(2,.ptr 0 0),(6,.agg yg),(7,.int .i64 n)]) (λ_=>[some (.cells [.int .i64 0,.str [],.bool false,.bool false])])
  (λn=>SI op n) ?_ ?_
 .simp[aw,ak,ztF];intro m b h;omega
 intro n l c
 by_cases f:n<39
 .obtain⟨r,d⟩:∃r,o9[n]?=some r:=⟨_,aae (show n<o9.length from f)⟩;have g:=zBi d
  by_cases e:r.1=op
  .have:oJ op=some r:=YI d (by simpa using e) c;simp(disch:=omega)[bC,az,SH,g,qP,e,this,K5,-aab]
  .have i:SI op (n+1):=λm b h a=>by
    by_cases j:m=n
    .subst j;rw[d] at a;cases a;simpa using e
    .exact c m b an a
   simp(disch:=omega)[bC,az,SH,g,qP,aF,bD,f,aw,ak,ztF,i,-aab]
 .have k:n=39:=an
  subst k;have:oJ op=none:=ztG λm b a=>c m b (by have:=(aah.1 a).1;exact this) a;simp[this,K5]
def Gt{op:Int}{r:vS}(h:oJ op=some r):r.1=op/\r∈o9:=by have a:=List.find?_some h;exact⟨by simpa using a,List.mem_of_find?_eq_some h⟩
def YK{op:Int}(h:oJ op=none):∀r∈o9,r.1≠op:=λr a=>by
 have:=ace.1 h r a;simpa using this
def bg(op:Int):Int×Bool×Bool :=
 if op∈[4,20,36,52,68,84,100,116,164] then(op,false,true) else if op∈[12,28,44,60,76,92,108,124,172] then(op-8,true,true) else(0,false,false)
def aX(op:Int):Bool:=decide (op∈[21,37,53,69,29,45,61,77])
def gu(op:Int):Bool:=decide (op=6\/op=22)
def zvX{op:Int}(h:oJ op=none):bg op=(0,false,false):=by
 have d:∀p∈[4,20,36,52,68,84,100,116,164,12,28,44,60,76,92,108,124,172],∃r∈o9,r.1=p:=by decide
 unfold bg;rw[if_neg,if_neg]
 .intro a;obtain⟨r,b,c⟩:=d op (by simp only[aai,aaJ,or_false] at a |-;omega);exact YK h r b c
 .intro a;obtain⟨r,b,c⟩:=d op (by simp only[aai,aaJ,or_false] at a |-;omega);exact YK h r b c
def zyq{op:Int}(h:oJ op=none):aX op=false:=by
 have a:∀p∈[21,37,53,69,29,45,61,77],∃r∈o9,r.1=p:=by decide
 simp only[aX,decide_eq_false_iff_not];intro b;obtain⟨r,c,d⟩:=a op b;exact YK h r c d
def On[aA G](x:af):FP G 143 [IV x] (.bool (gu x.op)):=by
 refine bt aA.aea (aad rfl) ?_;simp[IV,af.cs]
 by_cases h:x.op=6
 .simp[h,gu]
 .by_cases a:x.op=22<;>simp[h,a,aF,gu]
def An[aA G](x:af):FP G 142 [IV x] (.bool (aX x.op)):=by
 refine bt aA.ad9 (aad rfl) ?_;simp[IV,af.cs];refine au (YJ x.op) ?_;unfold K5
 cases h:oJ x.op with
 | none=>simp[zyq h]
 | some r =>
  obtain⟨d,e⟩:=Gt h
  have a:∀r∈o9,(decide (jU .i64 r.1 7=5)&&decide (r.1≠5))=aX r.1:=by decide
  have a:=a r e;rw[d] at a
  by_cases b:jU .i64 x.op 7=5
  .by_cases c:x.op=5
   .simp[c] at a;simp[qP,c];rw[c] at b;simp[b];exact a
   .simp[b,c] at a;simp[qP,b,c,ke,a]
  .simp[b] at a;simp[qP,b,aF,a]
def K6[aA G](x:af):FP G 141 [IV x] (.a_ [.int .i64 (bg x.op).1,.bool (bg x.op).2.1,.bool (bg x.op).2.2]):=by
 refine bt aA.ad8 (aad rfl) ?_;simp[IV,af.cs];refine au (YJ x.op) ?_;unfold K5
 cases h:oJ x.op with
 | none=>simp[zvX h]
 | some r =>
  obtain⟨d,e⟩:=Gt h
  have a:∀r∈o9,bg r.1=if jU .i64 r.1 7≠4\/r.1=132 then(0,false,false) else(Kc .i64 r.1 8,decide (jU .i64 r.1 8>0),true):=by decide
  have a:=a r e;rw[d] at a
  by_cases c:jU .i64 x.op 7=4
  .by_cases b:x.op=132
   .have f:jU .i64 132 7=4:=by decide
    rw[if_pos (.inr b)] at a;simp[qP,b,f,b▸a]
   .rw[if_neg (by simp[c,b])] at a;simp[qP,c,b,aF,a]
  .rw[if_pos (.inl c)] at a;simp[qP,c,ke,a]
def jv(x:af):Bool:=match oJ x.op with
 | some r=>(r.2.2.1||decide (x.k=0))&&(if r.2.2.2 then decide (0<=x.jt/\x.jt<=255/\0<=x.jf/\x.jf<=255) else decide (x.jt=0/\x.jf=0))
 | none=>false
def K7[aA G](x:af):FP G 140 [IV x] (.bool (jv x)):=by
 refine bt aA.ad7 (aad rfl) ?_;simp[IV,af.cs];refine au (YJ x.op) ?_;unfold K5 jv
 cases h:oJ x.op with
 | none=>simp
 | some r =>
  obtain⟨i,w,e,ways⟩:=r;have oK:∀{H:ae},True:=trivial;cases e
  .by_cases c:x.k=0
   .cases ways
    .by_cases a:x.jt=0
     .by_cases b:x.jf=0<;>simp[qP,c,a,b,aF]
     .simp[qP,c,a,aF]
    .by_cases a:0<=x.jt
     .by_cases b:x.jt<=255
      .by_cases d:0<=x.jf
       .by_cases f:x.jf<=255<;>simp[qP,c,a,b,d,f]
       .simp[qP,c,a,b,d]
      .simp[qP,c,a,b]
     .simp[qP,c,a]
   .have g:((x.k:Int) !=0)=true:=ke an;simp[qP,c,g]
  .cases ways
   .by_cases a:x.jt=0
    .by_cases b:x.jf=0<;>simp[qP,a,b,aF]
    .simp[qP,a,aF]
   .by_cases a:0<=x.jt
    .by_cases b:x.jt<=255
     .by_cases d:0<=x.jf
      .by_cases f:x.jf<=255<;>simp[qP,a,b,d,f]
      .simp[qP,a,b,d]
     .simp[qP,a,b]
    .simp[qP,a]
def K8:List Int:=o9.map (·.1)
def zHT[ew G]:FP G 177 [] (.vs (ints .i64 K8) .no):=by refine bt ew.aeC (aad rfl) ?_;simp[ints,K8,o9]
def YL[ew G](op:Int):∃p:Int,FP G 176 [.int .i64 op] (.int .i64 p) /\
  ((∃(n:Nat) (r:vS),p=n/\o9[n]?=some r/\oJ op=some r)\/p=-1/\oJ op=none):=by
 have a:∀p:Int,((∃(n:Nat) (r:vS),p=n/\o9[n]?=some r/\oJ op=some r)\/p=-1/\oJ op=none)->FP G 176 [.int .i64 op] (.int .i64 p):=by
  intro p u;refine bt ew.aeB (aad rfl) ?_;simp;refine au zHT ?_;simp;refine aM 39 (λn=>[(0,.int .i64 op),(3,.vs (ints .i64 K8) .no),(4,.int .i64 n)]) (λ_=>[]) (λn=>SI op n) ?_ ?_
  .simp[aw,ak];intro m b w;omega
  intro n l o;have q:K8.length=39:=rfl
  by_cases s:n<39
  .obtain⟨r,d⟩:∃r,o9[n]?=some r:=⟨_,aae (show n<o9.length from s)⟩
   have x:K8[n]?=some r.1:=by simp[K8,d]
   obtain⟨_,v⟩:=aah.1 x
   by_cases g:r.1=op
   .have k:oJ op=some r:=YI d (by simpa using g) o
    have:p=n:=by
     rcases u with⟨t,y,rfl,f,c⟩|⟨_,c⟩
     .rw[k] at c;cases c;have E:o9.length=39:=rfl
      have z:∀i j:Fin 39,o9[i.1]?=o9[j.1]?->i=j:=by decide
      have A:t<39:=by have:=(aah.1 f).1;omega
      have:=z ⟨t,A⟩ ⟨n,s⟩ (by rw[f,d]);simp at this;rw[this]
     .rw[k] at c;cases c
    simp(disch:=omega)[bC,v,g,q,this,-aab]
   .have B:SI op (n+1):=λm b w e=>by
     by_cases C:m=n
     .subst C;rw[d] at e;cases e;simpa using g
     .exact o m b an e
    simp(disch:=omega)[bC,v,aF,q,bD,s,aw,ak,B,-aab]
  .have D:n=39:=an
   subst D;have k:oJ op=none:=ztG λm b e=>o m b (by have:=(aah.1 e).1;exact this) e
   have:p=-1:=by
    rcases u with⟨t,y,rfl,f,c⟩|⟨f,_⟩
    .rw[k] at c;cases c
    .exact f
   simp[q,this]
 cases h:oJ op with
 | none=>exact⟨-1,a _ (.inr ⟨rfl,h⟩),.inr ⟨rfl,rfl⟩⟩
 | some r =>
  obtain⟨g,d⟩:=Gt h;obtain⟨n,l⟩:=ab7 d;exact⟨n,a _ (.inl ⟨n,r,rfl,l,h⟩),.inl ⟨n,r,rfl,l,rfl⟩⟩
def YM(i:Int):Bool:=decide (13<=i/\i<=24\/i=30\/35<=i)
def zBj[ew G](i:Int):FP G 175 [.int .i64 i] (.bool (YM i)):=by
 refine bt ew.aeA (aad rfl) ?_;unfold YM
 by_cases a:13<=i
 .by_cases b:i<=24
  .simp[a,b]
  .by_cases c:i=30
   .simp[c]
   .by_cases d:35<=i<;>simp[a,b,c,d,aF]
 .simp[a,show¬35<=i from an,show¬i=30 from an,aF]
def YN[ew G](i:Int):FP G 174 [.int .i64 i] (.bool (decide (31<=i))):=by refine bt ew.aez (aad rfl) ?_;simp
def YO[ew G](x:af):FP G 180 [IV x] (.bool (aX x.op)):=by
 obtain⟨p,d,e⟩:=YL (G:=G) x.op;refine bt ew.aeF (aad rfl) ?_;simp[IV,af.cs];refine au d ?_;simp;refine au (YN p) ?_
 have:decide (31<=p)=aX x.op:=by
  rcases e with⟨n,r,rfl,c,a⟩|⟨rfl,a⟩
  .have b:∀i:Fin 39,∀r,o9[i.1]?=some r->decide (31<=(i.1:Int))=aX r.1:=by decide
   have f:n<39:=by have:=(aah.1 c).1;exact this
   have:=b ⟨n,f⟩ r c;rw[(Gt a).1] at this;exact this
  .rw[zyq a];rfl
 simp[this]
def zGi[ew G](x:af):FP G 179 [IV x] (.a_ [.int .i64 (bg x.op).1,.bool (bg x.op).2.1,.bool (bg x.op).2.2]):=by
 obtain⟨p,h,j⟩:=YL (G:=G) x.op;refine bt ew.aeE (aad rfl) ?_;simp[IV,af.cs];refine au h ?_
 have a:bg x.op=if 4<=p/\p<=12 then(x.op,false,true) else if 13<=p/\p<=21 then(bP .i64 x.op 8,true,true) else(0,false,false):=by
  rcases j with⟨n,r,rfl,g,d⟩|⟨rfl,d⟩
  .have a:∀i:Fin 39,∀r,o9[i.1]?=some r->bg r.1=if 4<=(i.1:Int)/\(i.1:Int)<=12 then(r.1,false,true) else if 13<=(i.1:Int)/\(i.1:Int)<=21 then(bP .i64 r.1 8,true,true) else(0,false,false):=by decide
   have k:n<39:=by have:=(aah.1 g).1;exact this
   have:=a ⟨n,k⟩ r g;rw[(Gt d).1] at this;exact this
  .rw[zvX d];rfl
 by_cases b:4<=p
 .by_cases c:p<=12
  .rw[if_pos ⟨b,c⟩] at a;simp[b,c,a]
  .rw[if_neg an] at a
   by_cases e:13<=p
   .by_cases f:p<=21
    .rw[if_pos ⟨e,f⟩] at a;simp[b,c,e,f,a]
    .rw[if_neg an] at a;simp[b,c,e,f,a]
   .omega
 .rw[if_neg an,if_neg an] at a;simp[b,show¬13<=p from an,a]
def zDK[ew G](x:af):FP G 181 [IV x] (.bool (gu x.op)):=by
 refine bt ew.aeG (aad rfl) ?_;simp[IV,af.cs]
 by_cases h:x.op=6
 .simp[h,gu]
 .by_cases a:x.op=22<;>simp[h,a,aF,gu]
def zzQ[ew G](x:af):FP G 178 [IV x] (.bool (jv x)):=by
 obtain⟨p,s,t⟩:=YL (G:=G) x.op;refine bt ew.aeD (aad rfl) ?_;simp[IV,af.cs];refine au s ?_
 rcases t with⟨n,r,rfl,a,c⟩|⟨rfl,c⟩
 case inr=>simp[jv,c]
 have g:∀i:Fin 39,∀r,o9[i.1]?=some r->YM (i.1:Int)=!r.2.2.1/\decide (31<=(i.1:Int))=r.2.2.2:=by decide
 have u:n<39:=by have:=(aah.1 a).1;exact this
 obtain⟨m,f⟩:=g ⟨n,u⟩ r a;simp only at m f;simp(disch:=omega)[kQ];refine au (zBj n) ?_;unfold jv;rw[c,m];obtain⟨y,w,h,ways⟩:=r;simp only at f |-;have d:∀j:Int,(j<256)=(j<=255):=λj=>propext an;have o:∀b:Bool,b=true->True:=λ_ _=>trivial;cases h
 .by_cases q:x.k=0
  .simp[q];refine au (YN n) ?_;rw[f];cases ways
   .by_cases a:x.jt=0
    .by_cases c:x.jf=0<;>simp[a,c,aF]
    .simp[a,aF]
   .by_cases a:0<=x.jt
    .by_cases c:x.jt<=255
     .by_cases e:0<=x.jf
      .by_cases l:x.jf<=255<;>simp[d,a,c,e,l]
      .simp[d,a,c,e]
     .simp[d,a,c]
    .simp[a]
  .have v:((x.k:Int) !=0)=true:=ke an;simp[q,v]
 .simp;refine au (YN n) ?_;rw[f];cases ways
  .by_cases a:x.jt=0
   .by_cases c:x.jf=0<;>simp[a,c,aF]
   .simp[a,aF]
  .by_cases a:0<=x.jt
   .by_cases c:x.jt<=255
    .by_cases e:0<=x.jf
     .by_cases l:x.jf<=255<;>simp[d,a,c,e,l]
     .simp[d,a,c,e]
    .simp[d,a,c]
   .simp[a]
def CZ(k:Nat):Nat:=if k<16 then 2^(k+2) else 0
def zvZ[dh G](k:Nat):FP G 166 [.int .u32 (k:Int)] (.int .u32 (CZ k:Nat)):=by
 refine bt dh.aes (aad rfl) ?_;simp
 by_cases h:16<=k
 .simp[show(16:Int)<=(k:Int) from an,CZ,show¬k<16 from an]
 .have b:k<16:=an
  have c:je .u32 4 (k:Int)=((4*2^k%4294967296:Nat):Int):=Nb (a:=4) an
  have d:4*2^k%4294967296=2^(k+2):=by
   rw[aa1]
   .rw[Nat.pow_add,acf]
   .have:2^k<=2^15:=aaN ag7 an;omega
  simp(disch:=omega)[DR,kQ,c,d,CZ,b,-acF]
def uB(op:Int):Bool:=(bg op).2.1||decide (op∈[29,45,61,77])
def K9{op:Int}(h:(bg op).2.2=true):op∈[4,20,36,52,68,84,100,116,164,12,28,44,60,76,92,108,124,172]:=by
 unfold bg at h;split at h
 .rename_i a;simp only[aai,aaJ,or_false] at a |-;omega
 .split at h
  .rename_i a;simp only[aai,aaJ,or_false] at a |-;omega
  .cases h
def zHU[aA G][dh G](x:af):FP G 167 [IV x] (.bool (uB x.op)):=by
 refine bt dh.aet (aad rfl) ?_;have c:=K6 (G:=G) x;simp[IV,af.cs] at c |-;refine au c ?_;unfold uB;cases h:(bg x.op).2.2
 .have f:(bg x.op).2.1=false:=by
   unfold bg at h |-;split at h
   .cases h
   .split at h
    .cases h
    .rename_i a b;rw[if_neg a,if_neg b]
  simp[f]
  by_cases a:x.op=29
  .simp[a]
  by_cases b:x.op=45
  .simp[b]
  by_cases d:x.op=61
  .simp[d]
  by_cases e:x.op=77
  .simp[e]
  simp[a,b,d,e,aF]
 .have a:=K9 h
  have b:∀p∈[4,20,36,52,68,84,100,116,164,12,28,44,60,76,92,108,124,172],decide (p∈[29,45,61,(77:Int)])=false:=by decide
  simp;have:=b _ a;simp at this;simp[this]
def k8(x:af)(part:Nat):Bool :=
 if part=0 then(bg x.op).2.2||aX x.op||decide (x.op∈[2,7,132,22])
 else if part=1 then uB x.op||decide (x.op∈[3,135])
 else decide ((x.op=96\/x.op=97)/\x.k+2=part)
def me(x:af)(part:Nat):Bool :=
 if part=0 then(bg x.op).2.2||decide (x.op∈[0,32,96,135,132])
 else if part=1 then decide (x.op∈[1,97,7])
 else decide ((x.op=2\/x.op=3)/\x.k+2=part)
def Gu(x:af):Nat:=fG (k8 x) 18
def Eo(x:af):Nat:=fG (me x) 18
def zyr{f:Nat->Bool}{m:Nat}(h:∀i,i<18->m.testBit i=f i)(a:m<2^18):fG f 18=m:=by
 refine abC λi=>?_;rw[Az]
 by_cases hi:i<18
 .simp[hi,h i hi]
 .simp only[hi,decide_false,acL];exact(Nat.testBit_lt_two_pow (aaC a (aaN ag7 an))).symm
def zDL(k:Nat):CZ k<2^18:=by
 unfold CZ;split
 .have:2^(k+2)<=2^17:=aaN ag7 an;omega
 .decide
def zBk(k i:Nat)(hi:i<18):(CZ k).testBit i=decide (k+2=i):=by
 unfold CZ;split
 .rw[Nat.testBit_two_pow]
 .simp;omega
def YP(m i:Nat)(a:m<4):m.testBit i=if i=0 then decide (m%2=1) else if i=1 then decide (2<=m) else false:=by
 match m,a with
 | 0,_=>simp
 | 1,_ => 
  match i with
  | 0=>rfl
  | i+1=>simp[abT]
 | 2,_ =>
  match i with
  | 0=>rfl
  | 1=>rfl
  | i+2=>simp[abT]
 | 3,_ =>
  match i with
  | 0=>rfl
  | 1=>rfl
  | i+2=>simp[abT]
def IN{f:Nat->Bool}{m:Nat}(c:m<4)(d:f 0=decide (m%2=1))(e:f 1=decide (2<=m))(g:∀i,2<=i->i<18->f i=false):fG f 18=m:=by
 refine zyr (λi hi=>?_) an;rw[YP m i c]
 by_cases a:i=0
 .subst a;simp[d]
 .by_cases b:i=1
  .subst b;simp[e]
  .simp[a,b,g i an hi]
def ztH{f:Nat->Bool}{k:Nat}(c:f 0=false)(d:f 1=false)(e:∀i,2<=i->i<18->f i=decide (k+2=i)):fG f 18=CZ k:=by
 refine zyr (λi hi=>?_) (zDL k);rw[zBk k i hi]
 by_cases a:i=0
 .subst a;simp[c]
 .by_cases b:i=1
  .subst b;simp[d]
  .rw[e i an hi]
def zMZ{op:Int}(h:(bg op).2.1=true):(bg op).2.2=true:=by
 unfold bg at h |-;split
 .rfl
 .split
  .rfl
  .rename_i a b;rw[if_neg a,if_neg b] at h;cases h
def zGj[aA G][dh G](x:af):FP G 168 [IV x] (.int .u32 (Gu x:Nat)):=by
 refine bt dh.aeu (aad rfl) ?_;have q:=K6 (G:=G) x;have r:=zHU (G:=G) x;have s:=An (G:=G) x;simp[IV,af.cs] at q r s |-;refine au q ?_
 have p:(x.op=96\/x.op=97)->(bg x.op).2.2=false/\uB x.op=false/\aX x.op=false:=by rintro(h|h)<;>rw[h]<;>decide
 have A:(x.op=3\/x.op=135)->(bg x.op).2.2=false/\uB x.op=false/\aX x.op=false:=by rintro(h|h)<;>rw[h]<;>decide
 by_cases d:x.op=96\/x.op=97
 .have a:=p d
  have f:Gu x=CZ x.k:=ztH
   (by rcases d with h|h<;>(have a:=a;rw[h] at a;simp[k8,a.1,a.2.2,h])) (by rcases d with h|h<;>(have a:=a;rw[h] at a;simp[k8,a.2.1,h]))
   (λi g B=>by simp[k8,show¬i=0 from an,show¬i=1 from an,d])
  rcases d with h|h<;>simp[h,aF]<;>refine au (zvZ x.k) ?_<;>simp[f]
 have t:¬x.op=96:=λh=>d (.inl h);have u:¬x.op=97:=λh=>d (.inr h)
 have hi:∀i,2<=i->i<18->k8 x i=false:=λi g B=>by simp[k8,show¬i=0 from an,show¬i=1 from an,t,u]
 by_cases e:x.op=3\/x.op=135
 .have a:=A e;have f:Gu x=2:=IN ag7 (by rcases e with h|h<;>(have a:=a;rw[h] at a;simp[k8,a.1,a.2.2,h])) (by rcases e with h|h<;>simp[k8,h]) hi
  rcases e with h|h<;>simp[h,aF,f]
 have v:¬x.op=3:=λh=>e (.inl h);have w:¬x.op=135:=λh=>e (.inr h);simp[t,u,v,w,aF];refine au r ?_;cases hb:uB x.op
 case true =>
  have j:k8 x 0=true:=by
   simp only[uB,Bool.or_eq_true,decide_eq_true_eq] at hb
   rcases hb with hb|hb
   .simp[k8,zMZ hb]
   .have:aX x.op=true:=by simp only[aX,decide_eq_true_eq];simp only[aai,aaJ,or_false] at hb |-;omega
    simp[k8,this]
  have f:Gu x=3:=IN ag7 (by rw[j];rfl) (by simp[k8,hb]) hi;simp[f]
 have g:k8 x 1=false:=by simp[k8,hb,v,w]
 have c:∀b:Bool,k8 x 0=b->Gu x=b.toNat:=by
  intro b j;cases b
  .exact IN ag7 (by rw[j];rfl) (by rw[g];rfl) hi
  .exact IN ag7 (by rw[j];rfl) (by rw[g];rfl) hi
 cases y:(bg x.op).2.2
 case true=>simp[c true (by simp[k8,y])]
 simp;refine au s ?_;cases z:aX x.op
 case true=>simp[c true (by simp[k8,z])]
 by_cases l:x.op=2
 .simp[l,c true (by simp[k8,l])]
 by_cases m:x.op=7
 .simp[m,c true (by simp[k8,m])]
 by_cases n:x.op=132
 .simp[n,c true (by simp[k8,n])]
 by_cases o:x.op=22
 .simp[o,c true (by simp[k8,o])]
 simp[l,m,n,o,aF,c false (by simp[k8,y,z,l,m,n,o])]
def zGk[aA G][dh G](x:af):FP G 169 [IV x] (.int .u32 (Eo x:Nat)):=by
 refine bt dh.aev (aad rfl) ?_;have z:=K6 (G:=G) x;simp[IV,af.cs] at z |-;refine au z ?_
 have l:∀(j:me x 0=true) (c:me x 1=false) (d:¬x.op=2) (e:¬x.op=3),Eo x=1:=λj c d e =>
  IN ag7 (by rw[j];rfl) (by rw[c];rfl) λi a b=>by simp[me,show¬i=0 from an,show¬i=1 from an,d,e]
 cases w:(bg x.op).2.2
 case true =>
  have A:=K9 w
  have f:∀p∈[4,20,36,52,68,84,100,116,164,12,28,44,60,76,92,108,124,(172:Int)],decide (p∈[1,97,(7:Int)])=false/\¬p=2/\¬p=3:=by decide
  have k:=f _ A;have:Eo x=1:=l (by simp[me,w]) (by simp only[me];simp;simpa using k.1) k.2.1 k.2.2;simp[this]
 simp
 have C4:∀p∈[0,32,96,135,(132:Int)],x.op=p->Eo x=1:=by
  intro p m B
  have f:∀p∈[0,32,96,135,(132:Int)],decide (p∈[1,97,(7:Int)])=false/\¬p=2/\¬p=3:=by decide
  have k:=f p m;rw[<-B] at k m;exact l (by simp only[me];simp at m |-;simp[m]) (by simp only[me];simp;simpa using k.1) k.2.1 k.2.2
 by_cases n:x.op=0
 .simp[n,C4 0 ag7 n]
 by_cases o:x.op=32
 .simp[o,C4 32 ag7 o]
 by_cases q:x.op=96
 .simp[q,C4 96 ag7 q]
 by_cases r:x.op=135
 .simp[r,C4 135 ag7 r]
 by_cases s:x.op=132
 .simp[s,C4 132 ag7 s]
 have j:me x 0=false:=by simp[me,w,n,o,q,r,s]
 have two:∀(c:me x 1=true) (d:¬x.op=2) (e:¬x.op=3),Eo x=2:=λc d e =>
  IN ag7 (by rw[j];rfl) (by rw[c];rfl) λi a b=>by simp[me,show¬i=0 from an,show¬i=1 from an,d,e]
 by_cases t:x.op=1
 .simp[t,aF,two (by simp[me,t]) an an]
 by_cases u:x.op=97
 .simp[u,aF,two (by simp[me,u]) an an]
 by_cases v:x.op=7
 .simp[v,aF,two (by simp[me,v]) an an]
 have c:me x 1=false:=by simp[me,t,u,v]
 by_cases g:x.op=2\/x.op=3
 .have y:Eo x=CZ x.k:=ztH j c (λi a b=>by simp[me,show¬i=0 from an,show¬i=1 from an,g])
  rcases g with h|h<;>simp[h,aF]<;>refine au (zvZ x.k) ?_<;>simp[y]
 .have d:¬x.op=2:=λh=>g (.inl h);have e:¬x.op=3:=λh=>g (.inr h)
  have y:Eo x=0:=IN ag7 (by rw[j];rfl) (by rw[c];rfl) λi a b=>by simp[me,show¬i=0 from an,show¬i=1 from an,d,e]
  simp[n,o,q,r,s,t,u,v,d,e,aF,y]
structure St where
 a:Nat
 x:Nat
 m:List Nat
 deriving DecidableEq
def St.cs(s:St):List V:=.int .u32 (s.a:Int)::.int .u32 (s.x:Int)::av .u32 s.m
def SV(s:St):V:=.agg s.cs
def St.ok(s:St):Prop:=s.a<4294967296/\s.x<4294967296/\s.m.length=16/\∀w∈s.m,w<4294967296
structure Da where
 nr:Nat
 aC:Nat
 ip:Nat
 args:List Nat
def Da.cs(d:Da):List V:=.int .u32 (d.nr:Int)::.int .u32 (d.aC:Int)::.int .u64 (d.ip:Int)::av .u64 d.args
def DV(d:Da):V:=.agg d.cs
def Da.ok(d:Da):Prop:=d.nr<4294967296/\d.aC<4294967296/\d.ip<18446744073709551616/\d.args.length=6/\∀w∈d.args,w<18446744073709551616
def SL(a b:V)(l:List V)(n:Nat):(a::b::l).take (2+n)=a::b::l.take n:=by rw[abn];rfl
def YR(a b:V)(l:List V)(n:Nat):(a::b::l).drop (2+n)=l.drop n:=by rw[abn];rfl
def Ot(a:V)(l:List V)(n:Nat):(a::l).drop (2+n)=l.drop (n+1):=by rw[show 2+n=(n+1)+1 by omega];rfl
def YT(a b:V)(l:List V)(n:Nat):(a::b::l).drop (2+n+1)=l.drop (n+1):=by rw[show 2+n+1=(n+1)+2 by omega];rfl
def dc(s:St)(x:af):Bool :=
 let b:=if x.op∈[29,45,61,77] then s.x else x.k
 if x.op=21\/x.op=29 then decide (s.a=b) else if x.op=37\/x.op=45 then decide (b<s.a) else if x.op=53\/x.op=61 then decide (b<=s.a) else if x.op=69\/x.op=77 then decide (s.a &&& b≠0) else false
def BA{op:Int}(h:aX op=true):op=21\/op=37\/op=53\/op=69\/op=29\/op=45\/op=61\/op=77:=by simpa[aX] using h
def YU{s:St}{x:af}(h:aX x.op=false):dc s x=false:=by
 have h:∀p,aX p=true->x.op≠p:=λp a e=>by rw[e,a] at h;cases h
 have b:=h 21 rfl;have c:=h 37 rfl;have d:=h 53 rfl;have f:=h 69 rfl;have g:=h 29 rfl;have i:=h 45 rfl;have j:=h 61 rfl;have k:=h 77 rfl;simp[dc,b,c,d,f,g,i,j,k]
def zBl[ew G][c:lI G][pW G](s:St)(x:af)(d:s.ok)(l:x.k<4294967296):FP G 191 [SV s,IV x] (.bool (dc s x)):=by
 refine bt pW.aeP (aad rfl) ?_;have e:=YO (G:=G) x;simp[SV,IV,af.cs,St.cs] at e |-;refine au e ?_;have f:=d.1;have m:=d.2.1;have g:∀a b:Nat,((a:Int)<(b:Int))=(a<b):=λa b=>propext an;have i:∀a b:Nat,((a:Int)<=(b:Int))=(a<=b):=λa b=>propext an;have pos:∀a:Nat,(0<a)=(a≠0):=λa=>propext an;cases j:aX x.op
 .simp[YU j]
 .have n:fU 21 16=5:=by decide
  have o:fU 37 16=5:=by decide
  have p:fU 53 16=5:=by decide
  have q:fU 69 16=5:=by decide
  have r:fU 29 16=13:=by decide
  have t:fU 45 16=13:=by decide
  have u:fU 61 16=13:=by decide
  have v:fU 77 16=13:=by decide
  have w:bP .i64 29 8=21:=by decide
  have y:bP .i64 45 8=37:=by decide
  have z:bP .i64 61 8=53:=by decide
  have A:bP .i64 77 8=69:=by decide
  rcases BA j with h|h|h|h|h|h|h|h
  .simp[h,n,dc,kA]
  .simp[h,o,dc,kA,g]
  .simp[h,p,dc,kA,i]
  .simp[h,q];refine au (Xb c 84 s.a x.k f l) ?_;simp[cA,dc,h,pos]
  .simp[h,r,w,dc,kA]
  .simp[h,t,y,dc,kA,g]
  .simp[h,u,z,dc,kA,i]
  .simp[h,v,A];refine au (Xb c 84 s.a s.x f m) ?_;simp[cA,dc,h,pos]
def zGl(m i:Nat):(m/2^i%2==1)=m.testBit i:=by rw[Nat.testBit_eq_decide_div_mod_eq,aaq];simp
def lo(v:Nat):Nat:=v%4294967296
def hi(v:Nat):Nat:=v/4294967296%4294967296
def iV(d:Da):List Nat:=[d.nr,d.aC,lo d.ip,hi d.ip]++d.args.flatMap λa=>[lo a,hi a]
def zBm(l:List Nat):(l.flatMap λa=>[lo a,hi a]).length=2*l.length:=by
 induction l with
 | nil=>rfl
 | cons a l b=>simp only[abu,aal,b,aaj,List.length_nil];omega
def ztI:∀(l:List Nat) (i:Nat) (h:i<l.length),(l.flatMap λa=>[lo a,hi a])[2*i]?=some (lo l[i])/\(l.flatMap λa=>[lo a,hi a])[2*i+1]?=some (hi l[i])
 | [],i,h=>by simp at h
 | a::l,0,_=>by simp
 | a::l,i+1,h=>by
  have:=ztI l i (by simpa using h);rw[show 2*(i+1)=2*i+2 by omega,show 2*i+2+1=2*i+1+2 by omega];simpa using this
def Ao{d:Da}(h:d.args.length=6):(iV d).length=16:=by rw[iV,aal,zBm,h];rfl
def Ou(v:Nat):lo v<4294967296:=abD _ ag7
def Ov(v:Nat):hi v<4294967296:=abD _ ag7
def YV{d:Da}(h:d.ok):∀w∈iV d,w<4294967296:=by
 intro w b;simp only[iV,aar,aai,aaJ,or_false,List.mem_flatMap] at b
 rcases b with(rfl|rfl|rfl|rfl)|⟨a,_,rfl|rfl⟩
 .exact h.1
 .exact h.2.1
 .exact Ou _
 .exact Ov _
 .exact Ou _
 .exact Ov _
def zGm(v:Nat):eP .u32 (v:Int)=((lo v:Nat):Int):=rfl
def YW(v:Nat)(h:v<18446744073709551616):jV .u64 (v:Int) 32=((v/4294967296:Nat):Int):=by
 unfold jV
 have:(min (32:Int).toNat IntKind.u64.bits)=32:=by decide
 rw[this];change (v:Int).fdiv 4294967296=_;rw[Int.fdiv_eq_ediv_of_nonneg _ ag7];rfl
def zM0(v:Nat):lo (v/4294967296)=hi v:=rfl
def H4(cs:List V)(l:List Nat)(n:Nat):ae:=[some (.cells cs),some (.cells (av .u32 (aP 16))),some (.cells (av .u32 l)),some (.cells [.int .i64 n])]
def YX[bV G](cs:List V)(l:List Nat)(n v:Nat)(a:l.length=16)(m:n+1<16)(b:v<18446744073709551616) :
  bE G (.F 159 [.int .u64 v,.ptr 2 0,.ptr 3 0] (H4 cs l n) (.a_ []) (H4 cs ((l.set n (lo v)).set (n+1) (hi v)) (n+2))):=by
 refine fh bV.aem (aad rfl) ?_;have c:=wJ .u32 l n (lo v) an;have d:=wJ .u32 (l.set n (lo v)) (n+1) (hi v) (by simp;omega);have e:aD .i64 (n:Int) 1=((n+1:Nat):Int):=bD an;have f:aD .i64 (n:Int) 2=((n+2:Nat):Int):=M_ (n:=2) an;have g:=YW v b;have h:((n:Int)<16)=True:=bC an;have i:(((n+1:Nat):Int)<16)=True:=bC an;have j:(n+1<=16)=True:=az an
 have o:(n+1+1<=16)=True:=az an;have k:(n<=14)=True:=az an;simp[H4,e,f,g,zGm,zM0,a,h,i,j,k,c,d,-aab,-abj]
def Ow(v:Nat)(h:v<18446744073709551616):eP .u64 (v:Int)=(v:Int):=by unfold eP;exact IntWalk.u64_in _ ⟨an,an⟩
def zBn(a b:Nat)(e:a<4294967296)(f:b<4294967296):uU .u64 (a:Int) (je .u64 (b:Int) 32)=((a+b*4294967296:Nat):Int):=by
 have c:je .u64 (b:Int) 32=((b*4294967296:Nat):Int):=by
  unfold je
  have:(min (32:Int).toNat IntKind.u64.bits)=32:=by decide
  rw[this];rw[show((b:Int)*2^32)=((b*4294967296:Nat):Int) by omega];exact IntWalk.u64_in _ ⟨an,an⟩
 rw[c];change IntKind.u64.wrap ((acN 64 (a:Int) ||| acN 64 ((b*4294967296:Nat):Int)).toNat:Int)=_;rw[si,si]
 have d:(abU 64 a ||| abU 64 (b*4294967296)).toNat=a+b*4294967296:=by rw[BitVec.toNat_or,acg,acg,aa1 an,aa1 an];have:=Nat.two_pow_add_eq_or_of_lt (i:=32) (b:=a) an b;rw[Nat.or_comm,acf,show(4294967296:Nat)=2^32 from rfl,<-this];omega
 rw[d];exact IntWalk.u64_in _ ⟨an,an⟩
def Ap(d:Da)(i:Nat):List Nat:=(iV d).take (4+2*i)++aP (12-2*i)
def ztJ{d:Da}(h:d.args.length=6){i:Nat}(hi:i<=6):(Ap d i).length=16:=by simp[Ap,Ao h];omega
def ztK{d:Da}(h:d.args.length=6){i:Nat}(hi:i<=6)(j:Nat):(Ap d i)[j]?=if j<4+2*i then(iV d)[j]? else if j<16 then some 0 else none:=by
 have c:=Ao h;rw[Ap,ab8,aax,c,abP]
 by_cases a:j<4+2*i
 .rw[if_pos an,if_pos a,if_pos a]
 .rw[if_neg an,if_neg a]
  by_cases b:j<16
  .rw[if_pos b];simp[aP,aa3];omega
  .rw[if_neg b];simp[aP,aa3];omega
def zzS{d:Da}(h:d.args.length=6){i:Nat}(m:i<6):((Ap d i).set (4+2*i) (lo d.args[i])).set (4+2*i+1) (hi d.args[i])=Ap d (i+1):=by
 have f:=ztJ h (show i<=6 by omega);have a:=ztI d.args i an
 have g:(iV d)[4+2*i]?=some (lo d.args[i]):=by rw[iV,aaH ir];simpa using a.1
 have k:(iV d)[4+2*i+1]?=some (hi d.args[i]):=by rw[iV,aaH (by simp;omega)];simpa[show 4+2*i+1-4=2*i+1 by omega] using a.2
 apply abe;intro j;rw[ztK h an,aaO,aaO,ab0,f,ztK h an]
 by_cases b:4+2*i+1=j
 .subst b;rw[if_pos rfl,if_pos an,if_pos an,k]
 .rw[if_neg b]
  by_cases c:4+2*i=j
  .subst c;rw[if_pos rfl,if_pos an,if_pos an,g]
  .rw[if_neg c]
   by_cases e:j<4+2*i
   .rw[if_pos e,if_pos an]
   .rw[if_neg e]
    by_cases l:j<4+2*(i+1)
    .omega
    .rw[if_neg l]
def zGn(d:Da)(h:d.args.length=6):((((aP 16).set 0 d.nr).set 1 d.aC).set 2 (lo d.ip)).set 3 (hi d.ip)=Ap d 0:=by have:aP 16=0::0::0::0::aP 12:=rfl;rw[this];simp[Ap,iV]
def zGo(d:Da)(h:d.args.length=6):Ap d 6=iV d:=by simp only[Ap,show 12-2*6=0 from rfl,aP,List.replicate_zero,acG];exact aaY (by rw[Ao h];exact aak _)
def zv3[bV G](d:Da)(hd:d.ok):FP G 160 [DV d] (.agg (av .u32 (iV d))):=by
 obtain⟨e,f,g,a,h⟩:=hd;refine bt bV.aen (aad rfl) ?_;have o:=zBn d.nr d.aC e f
 have j:lo (d.nr+d.aC*4294967296)=d.nr:=by unfold lo;omega
 have l:hi (d.nr+d.aC*4294967296)=d.aC:=by unfold hi;omega
 have p1:=YX (G:=G) d.cs (aP 16) 0 (d.nr+d.aC*4294967296) ir ag7 an;have p2:=YX (G:=G) d.cs (((aP 16).set 0 d.nr).set 1 d.aC) 2 d.ip ir ag7 g;rw[j,l] at p1;have m:=eM (k:=.u64) a;simp[H4,Da.cs,-aab,-aaP] at p1 p2;simp(disch:=omega)[DV,Da.cs,Ow,o,-aab,-aaP];refine kY p1 ir ?_;simp[ak];refine kY p2 ir ?_;simp[ak,a,m]
 refine aM 6 (λi=>[(2,.ptr 1 0),(3,.ptr 2 0),(5,.fn 159 [.ptr 2 0,.ptr 3 0]),(24,.agg (av .u64 d.args)),(25,.int .i64 i)])
  (λi=>H4 d.cs (Ap d i) (4+2*i)) (λ_=>True) ?_ ?_
 .simp[aw,ak,H4,Da.cs,zGn d a]
 intro i hi _
 by_cases b:i<6
 .have p3:=YX (G:=G) d.cs (Ap d i) (4+2*i) d.args[i] (ztJ a hi) an (h _ (aag _));rw[zzS a b] at p3;have n:=r_ .u64 d.args i an;simp[H4,Da.cs,-aab,-aaP] at p3;simp(disch:=omega)[bC,az,a,n,H4,Da.cs,-aab,-aaP];refine kY p3 ir ?_;simp(disch:=omega)[ak,bD,b,aw,show 4+2*(i+1)=4+2*i+2 from an,-aab,-aaP]
 .have p:i=6:=an
  subst p;have c:=Ao a;have q:=eM (k:=.u32) c;simp[H4,zGo d a,c,q]
def pG(d:Da)(a:Nat):Nat×Bool:=if a%4=0/\a<64 then((iV d).getD (a/4) 0,true) else(0,false)
def zv4[bV G](n:Nat)(d:n<4294967296):FP G 158 [.int .u32 n] (.bool (decide (n%4=0/\n<64))):=by
 refine bt bV.ael (aad rfl) ?_;have a:fU (n:Int) 4=((n%4:Nat):Int):=vH (b:=4)
 by_cases h:n%4=0
 .have c:((n:Int)<64)=(n<64):=propext an;simp[a,h,c]
 .have:((n%4:Nat):Int)≠0:=an
  simp[a,h,aF this,-aau]
def zys[bV G](d:Da)(n:Nat)(hd:d.ok)(a:n<4294967296):FP G 161 [DV d,.int .u32 n] (.a_ [.int .u32 ((pG d n).1:Nat),.bool (pG d n).2]):=by
 refine bt bV.aeo (aad rfl) ?_;have e:=zv3 (G:=G) d hd;have g:=eM (k:=.u64) hd.2.2.2.1;have f:=hd.2.2.2.1;simp[DV,Da.cs] at e |-;refine au (zv4 n a) ?_
 by_cases h:n%4=0/\n<64
 .have i:ku .u32 (n:Int) 4=((n/4:Nat):Int):=Wq (b:=4) a ag7;have j:=Ao f;have c:=r_ .u32 (iV d) (n/4) an
  have l:(iV d).getD (n/4) 0=(iV d)[n/4]'(by omega):=by simp[aas,aae (show n/4<(iV d).length by omega)]
  simp[h,f,g,pG];refine au e ?_;simp(disch:=omega)[i,bC,az,j,c,-abj]
 .simp[h,pG]
variable {H:ae} {b z m:Nat} {L:List Nd}
def YY(l:List Int)(i:Int):Int:=if 0<=i/\i<l.length then l[i.toNat]?.getD 0 else -1
structure MS where
 L:List Nd
 ids:List Int
 made:List Md
def zv5{kind:Int}{a c:Nd}(h:Inv L)(i:a.wf)(j:c.wf):Ext L (lG L kind a c).2.2 1:=by
 cases b:gG a with
 | none=>simp only[lG,b,lE];exact .refl h 1
 | some p =>
  cases d:gG c with
  | none=>simp only[lG,b,d,lE];exact .refl h 1
  | some q =>
   cases e:zG kind p q with
   | none=>simp only[lG,b,d,e,lE];exact .refl h 1
   | some r =>
    simp only[lG,b,d,e,mN];obtain⟨_,f,g,_⟩:=R6 e;exact(zvB h f g).1
def YZ{kind:Int}{x y n:Nat}(a:(cA kind 0 1).2=true)(b:x<n)(c:y<n):(Aj kind x y).cM n :=
 ⟨⟨rfl,rfl,rfl⟩,⟨xD 35,λh=>by cases h⟩,.inr (.inr ⟨rfl,b,c,a⟩)⟩
def Y1{kind x y:Int}(h:Inv L):Ext L (iD L kind x y).2 2:=by
 rw[iD];split
 case isFalse=>exact .refl h 2
 rename_i d;obtain⟨d,j,k⟩:=d
 obtain⟨l,q⟩:0<=x/\x<L.length:=by simpa[cD] using j
 obtain⟨m,r⟩:0<=y/\y<L.length:=by simpa[cD] using k
 obtain⟨n,rfl⟩:=aa4 l;obtain⟨o,rfl⟩:=aa4 m;obtain⟨a,g⟩:∃a,L[n]?=some a:=⟨_,kW an⟩;obtain⟨c,i⟩:∃c,L[o]?=some c:=⟨_,kW an⟩;have e:=h.cM _ _ g;have f:=h.cM _ _ i;simp only[abw,g,i,sM];have b:=XB (kind:=kind) h e.1 f.1 e.2.1 f.2.1;have p:=zv5 (kind:=kind) b.inv e.2.1 f.2.1;have s:=b.pre.length_le;split
 .exact b.mono an
 .split
  .exact b.trans p
  .split
   .exact b.mono an
   .split
    .exact b.mono an
    .split
     .exact b.trans (wK b.inv (YZ d an an)).1
     .exact b.trans (wK b.inv (YZ d an an)).1
def K_{i:Int}(h:Inv L):Ext L (lS L i).2 1:=by
 rw[lS];split
 .exact(wK h (zH (R7 _) (Xx _) _)).1
 .exact .refl h 1
def Y2{x:Int}(h:Inv L):Ext L (oH L x).2 3:=by
 rw[oH];split
 .exact(Sc h).trans (Y1 (Sc h).inv)
 .exact .refl h 3
def kI(x:af):Bool :=
 if x.op=32 then decide (x.k%4=0/\x.k<64) else if x.op=52 then decide (x.k≠0) else if x.op=2\/x.op=3\/x.op=96\/x.op=97 then decide (x.k<16) else if x.op=100\/x.op=116 then decide (x.k<32) else true
def b_(x:af)(left:Nat):Bool:=jv x&&kI x&&(if x.op=5 then decide (x.k<left) else true)&&(if aX x.op then decide (x.jt<left/\x.jf<left) else true)
def j0:List af->Bool
 | []=>true
 | x::f=>b_ x f.length&&j0 f
def kJ(f:List af):Bool:=match f.getLast? with|some x=>gu x.op|none=>false
def dE(f:List af):Bool:=decide (f.length<=4096)&&j0 f&&kJ f
def zO:List (V×V):=[(.int .i64 32,.fn 152 [.ptr 0 0]),(.int .i64 52,.fn 153 [.ptr 0 0]),(.int .i64 2,.fn 150 [.ptr 0 0]),(.int .i64 3,.fn 150 [.ptr 0 0]),(.int .i64 96,.fn 150 [.ptr 0 0]),(.int .i64 97,.fn 150 [.ptr 0 0]),
 (.int .i64 100,.fn 151 [.ptr 0 0]),(.int .i64 116,.fn 151 [.ptr 0 0])]
def zDM[aB G]:bE G (.F 154 [] [] (.mp 1) [some (.cells [.fn 149 []]),some (.map zO)]):=by refine fh aB.aeh (aad rfl) ?_;simp[zO]
def Ox[aB G](H:ae)(b:Bool)(n:Int):bE G (.F 149 [.bool b,.int .i64 n] H (.int .i64 (if b then 0 else n)) H):=by
 refine fh aB.aec (aad rfl) ?_
 cases b<;>simp
def RH(x:af):ae:=[some (.cells [.fn 149 []]),some (.map zO),some (.cells x.cs)]
def qA(n:Nat)(h:0<n):zO.map (λp=>(p.1.cl n,p.2.cl n))=zO:=by simp[zO,h]
def Oy{f:Nat}[aB G](x:af)(e:Int)(h:f=150/\e=(if decide (x.k<16) then 0 else 7)\/f=151/\e=(if decide (x.k<32) then 0 else 1)\/f=152/\e=(if decide (x.k%4=0/\x.k<64) then 0 else 6)\/f=153/\e=(if decide (x.k≠0) then 0 else 8)) :
  bE G (.F f [IV x,.ptr 0 0] (RH x) (.int .i64 e) (RH x++[some (.cells x.cs)])):=by
 have g:fU (x.k:Int) 4=((x.k%4:Nat):Int):=vH (b:=4);have a:((x.k:Int)<16)=(x.k<16):=propext an;have c:((x.k:Int)<32)=(x.k<32):=propext an;have d:((x.k:Int)<64)=(x.k<64):=propext an
 have j:((x.k:Int) !=0)=decide (x.k≠0):=by rw[aaq];simp
 rcases h with⟨rfl,rfl⟩|⟨rfl,rfl⟩|⟨rfl,rfl⟩|⟨rfl,rfl⟩
 .refine fh aB.aed (aad rfl) ?_;simp[IV,af.cs,RH,a];refine kY (Ox _ _ _) ir ?_;simp[ak,qA]
 .refine fh aB.aee (aad rfl) ?_;simp[IV,af.cs,RH,c];refine kY (Ox _ _ _) ir ?_;simp[ak,qA]
 .refine fh aB.aef (aad rfl) ?_
  by_cases i:x.k%4=0
  .simp[IV,af.cs,RH,g,i,d];refine kY (Ox _ _ _) ir ?_;simp[ak,qA]
  .have:((x.k%4:Nat):Int)≠0:=an
   simp[IV,af.cs,RH,g,i,aF this,-aau];refine kY (Ox _ _ _) ir ?_;simp[ak,qA]
 .refine fh aB.aeg (aad rfl) ?_;simp[IV,af.cs,RH,j];refine kY (Ox _ _ _) ir ?_;simp[ak,qA]
def ez(x:af)(a:Nat):List Int:=if gu x.op then [] else if x.op=5 then [((a+1+x.k:Nat):Int)] else if aX x.op then [(a:Int)+1+min x.jt x.jf,(a:Int)+1+max x.jt x.jf] else [((a+1:Nat):Int)]
def af.Et(x:af):Prop:=aX x.op=true->0<=x.jt/\x.jt<=255/\0<=x.jf/\x.jf<=255
def BC{x:af}(h:jv x=true):x.Et:=by
 intro b;unfold jv at h;split at h
 .rename_i r c
  have a:∀r∈o9,aX r.1=r.2.2.2:=by decide
  obtain⟨d,e⟩:=Gt c;have:=a r e;rw[d,b] at this;simp only[<-this,if_true,aaf,decide_eq_true_eq] at h;exact h.2
 .cases h
def Eu(n:Nat)(h:n<4294967296):eP .i64 (n:Int)=(n:Int):=by unfold eP;exact IntWalk.i64_in _ ⟨an,an⟩
def oK[aA G][aB G](x:af)(c:Nat)(j:x.k<4294967296)(l:x.Et)(v:c<=5000):FP G 155 [IV x,.int .i64 c] (.vs (ints .i64 (ez x c)) .no):=by
 refine bt aB.aei (aad rfl) ?_;have h:=On (G:=G) x;have i:=An (G:=G) x;have m:aD .i64 (c:Int) 1=((c+1:Nat):Int):=bD an;simp[IV,af.cs,m,-aab] at h i |-;refine au h ?_;cases d:gu x.op
 .have w:gu x.op=false:=d;simp
  by_cases e:x.op=5
  .have y:aD .i64 ((c+1:Nat):Int) (x.k:Int)=((c+1+x.k:Nat):Int):=rj an
   have f:aD .i64 ((c:Int)+1) (x.k:Int)=((c+1+x.k:Nat):Int):=by rw[<-rj (a:=c+1) (b:=x.k) an];rfl
   have n:gu 5=false:=by decide
   simp[e,n,Eu x.k j,f,ez,ints,-aab]
  .simp[e,aF];refine au i ?_;cases g:aX x.op
   .simp[ez,d,e,g,ints]
   .obtain⟨z,A,B,C⟩:=l g
    have o:(if x.jf<x.jt then x.jf else x.jt)=min x.jt x.jf:=an
    have p:(if x.jf>x.jt then x.jf else x.jt)=max x.jt x.jf:=an
    have D:aD .i64 ((c+1:Nat):Int) (min x.jt x.jf)=(c:Int)+1+min x.jt x.jf:=by rw[eG]<;>omega
    have E:aD .i64 ((c+1:Nat):Int) (max x.jt x.jf)=(c:Int)+1+max x.jt x.jf:=by rw[eG]<;>omega
    have q:(if x.jt<x.jf then x.jf else x.jt)=max x.jt x.jf:=an
    have r:(if x.jt>x.jf then x.jf else x.jt)=min x.jt x.jf:=an
    have s:(if x.jt<=x.jf then x.jt else x.jf)=min x.jt x.jf:=an
    have t:aD .i64 ((c:Int)+1) (min x.jt x.jf)=(c:Int)+1+min x.jt x.jf:=by rw[eG]<;>omega
    have u:aD .i64 ((c:Int)+1) (max x.jt x.jf)=(c:Int)+1+max x.jt x.jf:=by rw[eG]<;>omega
    simp[o,p,t,u,ez,d,e,g,ints,-aab]
 .simp[ez,d]
def xM(op:Int):Option (Nat×Nat) :=
 if op=32 then some (0,152) else if op=52 then some (1,153) else if op=2 then some (2,150) else if op=3 then some (3,150) else if op=96 then some (4,150) else if op=97 then some (5,150) else
 if op=100 then some (6,151) else if op=116 then some (7,151) else none
def zzT(op:Int):j_ (.sc .int) (.int .i64 op) zO 0=some ((xM op).map λp=>(p.1,.fn p.2 [.ptr 0 0])):=by
 unfold xM zO
 by_cases a:op=32;· subst a;rfl
 by_cases b:op=52;· subst b;rfl
 by_cases c:op=2;· subst c;rfl
 by_cases d:op=3;· subst d;rfl
 by_cases e:op=96;· subst e;rfl
 by_cases f:op=97;· subst f;rfl
 by_cases g:op=100;· subst g;rfl
 by_cases h:op=116;· subst h;rfl
 simp[j_,j9,qI,a,b,c,d,e,f,g,h,aF]
def zGp[aB G](x:af){i f:Nat}(h:xM x.op=some (i,f)):∃e:Int,bE G (.F f [IV x,.ptr 0 0] (RH x) (.int .i64 e) (RH x++[some (.cells x.cs)]))/\(e=0↔kI x=true):=by
 unfold xM at h
 have r4 (a:Bool) (n:Int) (j:n≠0):((if a=true then 0 else n)=0↔a=true):=by cases a<;>simp[j]
 unfold kI;split at h
 .rename_i b;cases h;exact⟨_,Oy x _ (.inr (.inr (.inl ⟨rfl,rfl⟩))),by rw[r4 _ _ ag7,if_pos b]⟩
 split at h
 .rename_i d b;cases h;exact⟨_,Oy x _ (.inr (.inr (.inr ⟨rfl,rfl⟩))),by rw[r4 _ _ ag7,if_neg d,if_pos b]⟩
 have two:¬x.op=32->¬x.op=52->x.op=2\/x.op=3\/x.op=96\/x.op=97->some (i,f)=some (i,150)->∃e:Int,bE G (.F f [IV x,.ptr 0 0] (RH x) (.int .i64 e) (RH x++[some (.cells x.cs)])) /\
   (e=0↔(if x.op=32 then decide (x.k%4=0/\x.k<64) else if x.op=52 then decide (x.k≠0) else if x.op=2\/x.op=3\/x.op=96\/x.op=97 then decide (x.k<16) else if x.op=100\/x.op=116 then decide (x.k<32) else true)=true):=by
  intro d b l m;cases m;exact⟨_,Oy x _ (.inl ⟨rfl,rfl⟩),by rw[r4 _ _ ag7,if_neg d,if_neg b,if_pos l]⟩
 rename_i n1 c;split at h
 .rename_i b;cases h;exact two n1 c (.inl b) rfl
 split at h
 .rename_i b;cases h;exact two n1 c (.inr (.inl b)) rfl
 split at h
 .rename_i b;cases h;exact two n1 c (.inr (.inr (.inl b))) rfl
 split at h
 .rename_i b;cases h;exact two n1 c (.inr (.inr (.inr b))) rfl
 rename_i o p q r
 have g:¬(x.op=2\/x.op=3\/x.op=96\/x.op=97):=an
 split at h
 .rename_i b;cases h;exact⟨_,Oy x _ (.inr (.inl ⟨rfl,rfl⟩)),by rw[r4 _ _ ag7,if_neg n1,if_neg c,if_neg g,if_pos (.inl b)]⟩
 split at h
 .rename_i b;cases h;exact⟨_,Oy x _ (.inr (.inl ⟨rfl,rfl⟩)),by rw[r4 _ _ ag7,if_neg n1,if_neg c,if_neg g,if_pos (.inr b)]⟩
 cases h
def zBo{x:af}(h:xM x.op=none):kI x=true:=by
 unfold xM at h;unfold kI
 repeat' split at h
 all_goals first|(cases h;done)|skip
 rw[if_neg an,if_neg an,if_neg an,if_neg an]
def zrv{f:List af}{i:Nat}(h:i<f.length):j0 (f.drop i)=(b_ f[i] (f.length-1-i)&&j0 (f.drop (i+1))):=by
 rw[aaA h];simp only[j0,aay]
 congr 2;omega
def rG{f:List af}{i:Nat}(h:i<f.length):(IL f)[i]?=some f[i].cs:=by simp[aae h]
def Y3(f:List af)(v:V):Prop:=∃i e:Int,v=.a_ [.int .i64 i,.int .i64 e]/\(e=0↔dE f=true)
def zv6{f:List af}(a:f≠[])(b:f.length<=4096)(c:j0 f=true)(d:gu (f[f.length-1]'(by have:=aav.2 a;omega)).op=true):dE f=true:=by
 have:f.getLast?=some (f[f.length-1]'(by have:=aav.2 a;omega)):=by rw[abm];exact aae _
 simp[dE,kJ,b,c,this,d]
def zpU{f:List af}(a:f≠[])(b:gu (f[f.length-1]'(by have:=aav.2 a;omega)).op=false):dE f=false:=by
 have:f.getLast?=some (f[f.length-1]'(by have:=aav.2 a;omega)):=by rw[abm];exact aae _
 simp[dE,kJ,this,b]
def zrw{f:List af}(h:j0 f=false):dE f=false:=by simp[dE,h]
def H2:ae:=[some (.cells [.fn 149 []]),some (.map zO)]
def Gv{x:af}{i n:Nat}(h:i<n)(e:(x.op==5||aX x.op)=true) :
  (∀w∈ez x i,w<(n:Int))↔((if x.op=5 then decide (x.k<n-1-i) else true)&&(if aX x.op then decide (x.jt<(n-1-i:Nat)/\x.jf<(n-1-i:Nat)) else true))=true:=by
 by_cases a:x.op=5
 .have d:gu x.op=false:=by rw[a];decide
  have f:aX x.op=false:=by rw[a];decide
  rw[if_pos a,f];rw[a] at d;simp only[ez,d,a,aat,if_false,if_true,aap,forall_eq,abz,decide_eq_true_eq];omega
 .have b:aX x.op=true:=by simpa[a,aF] using e
  have g:gu x.op=false:=by
   have c:∀p∈[21,37,53,69,29,45,61,(77:Int)],gu p=false:=by decide
   exact c _ (by simpa[aX] using b)
  rw[if_neg a,if_pos b];simp only[ez,g,a,b,aat,if_false,if_true,aai,aaJ,or_false,forall_eq_or_imp,forall_eq,aaB,decide_eq_true_eq];omega
def SN{x:af}(a:(x.op==5||aX x.op)=false)(left:Nat):((if x.op=5 then decide (x.k<left) else true)&&(if aX x.op then decide (x.jt<left/\x.jf<left) else true))=true:=by simp only[Bool.or_eq_false_iff,beq_eq_false_iff_ne] at a;simp[a.1,a.2]
def Gw{x:af}{left:Nat}(a:jv x=true)(b:kI x=true):b_ x left=((if x.op=5 then decide (x.k<left) else true)&&(if aX x.op then decide (x.jt<left/\x.jf<left) else true)):=by simp[b_,a,b]
def SO(x:af)(i:Nat):(ez x i).length<=2:=by unfold ez;split;simp;split;simp;split<;>simp
def zDN[aA G][aB G](f:List af)(hf:f.length<=maxLen)(hk:∀x∈f,x.k<4294967296):∃v,FP G 156 [FL f] v/\Y3 f v:=by
 refine FX aB.aej (aad rfl) ?_
 by_cases O:f=[]
 .subst O;simp[FL];exact⟨0,5,rfl,ag7⟩
 have ay:0<f.length:=aav.2 O;have hz:((f.length:Int)=0)=False:=ag6
 by_cases IQ:f.length>4096
 .have z:((4096:Int)<(f.length:Int))=True:=ag5
  have:dE f=false:=by simp[dE,show¬f.length<=4096 by omega]
  simp[FL,O,z,kA];exact⟨0,3,rfl,by simp[this]⟩
 have z:((4096:Int)<(f.length:Int))=False:=ag6;simp[FL,O,z,kA];refine u5 zDM ir ?_;simp;refine aM f.length (λi=>[(0,FL f),(4,.mp 1),(22,FL f),(23,.int .i64 f.length),(24,.int .i64 i)]) (λ_=>H2) (λi=>j0 (f.take 0)=true/\j0 f=j0 (f.drop i)) ?_ ?_
 .simp[aw,ak,H2,qA,FL,j0]
 intro i hi P
 by_cases q:i<f.length
 .have Q:=rG q;have X:f[i]∈f:=aag q;have R:=hk _ X;have F:=zrv q
  have r:b_ f[i] (f.length-1-i)=false->∀j e:Int,e≠0->Y3 f (.a_ [.int .i64 j,.int .i64 e]):=by intro h j e H;rw[h] at F;exact⟨j,e,rfl,by simp[H,zrw (P.2.trans F)]⟩
  generalize f[i]=x at Q R F X r;have Y:=K7 (G:=G) x;have U:=An (G:=G) x;simp[IV,af.cs] at Y U;simp(disch:=omega)[H2,bC,FL,Q,af.cs,-aab];refine au Y ?_;cases y:jv x
  .simp;exact r (by simp[b_,y]) _ _ ag7
  simp[zzT]
  cases S:xM x.op with
  | none =>
   have D:=zBo S
   by_cases E:x.op=5
   .have I:(x.op==5||aX x.op)=true:=by simp[E]
    have V:(x.op==5)=true:=by simp[E]
    simp[V];have s:=oK (G:=G) x i R (BC y) an;simp[IV,af.cs] at s;have b:=bb (x.op==5||aX x.op);obtain⟨a,b⟩:=b;have J:=SO x i
    have d:(a=true->∀w∈ez x i,w<(f.length:Int))->j0 f=j0 (f.drop (i+1)):=by
     intro K;rw[P.2,F,Gw y D]
     cases a with
     | false=>rw[SN b.symm];simp
     | true=>rw[(Gv q b.symm).1 (K rfl)];simp
    have A:a=true->∀w∈ez x i,¬w<(f.length:Int)->b_ x (f.length-1-i)=false:=by intro m w c L;rw[Gw y D];rw[m] at b;rw[<-aaD];intro h;exact L ((Gv q b.symm).2 h w c)
    have g:∀(w:List Int),w.length<=2->(∀v∈w,v∈ez x i)->True:=λ_ _ _=>trivial;generalize ez x i=w at s J d A g;refine au s ?_;simp
    refine aM w.length (λj=>[(0,FL f),(4,.mp 1),(5,.int .i64 i),(9,.bool a),(22,FL f),(23,.int .i64 f.length),(24,.int .i64 i),(55,.vs (ints .i64 w) .no),(56,.int .i64 w.length),(57,.int .i64 j)])
     (λ_=>[some (.cells [.fn 149 []]),some (.map zO),some (.cells [.int .i64 x.op,.int .i64 x.jt,.int .i64 x.jf,.int .u32 (x.k:Int)])]) (λj=>a=true->∀v∈w.take j,v<(f.length:Int)) ?_ ?_
    .simp[aw,ak,FL,qA,b.trans I]
    intro j W t
    by_cases o:j<w.length
    .by_cases l:a=true/\¬w[j]<(f.length:Int)
     .have z:=A l.1 _ (aag o) l.2;have u:((f.length:Int)<=w[j])=True:=ag5;simp(disch:=omega)[bC,l.1,u,FL,-aab];exact r z i 4 ag7
     .have B:a=true->∀v∈w.take (j+1),v<(f.length:Int):=by
       intro m v c;rw[aaw,aae o] at c;simp only[abA,aar,aap] at c
       rcases c with c|rfl
       .exact t m v c
       .exact ab9.1 λh=>l ⟨m,an⟩
      cases C:a with
      | false =>
       simp(disch:=omega)[bC,o,FL,aw,ak,qA,bD,-aab]
      | true =>
       have u:((f.length:Int)<=w[j])=False:=eq_false λh=>l ⟨C,an⟩;simp(disch:=omega)[bC,o,FL,u,aw,ak,qA,bD,-aab];rw[C] at B;exact B rfl
    .have M:j=w.length:=an
     subst M;rw[aaL] at t;have N:=d t;simp(disch:=omega)[q,aw,ak,qA,FL,bD,N,j0,-aab]
   .have I:(x.op==5||aX x.op)=aX x.op:=by simp[E]
    simp[aF,E];refine au U ?_;simp;have s:=oK (G:=G) x i R (BC y) an;simp[IV,af.cs] at s;have b:=bb (x.op==5||aX x.op);obtain⟨a,b⟩:=b;have J:=SO x i
    have d:(a=true->∀w∈ez x i,w<(f.length:Int))->j0 f=j0 (f.drop (i+1)):=by
     intro K;rw[P.2,F,Gw y D]
     cases a with
     | false=>rw[SN b.symm];simp
     | true=>rw[(Gv q b.symm).1 (K rfl)];simp
    have A:a=true->∀w∈ez x i,¬w<(f.length:Int)->b_ x (f.length-1-i)=false:=by intro m w c L;rw[Gw y D];rw[m] at b;rw[<-aaD];intro h;exact L ((Gv q b.symm).2 h w c)
    have g:∀(w:List Int),w.length<=2->(∀v∈w,v∈ez x i)->True:=λ_ _ _=>trivial;generalize ez x i=w at s J d A g;refine au s ?_;simp
    refine aM w.length (λj=>[(0,FL f),(4,.mp 1),(5,.int .i64 i),(9,.bool a),(22,FL f),(23,.int .i64 f.length),(24,.int .i64 i),(55,.vs (ints .i64 w) .no),(56,.int .i64 w.length),(57,.int .i64 j)])
     (λ_=>[some (.cells [.fn 149 []]),some (.map zO),some (.cells [.int .i64 x.op,.int .i64 x.jt,.int .i64 x.jf,.int .u32 (x.k:Int)])]) (λj=>a=true->∀v∈w.take j,v<(f.length:Int)) ?_ ?_
    .simp[aw,ak,FL,qA,b.trans I]
    intro j W t
    by_cases o:j<w.length
    .by_cases l:a=true/\¬w[j]<(f.length:Int)
     .have z:=A l.1 _ (aag o) l.2;have u:((f.length:Int)<=w[j])=True:=ag5;simp(disch:=omega)[bC,l.1,u,FL,-aab];exact r z i 4 ag7
     .have B:a=true->∀v∈w.take (j+1),v<(f.length:Int):=by
       intro m v c;rw[aaw,aae o] at c;simp only[abA,aar,aap] at c
       rcases c with c|rfl
       .exact t m v c
       .exact ab9.1 λh=>l ⟨m,an⟩
      cases C:a with
      | false =>
       simp(disch:=omega)[bC,o,FL,aw,ak,qA,bD,-aab]
      | true =>
       have u:((f.length:Int)<=w[j])=False:=eq_false λh=>l ⟨C,an⟩;simp(disch:=omega)[bC,o,FL,u,aw,ak,qA,bD,-aab];rw[C] at B;exact B rfl
    .have M:j=w.length:=an
     subst M;rw[aaL] at t;have N:=d t
     simp(disch:=omega)[q,aw,ak,qA,FL,bD,N,j0,-aab]
  | some p =>
   obtain⟨n,fn⟩:=p;obtain⟨e,H,Z⟩:=zGp (G:=G) x S;simp;simp[RH,af.cs,IV] at H;refine kY H ir ?_
   by_cases T:e=0
   .have D:=Z.1 T;subst T
    by_cases E:x.op=5
    .have I:(x.op==5||aX x.op)=true:=by simp[E]
     have V:(x.op==5)=true:=by simp[E]
     simp[V,ak,qA];have s:=oK (G:=G) x i R (BC y) an;simp[IV,af.cs] at s;have b:=bb (x.op==5||aX x.op);obtain⟨a,b⟩:=b;have J:=SO x i
     have d:(a=true->∀w∈ez x i,w<(f.length:Int))->j0 f=j0 (f.drop (i+1)):=by
      intro K;rw[P.2,F,Gw y D]
      cases a with
      | false=>rw[SN b.symm];simp
      | true=>rw[(Gv q b.symm).1 (K rfl)];simp
     have A:a=true->∀w∈ez x i,¬w<(f.length:Int)->b_ x (f.length-1-i)=false:=by intro m w c L;rw[Gw y D];rw[m] at b;rw[<-aaD];intro h;exact L ((Gv q b.symm).2 h w c)
     have g:∀(w:List Int),w.length<=2->(∀v∈w,v∈ez x i)->True:=λ_ _ _=>trivial;generalize ez x i=w at s J d A g;refine au s ?_;simp
     refine aM w.length (λj=>[(0,FL f),(4,.mp 1),(5,.int .i64 i),(9,.bool a),(22,FL f),(23,.int .i64 f.length),(24,.int .i64 i),(55,.vs (ints .i64 w) .no),(56,.int .i64 w.length),(57,.int .i64 j)])
      (λ_=>[some (.cells [.fn 149 []]),some (.map zO),some (.cells [.int .i64 x.op,.int .i64 x.jt,.int .i64 x.jf,.int .u32 (x.k:Int)])]) (λj=>a=true->∀v∈w.take j,v<(f.length:Int)) ?_ ?_
     .simp[aw,ak,FL,qA,b.trans I]
     intro j W t
     by_cases o:j<w.length
     .by_cases l:a=true/\¬w[j]<(f.length:Int)
      .have z:=A l.1 _ (aag o) l.2;have u:((f.length:Int)<=w[j])=True:=ag5;simp(disch:=omega)[bC,l.1,u,FL,-aab];exact r z i 4 ag7
      .have B:a=true->∀v∈w.take (j+1),v<(f.length:Int):=by
        intro m v c;rw[aaw,aae o] at c;simp only[abA,aar,aap] at c
        rcases c with c|rfl
        .exact t m v c
        .exact ab9.1 λh=>l ⟨m,an⟩
       cases C:a with
       | false =>
        simp(disch:=omega)[bC,o,FL,aw,ak,qA,bD,-aab]
       | true =>
        have u:((f.length:Int)<=w[j])=False:=eq_false λh=>l ⟨C,an⟩;simp(disch:=omega)[bC,o,FL,u,aw,ak,qA,bD,-aab];rw[C] at B;exact B rfl
     .have M:j=w.length:=an
      subst M;rw[aaL] at t;have N:=d t;simp(disch:=omega)[q,aw,ak,qA,FL,bD,N,j0,-aab]
    .have I:(x.op==5||aX x.op)=aX x.op:=by simp[E]
     simp[aF,E,ak,qA];refine au U ?_;simp;have s:=oK (G:=G) x i R (BC y) an;simp[IV,af.cs] at s;have b:=bb (x.op==5||aX x.op);obtain⟨a,b⟩:=b;have J:=SO x i
     have d:(a=true->∀w∈ez x i,w<(f.length:Int))->j0 f=j0 (f.drop (i+1)):=by
      intro K;rw[P.2,F,Gw y D]
      cases a with
      | false=>rw[SN b.symm];simp
      | true=>rw[(Gv q b.symm).1 (K rfl)];simp
     have A:a=true->∀w∈ez x i,¬w<(f.length:Int)->b_ x (f.length-1-i)=false:=by intro m w c L;rw[Gw y D];rw[m] at b;rw[<-aaD];intro h;exact L ((Gv q b.symm).2 h w c)
     have g:∀(w:List Int),w.length<=2->(∀v∈w,v∈ez x i)->True:=λ_ _ _=>trivial;generalize ez x i=w at s J d A g;refine au s ?_;simp
     refine aM w.length (λj=>[(0,FL f),(4,.mp 1),(5,.int .i64 i),(9,.bool a),(22,FL f),(23,.int .i64 f.length),(24,.int .i64 i),(55,.vs (ints .i64 w) .no),(56,.int .i64 w.length),(57,.int .i64 j)])
      (λ_=>[some (.cells [.fn 149 []]),some (.map zO),some (.cells [.int .i64 x.op,.int .i64 x.jt,.int .i64 x.jf,.int .u32 (x.k:Int)])]) (λj=>a=true->∀v∈w.take j,v<(f.length:Int)) ?_ ?_
     .simp[aw,ak,FL,qA,b.trans I]
     intro j W t
     by_cases o:j<w.length
     .by_cases l:a=true/\¬w[j]<(f.length:Int)
      .have z:=A l.1 _ (aag o) l.2;have u:((f.length:Int)<=w[j])=True:=ag5;simp(disch:=omega)[bC,l.1,u,FL,-aab];exact r z i 4 ag7
      .have B:a=true->∀v∈w.take (j+1),v<(f.length:Int):=by
        intro m v c;rw[aaw,aae o] at c;simp only[abA,aar,aap] at c
        rcases c with c|rfl
        .exact t m v c
        .exact ab9.1 λh=>l ⟨m,an⟩
       cases C:a with
       | false =>
        simp(disch:=omega)[bC,o,FL,aw,ak,qA,bD,-aab]
       | true =>
        have u:((f.length:Int)<=w[j])=False:=eq_false λh=>l ⟨C,an⟩;simp(disch:=omega)[bC,o,FL,u,aw,ak,qA,bD,-aab];rw[C] at B;exact B rfl
     .have M:j=w.length:=an
      subst M;rw[aaL] at t;have N:=d t;simp(disch:=omega)[q,aw,ak,qA,FL,bD,N,j0,-aab]
   .have Y4:kI x=false:=by rw[<-aaD];exact λh=>T (Z.2 h)
    simp[ke,T,ak,qA];exact r (by simp[b_,Y4]) _ _ T
 .have jh:i=f.length:=an
  subst jh
  have q:f.length-1<f.length:=an
  have Q:=rG q;have S:=P.2;rw[acx] at S;have oZ:=zv6 O an S;have tC:=zpU O;generalize f[f.length-1]=x at Q oZ tC;have H:=On (G:=G) x;simp[IV,af.cs] at H;have g9:bP .i64 (f.length:Int) 1=((f.length-1:Nat):Int):=Na (by have:maxLen<=9223372036854775807:=ag7;omega);simp[FL,g9,Q,af.cs];refine au H ?_;cases yl:gu x.op
  .simp;exact⟨_,5,rfl,by simp[tC yl]⟩
  .simp;exact⟨_,0,rfl,by simp[oZ yl]⟩
def Oz[aA G][aB G](f:List af)(a:f.length<=maxLen)(b:∀x∈f,x.k<4294967296):FP G 157 [FL f] (.bool (dE f)):=by
 refine bt aB.aek (aad rfl) ?_;obtain⟨v,c,i,e,rfl,d⟩:=zDN (G:=G) f a b;simp;refine au c ?_
 have:(e==0)=dE f:=by rw[aaq,beq_iff_eq];exact d
 simp[this]
def OA(n:Nat)(h:n<18446744073709551616):eP .u64 (n:Int)=(n:Int):=by unfold eP;exact IntWalk.u64_in _ ⟨an,an⟩
def zHV[ew G][tW G](x:af)(c n:Nat)(K:x.k<4294967296)(X:c<n)(Y:n<=maxLen):∃v,FP G 186 [IV x,.int .i64 c,.int .i64 n] v/\∃e:Int,v=.int .i64 e/\(e=0↔b_ x (n-1-c)=true):=by
 refine FX tW.aeL (aad rfl) ?_;have A:=zzQ (G:=G) x;have i:=YO (G:=G) x
 have Z:maxLen<=9223372036854775807:=by decide
 have s:bP .i64 (n:Int) 1=((n-1:Nat):Int):=Na an
 have q:bP .i64 ((n-1:Nat):Int) (c:Int)=((n-1-c:Nat):Int):=by rw[nQ]<;>omega
 have Q:n-1-c<9223372036854775808:=an
 generalize n-1-c=left at q Q;obtain⟨a,d,f,k⟩:=x;have K:k<4294967296:=K;have B:fU (k:Int) 4=((k%4:Nat):Int):=vH (b:=4);have C:(((k%4:Nat):Int)=0)=(k%4=0):=propext an;have D:(60<(k:Int))=(60<k):=propext an;have L:(15<(k:Int))=(15<k):=propext an;have M:(31<(k:Int))=(31<k):=propext an;have N:eP .u64 (k:Int)=(k:Int):=OA k an;have O:eP .u64 (left:Int)=(left:Int):=OA left an
 have t:((left:Int)<=(k:Int))=(left<=k):=propext an;simp[IV,af.cs] at A i |-;refine au A ?_;cases r:jv ⟨a,d,f,k⟩
 .simp[b_,r]
 clear A;simp
 by_cases E:a=32
 .subst E
  have g:aX 32=false:=by decide
  rw[g] at i
  by_cases m:k%4=0
  .by_cases j:60<k
   .simp[B,C,m,D,j,kA,-aau,b_,kI];intro _ h;omega
   .have:k<64:=an
    simp[B,C,m,D,j,kA,s,q,-aau];refine au i ?_;simp[b_,kI,r,m,this,g]
  .have F:(((k%4:Nat):Int) !=0)=true:=by simp[-aau,C,m]
   simp[B,F,m,D,kA,-aau,b_,kI]
 by_cases H:a=52
 .subst H
  have g:aX 52=false:=by decide
  rw[g] at i
  by_cases m:k=0
  .simp[m,kA,b_,kI]
  .have:((k:Int)=0)=False:=ag6;simp[this,m,kA,s,q];refine au i ?_;simp[b_,kI,r,m,g]
 by_cases u:a=2\/a=3\/a=96\/a=97
 .have g:aX a=false:=by rcases u with rfl|rfl|rfl|rfl<;>decide
  have l:kI ⟨a,d,f,k⟩=decide (k<16):=by rcases u with rfl|rfl|rfl|rfl<;>rfl
  have I:¬a=5:=an
  rw[g] at i
  by_cases j:15<k
  .have:b_ ⟨a,d,f,k⟩ left=false:=by simp[b_,l];intro _ h;omega
   rcases u with rfl|rfl|rfl|rfl<;>simp[L,j,kA,this]
  .have:b_ ⟨a,d,f,k⟩ left=true:=by simp[b_,l,r,g,I];omega
   rcases u with rfl|rfl|rfl|rfl<;>simp[L,j,kA,s,q]<;>refine au i ?_<;>simp[this]
 by_cases w:a=100\/a=116
 .have g:aX a=false:=by rcases w with rfl|rfl<;>decide
  have l:kI ⟨a,d,f,k⟩=decide (k<32):=by rcases w with rfl|rfl<;>rfl
  have I:¬a=5:=an
  rw[g] at i
  by_cases j:31<k
  .have:b_ ⟨a,d,f,k⟩ left=false:=by simp[b_,l];intro _ h;omega
   rcases w with rfl|rfl<;>simp[M,j,kA,this]
  .have:b_ ⟨a,d,f,k⟩ left=true:=by simp[b_,l,r,g,I];omega
   rcases w with rfl|rfl<;>simp[M,j,kA,s,q]<;>refine au i ?_<;>simp[this]
 have l:kI ⟨a,d,f,k⟩=true:=by simp[kI,E,H,u,w]
 by_cases y:a=5
 .subst y
  have g:aX 5=false:=by decide
  rw[g] at i
  by_cases j:left<=k
  .have:b_ ⟨5,d,f,k⟩ left=false:=by simp[b_,l];intro _ h;omega
   simp[s,q,N,O,t,j,this]
  .have:b_ ⟨5,d,f,k⟩ left=true:=by simp[b_,l,r,g];omega
   simp[s,q,N,O,t,j];refine au i ?_;simp[this]
 have p:∀o:Int,a≠o->(a==o)=false:=λo h=>aF h;have R:=p 2 an;have S:=p 3 an;have T:=p 96 an;have U:=p 97 an;have V:=p 100 an;have W:=p 116 an;simp[p 32 E,p 52 H,p 5 y,R,S,T,U,V,W,s,q];refine au i ?_;cases z:aX a
 .simp[b_,r,l,z,y]
 .simp
  by_cases J:(left:Int)<=d
  .have:b_ ⟨a,d,f,k⟩ left=false:=by simp[b_,z];intros;omega
   simp[J,this]
  .by_cases P:(left:Int)<=f
   .have:b_ ⟨a,d,f,k⟩ left=false:=by simp[b_,z];intros;omega
    simp[J,P,this]
   .have:b_ ⟨a,d,f,k⟩ left=true:=by simp[b_,z,r,l,y];omega
    simp[J,P,this]
def zBp[ew G][qT G](f:List af)(t:f.length<=maxLen)(u:∀x∈f,x.k<4294967296):∃v,FP G 187 [FL f] v/\Y3 f v:=by
 refine FX qT.aeM (aad rfl) ?_
 by_cases b:f=[]
 .subst b;simp[FL];exact⟨0,5,rfl,ag7⟩
 have B:0<f.length:=aav.2 b
 by_cases C:f.length>4096
 .have m:((4096:Int)<(f.length:Int))=True:=ag5
  have:dE f=false:=by simp[dE,show¬f.length<=4096 by omega]
  simp[FL,b,m,kA];exact⟨0,3,rfl,by simp[this]⟩
 have m:((4096:Int)<(f.length:Int))=False:=ag6;simp[FL,b,m,kA];refine aM f.length (λi=>[(0,FL f),(4,.int .i64 i)]) (λ_=>[]) (λi=>j0 f=j0 (f.drop i)) ?_ ?_
 .simp[aw,ak,FL]
 intro i hi l
 by_cases a:i<f.length
 .have d:=rG a;have o:f[i]∈f:=aag a;have p:=u _ o;have g:=zrv a;obtain⟨v,n,e,rfl,c⟩:=zHV (G:=G) f[i] i f.length p a t;generalize f[i]=x at d p g o n c;simp[IV,af.cs] at n;simp(disch:=omega)[bC,FL,d,af.cs,a,-aab];refine au n ?_
  by_cases j:e=0
  .have:=c.1 j;rw[this,aaB] at g;have w:=l.trans g;simp(disch:=omega)[j,a,bD,aw,ak,FL,w,-aab]
  .have y:b_ x (f.length-1-i)=false:=by rw[<-aaD];exact λh=>j (c.2 h)
   rw[y] at g;simp[ke,j];exact⟨_,_,rfl,by simp[j,zrw (l.trans g)]⟩
 .have z:i=f.length:=an
  subst z
  have a:f.length-1<f.length:=an
  have d:=rG a;rw[acx] at l;have q:=zv6 b an l;have r:=zpU b;generalize f[f.length-1]=x at d q r;have c:=zDK (G:=G) x;simp[IV,af.cs] at c;have A:bP .i64 (f.length:Int) 1=((f.length-1:Nat):Int):=Na (by have:maxLen<=9223372036854775807:=ag7;omega);simp[FL,A,d,af.cs];refine au c ?_;cases s:gu x.op
  .simp;exact⟨_,5,rfl,by simp[r s]⟩
  .simp;exact⟨_,0,rfl,by simp[q s]⟩
def Y8[ew G][qT G](f:List af)(a:f.length<=maxLen)(b:∀x∈f,x.k<4294967296):FP G 188 [FL f] (.bool (dE f)):=by
 refine bt qT.aeN (aad rfl) ?_;obtain⟨v,c,i,e,rfl,d⟩:=zBp (G:=G) f a b;simp;refine au c ?_
 have:(e==0)=dE f:=by rw[aaq,beq_iff_eq];exact d
 simp[this]
def zP(x:af):Bool:=!(x.op==5)&&!aX x.op&&!gu x.op
def mO(x:af):Bool:=zP x&&jv x&&kI x
def aY(w:List af):Bool:=decide (w.length<=32)&&w.all mO
def vT:af:=⟨22,0,0,0⟩
def Y9{x:af}(h:zP x=true):x.op≠5/\aX x.op=false/\gu x.op=false:=by simp only[zP,aaf,acp,beq_eq_false_iff_ne] at h;exact⟨h.1.1,h.1.2,h.2⟩
def ztL{x:af}(h:zP x=true)(left:Nat):b_ x left=(jv x&&kI x):=by obtain⟨a,b,c⟩:=Y9 h;simp[b_,a,b]
def ztM:∀{w:List af} (z:af),(∀x∈w,zP x=true)->j0 (w++[z])=((w.all λx=>jv x&&kI x)&&b_ z 0)
 | [],z,_=>by simp[j0]
 | x::w,z,h=>by
  rw[abl,j0,ztM z λy a=>h y (by simp[a]),ztL (h x ir)];simp[Bool.and_assoc]
def zBq{w:List af}(h:∀x∈w,zP x=true)(f:w.length<=32):dE (w++[vT])=w.all mO:=by
 have c:kJ (w++[vT])=true:=by simp[kJ];decide
 have d:b_ vT 0=true:=by decide
 have e:(w++[vT]).length<=4096:=by simp;omega
 simp only[dE,ztM vT h,c,d,e,abz,decide_true,aaB];rw[aaq,aa2,aa2];constructor
 .intro b x a;simp only[mO,h x a,aaB];exact b x a
 .intro b x a;have:=b x a;simpa only[mO,h x a,aaB] using this
def BE[aA G][aB G][aO G](w:List af)(H:w.length<=maxLen)(u:∀x∈w,x.k<4294967296):FP G 202 [FL w] (.bool (aY w)):=by
 refine bt aO.aeW (aad rfl) ?_
 by_cases j:w.length>32
 .have l:((32:Int)<(w.length:Int))=True:=ag5;simp[FL,l,aY,show¬w.length<=32 by omega]
 have l:((32:Int)<(w.length:Int))=False:=ag6
 have c:w.length<=32:=an
 simp[FL,l];refine aM w.length (λi=>[(0,FL w),(8,FL w),(9,.int .i64 w.length),(10,.int .i64 i)]) (λ_=>[]) (λi=>∀x∈w.take i,zP x=true) ?_ ?_
 .simp[aw,ak,FL]
 intro i hi m
 by_cases f:i<w.length
 .obtain⟨x,d⟩:=bb (w[i]);have n:=rG f;rw[<-d] at n;have d:=d.symm;have v:x∈w:=d▸aag f;have q:=An (G:=G) x;have r:=On (G:=G) x;have o:x.cs=[.int .i64 x.op,.int .i64 x.jt,.int .i64 x.jf,.int .u32 (x.k:Int)]:=rfl;simp[IV,o] at q r
  have a:zP x=false->aY w=false:=by
   intro h
   have:w.all mO=false:=by rw[<-aaD,aa2];intro z;have:=z x v;simp only[mO,h,acL,aat] at this
   simp[aY,this]
  by_cases g:x.op=5
  .have p:(x.op==5)=true:=by simp[g]
   simp(disch:=omega)[bC,FL,n,o,p,a (by simp[zP,g])]
  have p:(x.op==5)=false:=aF g;simp(disch:=omega)[bC,FL,n,o,p];refine au q ?_;cases j:aX x.op
  .simp;refine au r ?_;cases s:gu x.op
   .have A:∀y∈w.take (i+1),zP y=true:=by
     intro y e;rw[aaw,aae f,d] at e;simp only[abA,aar,aap] at e
     rcases e with e|rfl
     .exact m y e
     .simp[zP,g,j,s]
    simp(disch:=omega)[f,bD,aw,ak,-aab];exact A
   .simp[a (by simp[zP,s])]
  .simp[a (by simp[zP,j])]
 .have B:i=w.length:=an
  subst B;rw[aaL] at m
  have b:=Oz (G:=G) (w++[vT]) (by rw[aal];have:maxLen=9223372036854775807:=ag7;simp;omega) (λx C=>by
   rcases aar.1 C with h|h
   .exact u x h
   .simp only[aap] at h;subst h;decide)
  rw[zBq m c] at b
  have D:w.all mO=aY w:=by simp[aY,c]
  rw[D] at b;have E:IL w++[[V.int .i64 22,.int .i64 0,.int .i64 0,.int .u32 0]]=IL (w++[vT]):=Om w vT;have F:[[V.int .i64 22,.int .i64 0,.int .i64 0,.int .u32 0]]=IL ([]++[vT]):=rfl;simp only[FL] at b
  by_cases t:w=[]
  .subst t;simp only[abE] at b;simp[FL];refine au b ?_;simp
  .simp(disch:=omega)[FL,SG,t,az,E];refine au b ?_;simp
@[simp] theorem zNQ (x:af):x.cs.take 4=x.cs:=rfl
theorem Za(f:List af)(n:Nat):(IL f).drop n=IL (f.drop n):=by simp[IL]
def Zb(f:List af)(n:Nat):(IL f).take n=IL (f.take n):=by simp[IL]
def BG(x y:af):cF [.int,.int,.int,.int] x.cs y.cs=some (decide (x=y)):=by obtain⟨a,b,c,d⟩:=x;obtain⟨e,f,c',d'⟩:=y;simp only[af.cs,cF,qI,if_true,abz,ab3.injEq,af.mk.injEq];rw[aaq];simp only[aaf,beq_iff_eq,decide_eq_true_eq];omega
def zBr[yh G](f g:List af)(r:f.length<=1000000):FP G 201 [FL f,FL g] (.bool (decide (f=g))):=by
 refine bt yh.aeR (aad rfl) ?_
 by_cases e:f.length=g.length
 .have j:((f.length:Int) !=(g.length:Int))=false:=by simp[e]
  simp[FL,j];refine aM f.length (λi=>[(0,FL f),(1,FL g),(5,.int .i64 i)]) (λ_=>[]) (λi=>f.take i=g.take i) ?_ ?_
  .simp[aw,ak,FL]
  intro i hi k
  by_cases l:i<f.length
  .obtain⟨x,a⟩:=bb (f[i])
   have p:i<g.length:=an
   obtain⟨y,b⟩:=bb (g[i]);have m:=rG l;have n:=rG p;rw[<-a] at m;rw[<-b] at n;have a:=a.symm;have b:=b.symm;have c:=BG x y
   by_cases d:x=y
   .rw[decide_eq_true d] at c
    have q:f.take (i+1)=g.take (i+1):=by rw[aaw,aaw,k,aae l,aae p,a,b,d]
    simp(disch:=omega)[bC,FL,m,n,c,l,bD,aw,ak,q,-aab]
   .rw[decide_eq_false d] at c
    have o:¬f=g:=by rintro rfl;exact d (a.symm.trans b)
    simp(disch:=omega)[bC,FL,m,n,c,o,-aab]
  .have o:i=f.length:=an
   subst o;rw[aaL,e,aaL] at k;simp[FL,k]
 .have j:((f.length:Int) !=(g.length:Int))=true:=by simp;omega
  have:¬f=g:=λh=>e (by rw[h]);simp[FL,j,this]
def yS(s:St)(k:Nat):Nat:=if k<16 then s.m.getD k 0 else 0
def va(s:St)(k v:Nat):St:=if k<16 then{ s with m:=s.m.set k v } else s
def iE(s:St)(x:af)(d:Da):St :=
 if x.op=0 then{ s with a:=x.k } else if x.op=1 then{ s with x:=x.k } else if x.op=32 then{ s with a:=(pG d x.k).1 }
 else if x.op=96 then{ s with a:=yS s x.k } else if x.op=97 then{ s with x:=yS s x.k } else if x.op=2 then va s x.k s.a else if x.op=3 then va s x.k s.x
 else if x.op=7 then{ s with x:=s.a } else if x.op=135 then{ s with a:=s.x } else if x.op=132 then{ s with a:=oB s.a } else s
def jo(s:St)(x:af):Nat:=if(bg x.op).2.1 then s.x else x.k
def kg(s:St)(x:af):Nat×Bool:=cA (bg x.op).1 s.a (jo s x)
def ef(s:St)(x:af)(d:Da):St×Bool :=
 if(bg x.op).2.2 then(if(kg s x).2 then{ s with a:=(kg s x).1 } else s,(kg s x).2) else(iE s x d,true)
def zDO[du G](s:St)(k:Nat)(a:s.ok)(g:k<4294967296):FP G 162 [SV s,.int .u32 k] (.int .u32 (yS s k:Nat)):=by
 refine bt du.aep (aad rfl) ?_;have b:=a.2.2.1
 by_cases h:16<=k
 .have:(16:Int)<=(k:Int):=an
  simp[SV,St.cs,this,yS,show¬k<16 from an]
 .have d:k<16:=an
  have c:=r_ .u32 s.m k an
  have i:s.m.getD k 0=s.m[k]'(by omega):=by simp[aas,aae (show k<s.m.length by omega)]
  have e:((16:Int)<=(k:Int))=False:=DR an;have f:((k:Int)<16)=True:=bC an;have j:(2+k+1<=16+1+1)=True:=az an;simp[SV,St.cs,e,f,b,Ot,c,yS,d,show 2+k<=17 from an]
def ztN[du G](s:St)(k v:Nat)(d:s.ok)(i:k<4294967296):FP G 163 [SV s,.int .u32 k,.int .u32 v] (SV (va s k v)):=by
 refine bt du.aeq (aad rfl) ?_;have a:=d.2.2.1;have e:=eM (k:=.u32) a
 by_cases b:k<16
 .have c:=wJ .u32 s.m k v an;have f:((k:Int)<16)=True:=bC an;have g:(av .u32 (s.m.set k v)).take 16=av .u32 (s.m.set k v):=eM (by simp[a]);simp[SV,St.cs,f,a,Ot,SL,c,va,b,g,show 2+k<=17 from an]
 .have h:((k:Int)<16)=False:=kQ an;simp[SV,St.cs,h,va,b,a,e]
def zHW[dK G](a:Nat)(b:a<4294967296):FP G 138 [.int .u32 a] (.int .u32 (oB a:Nat)):=by
 refine bt dK.ad5 (aad rfl) ?_
 have:AE .u32 (a:Int)=((oB a:Nat):Int):=by unfold AE oB;rw[F4];omega
 simp[this]
def zrx{s:St}(a:s.ok){k v:Nat}(b:v<4294967296):(va s k v).ok:=by
 unfold va;split
 .refine⟨a.1,a.2.1,by simp[a.2.2.1],λw c=>?_⟩
  rcases abR c with h|h
  .exact a.2.2.2 w h
  .rw[h];exact b
 .exact a
def zDP{s:St}(a:s.ok)(k:Nat):yS s k<4294967296:=by
 unfold yS;split
 .rename_i h;rw[aas,aae (show k<s.m.length by rw[a.2.2.1];exact h),acz];exact a.2.2.2 _ (aag _)
 .decide
def zv7{d:Da}(hd:d.ok)(k:Nat):(pG d k).1<4294967296:=by
 unfold pG;split
 .rename_i h;have a:=Ao hd.2.2.2.1;simp only[aas,aae (show k/4<(iV d).length by omega),acz];exact YV hd _ (aag _)
 .decide
def Zc{s:St}(a:s.ok){x:af}(b:x.k<4294967296):jo s x<4294967296:=by
 unfold jo;split
 .exact a.2.1
 .exact b
def zDQ{s:St}(i:s.ok){x:af}(g:x.k<4294967296){d:Da}(hd:d.ok):(iE s x d).ok:=by
 obtain⟨f,e,b,c⟩:=i;have j:oB s.a<4294967296:=abD _ ag7;have h:=zDP ⟨f,e,b,c⟩ x.k;have l:=zv7 hd x.k;unfold iE
 repeat' split
 all_goals first
  | exact⟨g,e,b,c⟩
  | exact⟨f,g,b,c⟩
  | exact⟨l,e,b,c⟩
  | exact⟨h,e,b,c⟩
  | exact⟨f,h,b,c⟩
  | exact zrx ⟨f,e,b,c⟩ f
  | exact zrx ⟨f,e,b,c⟩ e
  | exact⟨f,f,b,c⟩
  | exact⟨e,e,b,c⟩
  | exact⟨j,e,b,c⟩
  | exact⟨f,e,b,c⟩
def IT{s:St}(a:s.ok){x:af}(b:x.k<4294967296){d:Da}(hd:d.ok):(ef s x d).1.ok:=by
 unfold ef;split
 .simp only;split
  .exact⟨RE _ a.1 (Zc a b),a.2⟩
  .exact a
 .exact zDQ a b hd
def zGq[eo G][dK G][aA G][bV G][du G](s:St)(x:af)(d:Da)(f:s.ok)(g:x.k<4294967296)(hd:d.ok) :
  FP G 164 [SV s,IV x,DV d] (.a_ [SV (ef s x d).1,.bool (ef s x d).2]):=by
 refine bt du.aer (aad rfl) ?_;have b:=f.2.2.1;have c:=eM (k:=.u32) b;have q:=hd.2.2.2.1;have J:=eM (k:=.u64) q;have r:=K6 (G:=G) x;have l:=KA (G:=G) inferInstance (bg x.op).1 s.a (jo s x) f.1 (Zc f g);have t:=zys (G:=G) d x.k hd g;have n:=zDO (G:=G) s x.k f g;have h:=ztN (G:=G) s x.k s.a f g;have i:=ztN (G:=G) s x.k s.x f g;have K:=zHW (G:=G) s.a f.1
 have o:∀v,(va s x.k v).m.length=16:=λv=>by unfold va;split<;>simp[b]
 have j:=λv=>eM (k:=.u32) (o v);simp[SV,IV,DV,af.cs,St.cs,Da.cs] at r t n h i |-;refine au r ?_;cases u:(bg x.op).2.2
 case true =>
  simp
  have e:ef s x d=(if(kg s x).2 then{ s with a:=(kg s x).1 } else s,(kg s x).2):=by simp[ef,u]
  cases w:(bg x.op).2.1
  .have:jo s x=x.k:=by simp[jo,w]
   rw[this] at l;simp;refine au l ?_
   cases p:(cA (bg x.op).1 s.a x.k).2<;>simp[p,e,kg,this,b,c]
  .have:jo s x=s.x:=by simp[jo,w]
   rw[this] at l;simp;refine au l ?_
   cases p:(cA (bg x.op).1 s.a s.x).2<;>simp[p,e,kg,this,b,c]
 simp
 have e:ef s x d=(iE s x d,true):=by simp[ef,u]
 rw[e]
 by_cases y:x.op=0
 .simp[y,iE,b,c]
 by_cases z:x.op=1
 .simp[z,aF,iE,b,c]
 by_cases A:x.op=32
 .simp[A,aF,iE,q,J];refine au t ?_;simp[b,c]
 by_cases B:x.op=96
 .simp[B,aF,iE,b,c];refine au n ?_;simp[b,c]
 by_cases C:x.op=97
 .simp[C,aF,iE,b,c];refine au n ?_;simp[b,c]
 by_cases D:x.op=2
 .simp[D,aF,iE,b,c];refine au h ?_;simp[b,o,j]
 by_cases E:x.op=3
 .simp[E,aF,iE,b,c];refine au i ?_;simp[b,o,j]
 by_cases F:x.op=7
 .simp[F,aF,iE,b,c]
 by_cases H:x.op=135
 .simp[H,aF,iE,b,c]
 by_cases I:x.op=132
 .simp[I,aF,iE];refine au K ?_;simp[b,c]
 simp[y,z,A,B,C,D,E,F,H,I,aF,iE,b,c]
def SP{a b:Nat}(d:a<18446744073709551616):ku .u64 (a:Int) (b:Int)=((a/b:Nat):Int):=by have h:a/b<=a:=acH _ _;unfold ku;have c:((a:Int).tdiv (b:Int))=((a/b:Nat):Int):=rfl;rw[c];exact IntWalk.u64_in _ ⟨Int.natCast_nonneg _,by rw[Int.ofNat_le.symm] at h;omega⟩
def Ze{a:Nat}(b:a<256):eP .u8 (a:Int)=(a:Int):=by unfold eP;exact IntWalk.u8_in _ ⟨an,an⟩
def cT(v n:Nat):List Nat:=(aba n).map λj=>v/256^j%256
def ztO(v n:Nat):cT v (n+1)=cT v n++[v/256^n%256]:=by simp[cT,aaI]
def BI(v n:Nat):(cT v n).length=n:=by simp[cT]
def zBs[jc G](v n:Nat)(c:v<18446744073709551616)(m:n<=8){H:ae}(d:im H):bE G (.F 182 [.int .u64 v,.int .i64 n] H (.vs (aj .u8 (cT v n)) (.own H.length)) (H++[some (.zone n)])):=by
 refine fh jc.aeH (aad rfl) ?_;have a:=KB d;simp;refine aM n (λi=>[(0,.int .u64 (v/256^i:Nat)),(1,.int .i64 n),(5,.vs (aj .u8 (cT v i)) (.own H.length)),(6,.int .i64 i)]) (λi=>H++[some (.zone i)]) (λ_=>True) ?_ ?_
 .simp[aw,cT,a]
 intro i hi _
 by_cases e:i<n
 .have hd:v/256^i<18446744073709551616:=ach (acH _ _) c;have f:fU ((v/256^i:Nat):Int) 256=((v/256^i%256:Nat):Int):=vH (b:=256)
  have g:ku .u64 ((v/256^i:Nat):Int) 256=((v/256^(i+1):Nat):Int):=by rw[acQ,<-Nat.div_div_eq_div_mul];exact SP (b:=256) hd
  have h:eP .u8 ((v/256^i%256:Nat):Int)=((v/256^i%256:Nat):Int):=Ze (abD _ ag7);have j:=BI v i;have k:=ztO v i;simp(disch:=omega)[bC,f,g,h,j,k,az,bD,e,aw,a,aaH,ab5,-aab,-abj,-aau,-acF]
 .have l:i=n:=an
  subst l;simp[-abj]
def Zf[jc G](v n:Nat)(a:v<18446744073709551616)(b:n<=8):FP G 182 [.int .u64 v,.int .i64 n] (.vs (aj .u8 (cT v n)) .no) :=
 ⟨_,_,zBs v n a b (H:=[]) (λ_ _=>rfl),ir⟩
def num:List Nat->Nat
 | []=>0
 | b::l=>b+256*num l
def zBt:∀l:List Nat,(∀b∈l,b<256)->num l<256^l.length
 | [],_=>by decide
 | b::l,h=>by
  have d:=zBt l λc a=>h c (by simp[a]);have e:=h b ir;rw[num,aaj,acQ];omega
def zBu[jc G](l:List Nat)(B:l.length<=7)(f:∀b∈l,b<256):FP G 183 [.vs (aj .u8 l) .no] (.int .u64 (num l:Nat)):=by
 refine bt jc.aeI (aad rfl) ?_
 have m:bP .i64 (l.length:Int) 1=(l.length:Int)-1:=by rw[nQ]<;>omega
 simp[m];refine aM l.length (λi=>[(0,.vs (aj .u8 l) .no),(3,.int .u64 (num (l.drop (l.length-i)):Nat)),(4,.int .i64 ((l.length:Int)-1-i))]) (λ_=>[]) (λ_=>True) ?_ ?_
 .simp[aw,ak,num]
 intro i hi _
 by_cases n:i<l.length
 .have g:=bb (l.length-1-i);obtain⟨t,g⟩:=g
  have o:(l.length:Int)-1-i=(t:Int):=an
  have p:l.length-i=t+1:=an
  have r:l.length-(i+1)=t:=an
  have d:t<l.length:=an
  have h:l[t]?=some l[t]:=aae d;have s:=f l[t] (aag d);have j:=aaA d;have u:=zBt (l.drop (t+1)) λc e=>f c (aao e);have C:256^(l.drop (t+1)).length<=256^6:=aaN ag7 (by rw[aay];omega)
  have D:(256:Nat)^6=281474976710656:=by decide
  have v:bP .i64 (t:Int) 1=(l.length:Int)-1-((i+1:Nat):Int):=by rw[nQ]<;>omega
  generalize l[t]=b at h s j
  have k:num (l.drop t)=b+256*num (l.drop (t+1)):=by rw[j];rfl
  obtain⟨q,a⟩:=bb (num (l.drop (t+1)));rw[<-a] at u k
  have w:dN .u64 (q:Int) 256=((q*256:Nat):Int):=by unfold dN;rw[show(q:Int)*256=((q*256:Nat):Int) by omega];exact IntWalk.u64_in _ ⟨an,an⟩
  have x:aD .u64 ((q*256:Nat):Int) (b:Int)=((num (l.drop t):Nat):Int):=by unfold aD;rw[k,show((q*256:Nat):Int)+(b:Int)=((b+256*q:Nat):Int) by omega];exact IntWalk.u64_in _ ⟨an,an⟩
  have e:eP .u64 (b:Int)=(b:Int):=OA b an;obtain⟨_,y⟩:=aah.1 h;rw[p,<-a];simp(disch:=omega)[o,r,nO,y,e,w,x,v,n,aw,ak,-aab,-aaP]
 .have z:i=l.length:=an
  subst z;have A:((l.length:Int)<=(l.length:Int)-1)=False:=ag6;simp[A]
def Aq(d:Da)(n:Nat):List Nat:=cT d.nr 4++cT d.aC 4++cT d.ip 8++(d.args.take n).flatMap λa=>cT a 8
def OC(v:Nat):cT v 8=cT (lo v) 4++cT (hi v) 4:=by
 simp only[cT,aaI,ab2,abE,aaT,abV,abl,lo,hi];simp only[Nat.reducePow,acV.injEq,and_true]
 and_intros<;>omega
def zGr(v:Nat)(h:v<4294967296):num (cT v 4)=v:=by simp only[cT,aaI,ab2,abE,aaT,abV,abl,num];omega
def zHX(v n:Nat):∀b∈cT v n,b<256:=by intro b a;simp only[cT,aan] at a;obtain⟨j,_,rfl⟩:=a;exact abD _ ag7
def ztP(d:Da)(n:Nat):(Aq d n).length=16+8*(d.args.take n).length:=by
 have:∀l:List Nat,(l.flatMap λa=>cT a 8).length=8*l.length:=by
  intro l
  induction l with
  | nil=>rfl
  | cons a l b=>rw[abu,aal,b,BI,aaj];omega
 simp only[Aq,aal,BI,this]
def zxC(d:Da)(c:d.nr<4294967296)(e:d.aC<4294967296)(f:d.args.length=6):Aq d 6=((iV d).map λw=>cT w 4).flatten:=by
 have h:∀l:List Nat,(l.flatMap λa=>cT a 8)=((l.flatMap λa=>[lo a,hi a]).map λw=>cT w 4).flatten:=by
  intro l
  induction l with
  | nil=>rfl
  | cons a l b=>simp only[abu,acI,List.flatten_append,b];simp[OC]
 rw[Aq,aaY an,h,OC];simp[iV]
def zDR[jc G](d:Da)(hd:d.ok):FP G 184 [DV d] (.vs (aj .u8 (Aq d 6)) .no):=by
 refine bt jc.aeJ (aad rfl) ?_;obtain⟨A,B,q,e,r⟩:=hd;have C:=eM (k:=.u64) e;have s:=OA d.nr an;have t:=OA d.aC an;have n1:∀v n:Nat,n≠0->(aj .u8 (cT v n)=[])=False:=λv n h=>eq_false (by rw[zxA];intro u;have:=BI v n;rw[u] at this;exact h this.symm);simp[DV,Da.cs,s,e];refine u5 (zBs d.nr 4 an ag7 (by intro m _;simp)) ir ?_;simp[t]
 refine au (Zf d.aC 4 an ag7) ?_;simp[BI,n1];refine au (Zf d.ip 8 q ag7) ?_;simp[BI,n1,YD]
 refine aM 6 (λi=>[(1,.ptr 0 0),(3,.vs (aj .u8 (Aq d i)) (.own 2)),(4,.int .i64 i)])
  (λi=>[some (.cells (.int .u32 (d.nr:Int)::.int .u32 (d.aC:Int)::.int .u64 (d.ip:Int)::av .u64 d.args)),none,some (.zone (16+8*i)),none]) (λ_=>True) ?_ ?_
 .simp[aw,ak,Aq]
 intro i hi _
 by_cases x:i<6
 .have f:d.args[i]?=some d.args[i]:=aae an;have g:=r _ (aag (show i<d.args.length by omega));have j:=r_ .u64 d.args i an;have o:=ztP d i
  have p:Aq d (i+1)=Aq d i++cT d.args[i] 8:=by unfold Aq;rw[aaw,f,aci,abJ,<-aaX];simp
  have y:(d.args.take i).length=i:=by rw[aax];omega
  rw[y] at o
  have Gx:∀(a b c:V) (l:List V) (n:Nat),(a::b::c::l).drop (3+n)=l.drop n:=λa b c l n=>by rw[abn];rfl
  generalize d.args[i]=w at f g j p;simp(disch:=omega)[bC,az,Gx,j,e,-aab];refine au (Zf w 8 g ag7) ?_;simp(disch:=omega)[BI,n1,YD,o,<-p,az,bD,x,aw,ak,-aab];omega
 .have z:i=6:=an
  subst z;simp
def zDS{d:Da}(hd:d.ok){j:Nat}(h:j<16):(((Aq d 6).drop (4*j)).take 4)=cT ((iV d).getD j 0) 4:=by rw[zxC d hd.1 hd.2.1 hd.2.2.2.1,acf];have a:=Ao hd.2.2.2.1;refine YH (λw=>cT w 4) 4 (λw=>BI w 4) (iV d) j _ ?_;rw[aas,aae (show j<(iV d).length by omega)];rfl
def zDT[jc G](d:Da)(n:Nat)(hd:d.ok)(s:n<4294967296):FP G 185 [DV d,.int .u32 n] (.a_ [.int .u32 ((pG d n).1:Nat),.bool (pG d n).2]):=by
 refine bt jc.aeK (aad rfl) ?_;have p:=zDR (G:=G) d hd;have q:=hd;obtain⟨A,B,C,g,D⟩:=hd;have t:=eM (k:=.u64) g;have h:fU (n:Int) 4=((n%4:Nat):Int):=vH (b:=4)
 have E:(((n%4:Nat):Int)==0)=decide (n%4=0):=by rw[aaq];simp[-aau]
 have u:(((n%4:Nat):Int) !=0)=decide (n%4≠0):=by rw[aaq];simp[-aau]
 have v:=Eu n s;simp[DV,Da.cs] at p |-
 by_cases c:n%4=0
 .by_cases r:n<64
  .have i:((64:Int)<=(n:Int))=False:=DR an
   have x:4*(n/4)=n:=an
   have j:=zDS q (show n/4<16 by omega);rw[x] at j;have a:=ztP d 6;rw[aaY an,g] at a
   have e:pG d n=((iV d).getD (n/4) 0,true):=by simp[pG,c,r]
   have f:=zv7 q n;rw[e] at f |-;simp only at f;have l:=zGr _ f;have m:=zBu (G:=G) (cT ((iV d).getD (n/4) 0) 4) (by rw[BI];decide) (zHX _ _)
   have o:aD .i64 (n:Int) 4=((n+4:Nat):Int):=by rw[eG]<;>omega
   simp only at l m |-;generalize(iV d).getD (n/4) 0=w at j l m f
   have y:eP .u32 (w:Int)=(w:Int):=by unfold eP;exact sG f
   simp[h,c,i,v,t,g,-aau];refine au p ?_
   have F:0<=(n:Int)/\n<=n+4/\n+4<=(Aq d 6).length:=an
   have z:(((n+4:Nat):Int)<=64)=True:=ag5;simp(disch:=omega)[o,a,z,az,Am,xK,j,-aab];refine au m ?_;simp[l,y]
  .have i:((64:Int)<=(n:Int))=True:=nO an
   have e:pG d n=(0,false):=by simp[pG,r]
   rw[e];simp[h,c,i,-aau]
 .have e:pG d n=(0,false):=by simp[pG,c]
  rw[e];simp[h,u,c,-aau]
def j4(s:St)(x:af)(i:Nat):St:=if x.k<i/\x.k<16 then(if x.op=2 then{ s with m:=s.m.set x.k s.a } else if x.op=3 then{ s with m:=s.m.set x.k s.x } else s) else s
def Ew(s:St)(x:af)(i:Nat):Nat:=if x.k<i/\x.k<16 then s.m.getD x.k 0 else 0
def zDU[ew G][U:lI G][lJ G][jc G][mS G](s:St)(x:af)(d:Da)(u:s.ok)(o:x.k<4294967296)(hd:d.ok) :
  FP G 190 [SV s,IV x,DV d] (.a_ [SV (ef s x d).1,.bool (ef s x d).2]):=by
 refine bt mS.aeO (aad rfl) ?_;have e:=u.2.2.1;have f:=eM (k:=.u32) e;have H:=hd.2.2.2.1;have V:=eM (k:=.u64) H;have I:=zGi (G:=G) x;have v:=Xb U (bg x.op).1 s.a (jo s x) u.1 (Zc u o);have J:=zDT (G:=G) d x.k hd o;have W:=zFX (G:=G) s.a u.1;simp[SV,IV,DV,af.cs,St.cs,Da.cs] at I J |-;refine au I ?_;cases K:(bg x.op).2.2
 case true =>
  have g:ef s x d=(if(kg s x).2 then{ s with a:=(kg s x).1 } else s,(kg s x).2):=by simp[ef,K]
  cases w:(bg x.op).2.1
  .have:jo s x=x.k:=by simp[jo,w]
   rw[this] at v;simp[w];refine au v ?_
   cases D:(cA (bg x.op).1 s.a x.k).2<;>simp[D,g,kg,this,e,f]
  .have:jo s x=s.x:=by simp[jo,w]
   rw[this] at v;simp[w];refine au v ?_
   cases D:(cA (bg x.op).1 s.a s.x).2<;>simp[D,g,kg,this,e,f]
 simp
 refine aM 16 (λi=>[(3,.ptr 0 0),(4,.ptr 1 0),(5,.ptr 2 0),(6,.ptr 3 0),(14,.int .u32 (Ew s x i:Nat)),(15,.int .i64 i)])
  (λi=>[some (.cells (j4 s x i).cs),some (.cells x.cs),some (.cells d.cs),some (.cells (av .u32 (aP 18)))]) (λ_=>True) ?_ ?_
 .simp[aw,ak,j4,Ew,St.cs,af.cs,Da.cs]
 intro i hi _
 have p:(j4 s x i).m.length=16:=by unfold j4;split<;>(try split)<;>(try split)<;>simp[e]
 by_cases y:i<16
 .have z:eP .u32 (i:Int)=(i:Int):=by unfold eP;exact sG an
  have E:(2+i+1<=16+1+1)=True:=az an
  by_cases A:i=x.k
  .have nc:x.k<16:=an
   have q:((i:Int)==(x.k:Int))=true:=by simp[A]
   have X:j4 s x i=s:=by unfold j4;rw[if_neg an]
   have r:Ew s x (i+1)=s.m[i]'(by omega):=by unfold Ew;rw[if_pos an,<-A,aas,aae an];rfl
   have c:=r_ .u32 s.m i an;have F:=wJ .u32 s.m i s.a an;have Y:=wJ .u32 s.m i s.x an;rw[X]
   by_cases j:x.op=2
   .have l:j4 s x (i+1)={ s with m:=s.m.set i s.a }:=by unfold j4;rw[if_pos an,if_pos j,A]
    simp(disch:=omega)[bC,z,q,St.cs,af.cs,Da.cs,j,y,e,YR,Ot,YT,SL,c,F,E,az,r,l,bD,aw,ak,show 2+i<=17 from an,-aab]
   .have Z:(x.op==2)=false:=aF j
    by_cases n:x.op=3
    .have l:j4 s x (i+1)={ s with m:=s.m.set i s.x }:=by unfold j4;rw[if_pos an,if_neg j,if_pos n,A]
     simp(disch:=omega)[bC,z,q,St.cs,af.cs,Da.cs,n,y,e,YR,Ot,YT,SL,c,Y,E,az,r,l,bD,aw,ak,show 2+i<=17 from an,-aab]
    .have n3:(x.op==3)=false:=aF n
     have l:j4 s x (i+1)=s:=by unfold j4;rw[if_pos an,if_neg j,if_neg n]
     simp(disch:=omega)[bC,z,q,St.cs,af.cs,Da.cs,Z,n3,y,e,YR,Ot,YT,SL,c,E,az,r,l,bD,aw,ak,show 2+i<=17 from an,-aab]
  .have q:((i:Int)==(x.k:Int))=false:=aF an
   have l:j4 s x (i+1)=j4 s x i:=by
    unfold j4
    by_cases h:x.k<i/\x.k<16
    .rw[if_pos h,if_pos an]
    .rw[if_neg h,if_neg an]
   have r:Ew s x (i+1)=Ew s x i:=by
    unfold Ew
    by_cases h:x.k<i/\x.k<16
    .rw[if_pos h,if_pos an]
    .rw[if_neg h,if_neg an]
   simp(disch:=omega)[bC,z,q,St.cs,af.cs,Da.cs,y,l,r,bD,aw,ak,-aab]
 .have ay:i=16:=an
  subst ay
  have g:ef s x d=(iE s x d,true):=by simp[ef,K]
  rw[g]
  have hv:Ew s x 16=yS s x.k:=by
   unfold Ew yS
   by_cases h:x.k<16
   .rw[if_pos ⟨h,h⟩,if_pos h]
   .rw[if_neg an,if_neg h]
  have j:x.op=2->j4 s x 16=iE s x d:=by
   intro h;simp only[j4,iE,va,h]
   by_cases o:x.k<16<;>simp[o]
  have n:x.op=3->j4 s x 16=iE s x d:=by
   intro h;simp only[j4,iE,va,h]
   by_cases o:x.k<16<;>simp[o]
  have L:x.op≠2->x.op≠3->j4 s x 16=s:=by intro a b;unfold j4;simp[a,b]
  have t:=eM (k:=.u32) p;rw[hv];simp only[St.cs,af.cs,Da.cs]
  by_cases B:x.op=2
  .rw[j B] at p t |-;simp[B,aF,p,t,-aab]
  by_cases C:x.op=3
  .rw[n C] at p t |-;simp[C,aF,p,t,-aab]
  rw[L B C];clear L j n p t
  by_cases M:x.op=0
  .simp[M,iE,e,f]
  by_cases N:x.op=1
  .simp[N,aF,iE,e,f]
  by_cases O:x.op=32
  .simp[O,aF,iE,H,V];refine au J ?_;simp[e,f]
  by_cases P:x.op=96
  .simp[P,aF,iE,e,f]
  by_cases Q:x.op=97
  .simp[Q,aF,iE,e,f]
  by_cases R:x.op=7
  .simp[R,aF,iE,e,f]
  by_cases S:x.op=135
  .simp[S,aF,iE,e,f]
  by_cases T:x.op=132
  .simp[T,aF,iE];refine au W ?_;simp[e,f]
  simp[M,N,O,P,Q,B,C,R,S,T,aF,iE,e,f]
def part(s:St):Nat->Nat
 | 0=>s.a
 | 1=>s.x
 | i+2=>s.m.getD i 0
def Zi(s:St)(k v i:Nat)(b:s.m.length=16):part (va s k v) i=if k<16/\i=k+2 then v else part s i:=by
 unfold va;split
 .rename_i a
  match i with
  | 0=>simp[part]
  | 1=>simp[part]
  | i+2 =>
   simp only[part,aas,aaO]
   by_cases e:k=i
   .subst e;simp[a,b]
   .simp[e,show¬i=k from λh=>e h.symm]
 .rename_i a;simp[a]
def ztQ(s:St)(k:Nat):yS s k=if k<16 then part s (k+2) else 0:=rfl
def zxD(s:St)(x:af)(d:Da)(b:s.m.length=16)(c:(bg x.op).2.2=false)(i:Nat)(hi:i<18)(h:me x i=false):part (iE s x d) i=part s i:=by
 unfold me at h
 have two:∀v,(x.op=2\/x.op=3)->part (va s x.k v) i=part s i:=by
  intro v a;rw[Zi s x.k v i b];split
  .rename_i e;exfalso;rw[if_neg an,if_neg an] at h;simp only[decide_eq_false_iff_not] at h;exact h ⟨a,e.2.symm⟩
  .rfl
 match i,hi with
 | 0,_ =>
  simp[c] at h;unfold iE
  repeat' split
  all_goals first
   | rfl
   | (exfalso;omega)
   | exact two _ an
 | 1,_ =>
  simp at h;unfold iE
  repeat' split
  all_goals first
   | rfl
   | (exfalso;omega)
   | exact two _ an
 | i+2,hi =>
  unfold iE
  repeat' split
  all_goals first
   | rfl
   | exact two _ an
def zzV(s t:St)(x:af)(d:Da)(q:s.m.length=16)(r:t.m.length=16)(h:∀i,i<18->k8 x i=true->part s i=part t i)(i:Nat)(hi:i<18)(j:(bg x.op).2.2=false)(b:me x i=true) :
  part (iE s x d) i=part (iE t x d) i:=by
 have f:x.op∈[2,7,132,22]->s.a=t.a:=λc=>h 0 ag7 (by simp only[k8,c];simp);have g:x.op∈[3,135]->s.x=t.x:=λc=>h 1 ag7 (by simp only[k8,c];simp)
 have l:(x.op=96\/x.op=97)->yS s x.k=yS t x.k:=by
  intro c;rw[ztQ,ztQ];split
  .rename_i n;exact h (x.k+2) an (by simp[k8,c])
  .rfl
 unfold me at b
 have two:∀v,(x.op=2\/x.op=3)->part (va s x.k v) i=part (va t x.k v) i:=by
  intro v u;rw[Zi s x.k v i q,Zi t x.k v i r];split
  .rfl
  .rename_i n;exfalso
   by_cases o:i=0
   .subst o;simp[j] at b;omega
   .by_cases p:i=1
    .subst p;simp at b;omega
    .rw[if_neg o,if_neg p] at b;simp only[decide_eq_true_eq] at b;apply n;omega
 match i,hi with
 | 0,_ =>
  simp[j] at b
  rcases b with e|e|e|e|e
  .simp[iE,e,part]
  .simp[iE,e,part]
  .simp[iE,e,part,l (.inl e)]
  .simp[iE,e,part,g (by simp[e])]
  .simp[iE,e,part,f (by simp[e])]
 | 1,_ =>
  simp at b
  rcases b with e|e|e
  .simp[iE,e,part]
  .simp[iE,e,part,l (.inr e)]
  .simp[iE,e,part,f (by simp[e])]
 | i+2,_ =>
  simp at b
  rcases b.1 with e|e
  .have:=two s.a (.inl e);rw[f (by simp[e])] at this;simp[iE,e,f (by simp[e])];exact this
  .have:=two s.x (.inr e);rw[g (by simp[e])] at this;simp[iE,e,g (by simp[e])];exact this
def zpV(s:St)(x:af)(d:Da)(b:s.m.length=16)(i:Nat)(hi:i<18)(h:me x i=false):part (ef s x d).1 i=part s i:=by
 unfold ef;cases a:(bg x.op).2.2
 .simp only[aat,if_false];exact zxD s x d b a i hi h
 .simp only[if_true];split
  .match i,hi with
   | 0,_=>simp[me,a] at h
   | 1,_=>rfl
   | i+2,_=>rfl
  .rfl
def zzW(s t:St)(x:af)(d:Da)(g:s.m.length=16)(j:t.m.length=16)(h:∀i,i<18->k8 x i=true->part s i=part t i) :
  (ef s x d).2=(ef t x d).2/\∀i,i<18->me x i=true->part (ef s x d).1 i=part (ef t x d).1 i:=by
 unfold ef;cases e:(bg x.op).2.2
 .simp only[aat,if_false,true_and];exact λi hi c=>zzV s t x d g j h i hi e c
 .have f:s.a=t.a:=h 0 ag7 (by simp[k8,e])
  have k:jo s x=jo t x:=by
   unfold jo;split
   .rename_i l;exact h 1 ag7 (by simp[k8,uB,l])
   .rfl
  have n:kg s x=kg t x:=by unfold kg;rw[f,k]
  simp only[if_true,n,true_and];intro i hi c;split
  .match i,hi with
   | 0,_=>rfl
   | 1,_ =>
    exfalso
    have b:∀p∈[4,20,36,52,68,84,100,116,164,12,28,44,60,76,92,108,124,(172:Int)],decide (p∈[1,97,(7:Int)])=false:=by decide
    have:=b _ (K9 e);simp only[me] at c;simp at c this
    omega
   | i+2,_ =>
    exfalso
    have b:∀p∈[4,20,36,52,68,84,100,116,164,12,28,44,60,76,92,108,124,(172:Int)],¬p=2/\¬p=3:=by decide
    have:=b _ (K9 e);simp[me] at c;omega
  .match i,hi with
   | 0,_=>exact f
   | 1,_ =>
    exfalso
    have b:∀p∈[4,20,36,52,68,84,100,116,164,12,28,44,60,76,92,108,124,(172:Int)],decide (p∈[1,97,(7:Int)])=false:=by decide
    have:=b _ (K9 e);simp only[me] at c;simp at c this
    omega
   | i+2,_ =>
    exfalso
    have b:∀p∈[4,20,36,52,68,84,100,116,164,12,28,44,60,76,92,108,124,(172:Int)],¬p=2/\¬p=3:=by decide
    have:=b _ (K9 e);simp[me] at c;omega
def aW(x:af):List Nat:=if gu x.op then [] else if x.op=5 then [x.k] else if aX x.op then [x.jt.toNat,x.jf.toNat] else [0]
def Ey(p:Nat):List af->List Bool
 | []=>[]
 | x::f=>(k8 x p||((aW x).any (λo=>(Ey p f).getD o false)&&!me x p))::Ey p f
def nd(f:List af)(p:Nat):Bool:=(Ey p f).headD false
def zv9(p:Nat):∀(f:List af) (i:Nat),Ey p (f.drop i)=(Ey p f).drop i
 | f,0=>rfl
 | [],i+1=>by simp[Ey]
 | x::f,i+1=>by simp only[abK,Ey];exact zv9 p f i
def zHY(p:Nat)(f:List af)(o:Nat):(Ey p f).getD o false=nd (f.drop o) p:=by unfold nd;rw[zv9,List.headD_eq_head?_getD,List.head?_drop];rfl
def Zj(x:af)(f:List af)(p:Nat):nd (x::f) p=(k8 x p||((aW x).any (λo=>nd (f.drop o) p)&&!me x p)):=by
 simp only[nd,Ey,List.headD_cons]
 congr 2
 congr 1
 funext o
 exact zHY p f o
def wd(f:List af):Nat:=fG (nd f) 18
def zej:List af->List Nat
 | []=>[]
 | x::f=>wd (x::f)::zej f
def SQ:∀f:List af,(zej f).length=f.length
 | []=>rfl
 | x::f=>by simp[zej,SQ f]
def Zk:∀(f:List af) (i:Nat),i<f.length->(zej f)[i]?=some (wd (f.drop i))
 | x::f,0,_=>rfl
 | x::f,i+1,h=>by
  simp only[zej,abZ,abK];exact Zk f i (by simpa using h)
def bh(g:List af)(os:List Nat)(p:Nat):Bool:=os.any λo=>nd (g.drop o) p
def zyt(a b:Nat->Bool):∀n,fG a n ||| fG b n=fG (λp=>a p||b p) n:=by
 intro n;refine abC λi=>?_;rw[Nat.testBit_or,Az,Az,Az]
 cases decide (i<n)<;>simp
def Zl:∀n,fG (λ_=>false) n=0
 | 0=>rfl
 | n+1=>by simp[fG,Zl n]
def zyu(g:List af)(os:List Nat)(o:Nat):fG (bh g os) 18 ||| wd (g.drop o)=fG (bh g (os++[o])) 18:=by
 rw[wd,zyt]
 congr 1
 funext p
 simp[bh]
def zGs(x:af)(g:List af):fG (λp=>k8 x p||(bh g (aW x) p&&!me x p)) 18=wd (x::g):=by
 unfold wd
 congr 1
 funext p
 rw[Zj];rfl
def zBv(a b:Nat->Bool)(n:Nat)(c:n<=32):Kc .u32 ((fG a n:Nat):Int) ((fG b n:Nat):Int)=((fG (λp=>a p&&!b p) n:Nat):Int):=by
 have d:fG a n<2^32:=aaC (vk a n) (aaN ag7 c);have e:fG b n<2^32:=aaC (vk b n) (aaN ag7 c);unfold Kc;rw[si,si]
 have:(abU 32 (fG a n) &&& ~~~abU 32 (fG b n)).toNat=fG (λp=>a p&&!b p) n:=by
  refine abC λi=>?_;rw[BitVec.testBit_toNat,BitVec.getLsbD_and,BitVec.getLsbD_not,ab_,ab_,Az,Az,Az]
  by_cases hi:i<n
  .have:i<32:=an
   simp[hi,this]
  .simp[hi]
 show IntKind.u32.wrap _=_;rw[show IntKind.u32.bits=32 from rfl,this];exact sG (aaC (vk _ n) (aaN ag7 c))
def zFr(f:List af):wd f<2^32:=aaC (vk _ 18) ag7
def zQ(x:af)(i:Nat):List Int:=(aW x).map fun(o:Nat)=>((i+1+o:Nat):Int)
def zwa[aA G][fK G](x:af)(i:Nat)(h:x.k<4294967296)(j:x.Et)(hi:i<=5000):FP G 170 [IV x,.int .i64 i] (.vs (ints .i64 (zQ x i)) .no):=by
 refine bt fK.aew (aad rfl) ?_;have f:=On (G:=G) x;have g:=An (G:=G) x
 have b:aD .i64 (i:Int) 1=(i:Int)+1:=by rw[eG]<;>omega
 simp[IV,af.cs,b] at f g |-;refine au f ?_;cases c:gu x.op
 .simp
  by_cases a:x.op=5
  .have l:aD .i64 ((i:Int)+1) (x.k:Int)=((i+1+x.k:Nat):Int):=by rw[eG]<;>omega
   have d:(x.op==5)=true:=by simp[a]
   simp[d,Eu x.k h,b,l];simp[zQ,aW,c,a,ints,gu]
  .have d:(x.op==5)=false:=aF a;simp[d];refine au g ?_;cases e:aX x.op
   .simp[zQ,aW,c,a,e,ints,b]
   .obtain⟨o,p,q,r⟩:=j e
    have m:aD .i64 ((i:Int)+1) x.jt=((i+1+x.jt.toNat:Nat):Int):=by rw[eG]<;>omega
    have n:aD .i64 ((i:Int)+1) x.jf=((i+1+x.jf.toNat:Nat):Int):=by rw[eG]<;>omega
    simp[b,m,n];simp[zQ,aW,c,a,e,ints]
 .simp[zQ,aW,c,ints]
def zwb:∀{f:List af} {i:Nat} {x:af},j0 f=true->f[i]?=some x->b_ x (f.length-1-i)=true
 | y::f,0,x,h,a=>by
  simp only[List.getElem?_cons_zero,ab3.injEq] at a;subst a;simp only[j0,aaf] at h
  simpa using h.1
 | y::f,i+1,x,h,a=>by
  simp only[j0,aaf] at h;have:=zwb h.2 (by simpa using a);rw[<-this]
  congr 1
  simp only[aaj];omega
def Gy{f:List af}{i:Nat}{x:af}(h:dE f=true)(a:f[i]?=some x):b_ x (f.length-1-i)=true/\(gu x.op=false->i+1<f.length)/\f.length<=4096:=by
 simp only[dE,aaf,decide_eq_true_eq] at h;refine⟨zwb h.1.2 a,λb=>?_,h.1.1⟩;obtain⟨hi,e⟩:=aah.1 a
 by_cases d:i+1<f.length
 .exact d
 .have:i=f.length-1:=an
  have c:=h.2
  have:f.getLast?=some x:=by rw[abm,<-this];exact a
  simp only[kJ,this] at c;rw[c] at b;cases b
def Gz{f:List af}{i:Nat}{x:af}(h:dE f=true)(e:f[i]?=some x){o:Nat}(a:o∈aW x):i+1+o<f.length:=by
 obtain⟨b,c,k⟩:=Gy h e;simp only[b_,aaf] at b;unfold aW at a;split at a
 .cases a
 rename_i g;have c:=c (by simpa using g);split at a
 .rename_i j;simp only[aap] at a;subst a;have:=b.1.2;rw[if_pos j,decide_eq_true_eq] at this;omega
 split at a
 .rename_i d;have l:=BC b.1.1.1 d;have:=b.2;rw[if_pos d,decide_eq_true_eq] at this;simp only[aai,aaJ,or_false] at a
  rcases a with rfl|rfl<;>omega
 .simp only[aap] at a;omega
def zwc(x:af):(aW x).length<=2:=by unfold aW;split;simp;split;simp;split<;>simp
def yT(f:List af)(k:Nat):List Nat:=abp k 0++zej (f.drop k)
def Zm(f:List af)(k:Nat)(h:k<=f.length):(yT f k).length=f.length:=by simp[yT,SQ];omega
def zxE(f:List af)(k j:Nat)(h:k<=j)(a:j<f.length):(yT f k)[j]?=some (wd (f.drop j)):=by
 rw[yT,aaH (by simpa using h)];rw[ab6,Zk _ _ (by simp;omega),aa0]
 congr 3;omega
def zxF(f:List af)(k:Nat)(a:k<f.length):(yT f (k+1)).set k (wd (f.drop k))=yT f k:=by unfold yT;rw[List.replicate_succ',aaX,ab5 _ _ ir];rw[aaA a];simp only[ab6,Nat.sub_self,List.singleton_append,List.set_cons_zero];rfl
def zM1[aA G][aB G][dh G][fK G](f:List af)(r:∀x∈f,x.k<4294967296)(b:dE f=true):FP G 171 [FL f] (.a_ [.vs (aj .u32 (zej f)) .no,.int .i64 0]):=by
 have X:f.length<=4096:=by simp only[dE,aaf,decide_eq_true_eq] at b;exact b.1.1
 have Y:maxLen=9223372036854775807:=by decide
 refine bt fK.aex (aad rfl) ?_;have J:=Oz (G:=G) f an r;simp;refine au J ?_
 have K:bP .i64 (f.length:Int) 1=(f.length:Int)-1:=by rw[nQ]<;>omega
 simp(disch:=omega)[b,FL,K,az];refine aM f.length (λi=>[(0,FL f),(4,.rs 0 0 f.length 1),(5,.int .i64 ((f.length:Int)-1-i))]) (λi=>[some (.cells (av .u32 (yT f (f.length-i))))]) (λ_=>True) ?_ ?_
 .simp[aw,ak,FL,yT,zej,aP]
 intro i hi _
 by_cases L:i<f.length
 .have s:=bb (f.length-1-i);obtain⟨t,s⟩:=s
  have M:(f.length:Int)-1-i=(t:Int):=an
  have N:f.length-i=t+1:=an
  have O:f.length-(i+1)=t:=an
  have a:t<f.length:=an
  have h:f[t]?=some f[t]:=aae a;have d:=rG a;have u:f[t]∈f:=aag a;have v:=aaA a;generalize f[t]=x at h d u v;have P:=r x u;obtain⟨w,_,_⟩:=Gy b h;simp only[b_,aaf] at w;have y:=zwa (G:=G) x t P (BC w.1.1.1) an;have z:=zGj (G:=G) x;have A:=zGk (G:=G) x;have e:x.cs=[.int .i64 x.op,.int .i64 x.jt,.int .i64 x.jf,.int .u32 (x.k:Int)]:=rfl;simp[IV,e] at y z A;simp(disch:=omega)[M,N,bC,FL,d,e,nO]
  refine au y ?_;simp
  refine aM (aW x).length (λj=>[(0,FL f),(4,.rs 0 0 f.length 1),(5,.int .i64 t),(6,.int .u32 (fG (bh (f.drop (t+1)) ((aW x).take j)) 18:Nat)),(27,.vs (ints .i64 (zQ x t)) .no),(28,.int .i64 (aW x).length),(29,.int .i64 j)])
   (λ_=>[some (.cells (av .u32 (yT f (t+1))))]) (λ_=>True) ?_ ?_
  .have Q:fG (bh (f.drop (t+1)) []) 18=0:=Zl 18;simp[aw,ak,FL,Q,zQ]
  intro j Z _;have FO:=zwc x
  by_cases l:j<(aW x).length
  .have m:(aW x)[j]?=some (aW x)[j]:=aae l;have B:(aW x)[j]∈aW x:=aag l;have C:=Gz b h B
   have D:(aW x).take (j+1)=(aW x).take j++[(aW x)[j]]:=by rw[aaw,m];rfl
   have E:(zQ x t)[j]?=some ((t+1+(aW x)[j]:Nat):Int):=by simp[zQ,m]
   generalize(aW x)[j]=o at m B C D E
   have R:((av .u32 (yT f (t+1))).drop (t+1+o)).take 1=[.int .u32 (wd (f.drop (t+1+o)):Nat)]:=by have g:=Zm f (t+1) an;have c:=zxE f (t+1) (t+1+o) an C;rw[r_ _ _ _ an];rw[aae an,ab3.injEq] at c;rw[c]
   have n:uU .u32 ((fG (bh (f.drop (t+1)) ((aW x).take j)) 18:Nat):Int) ((wd (f.drop (t+1+o)):Nat):Int)=((fG (bh (f.drop (t+1)) ((aW x).take (j+1))) 18:Nat):Int):=by rw[zx (aaC (vk _ 18) ag7) (zFr _),D,<-zyu,aa0]
   have g:=Zm f (t+1) an;simp(disch:=omega)[bC,E,R,g,n,az,FL,aw,ak,bD,l,-aab]
  .have p:j=(aW x).length:=an
   subst p;rw[aaL];have g:=Zm f (t+1) an;have F:=zGs x (f.drop (t+1));rw[<-v] at F;have S:=zxF f t a;have q:Gu x<2^32:=aaC (vk _ 18) ag7
   have n:uU .u32 ((Gu x:Nat):Int) (Kc .u32 ((fG (bh (f.drop (t+1)) (aW x)) 18:Nat):Int) ((Eo x:Nat):Int))=((wd (f.drop t):Nat):Int):=by rw[Eo,zBv _ _ 18 ag7,zx q (aaC (vk _ 18) ag7),Gu,zyt,F]
   have H:=wJ .u32 (yT f (t+1)) t (wd (f.drop t)) an;rw[S] at H;simp(disch:=omega)[FL,d,e,bC,nO,-aab];refine au z ?_;simp(disch:=omega)[FL,d,e,bC,nO,-aab];refine au A ?_
   have T:bP .i64 (t:Int) 1=(f.length:Int)-1-((i+1:Nat):Int):=by rw[nQ]<;>omega
   simp(disch:=omega)[n,g,az,H,a,T,aw,ak,L,O,-aab]
 .have p:i=f.length:=an
  subst p;have U:((f.length:Int)<=(f.length:Int)-1)=False:=ag6
  have V:yT f 0=zej f:=by simp[yT]
  have W:pZ 1 f.length (av .u32 (zej f))=aj .u32 (zej f):=by rw[<-SQ f];exact zoq .u32 (zej f)
  have I:=SQ f;simp[U,V,I,eM I,W,az]
def zBw[aA G][aB G][dh G][fK G](f:List af)(t:Nat)(x:af)(a:f[t]?=some x)(e:∀x∈f,x.k<4294967296)(b:dE f=true) :
  FP G 172 [FL f,.int .i64 t] (.a_ [.int .u32 (fG (bh (f.drop (t+1)) (aW x)) 18:Nat),.int .i64 0]):=by
 refine bt fK.aey (aad rfl) ?_;obtain⟨g,v⟩:=aah.1 a;have h:=rG g;have i:f[t]∈f:=aag g;rw[v] at h i;have w:=e x i;obtain⟨l,_,m⟩:=Gy b a;simp only[b_,aaf] at l;have n:=zwa (G:=G) x t w (BC l.1.1.1) an;have p:x.cs=[.int .i64 x.op,.int .i64 x.jt,.int .i64 x.jf,.int .u32 (x.k:Int)]:=rfl;simp[IV,p] at n;simp;refine au (zM1 f e b) ?_;have y:((f.length:Int)<=(t:Int))=False:=ag6
 simp(disch:=omega)[y,kQ,FL,h,p];refine au n ?_;simp
 refine aM (aW x).length (λj=>[(6,.vs (aj .u32 (zej f)) .no),(8,.int .u32 (fG (bh (f.drop (t+1)) ((aW x).take j)) 18:Nat)),(33,.vs (ints .i64 (zQ x t)) .no),(34,.int .i64 (aW x).length),(35,.int .i64 j)])
  (λ_=>[]) (λ_=>True) ?_ ?_
 .have z:fG (bh (f.drop (t+1)) []) 18=0:=Zl 18;simp[aw,ak,FL,z,zQ]
 intro j D _;have E:=zwc x
 by_cases c:j<(aW x).length
 .have d:(aW x)[j]?=some (aW x)[j]:=aae c;have q:(aW x)[j]∈aW x:=aag c;have r:=Gz b a q
  have s:(aW x).take (j+1)=(aW x).take j++[(aW x)[j]]:=by rw[aaw,d];rfl
  have u:(zQ x t)[j]?=some ((t+1+(aW x)[j]:Nat):Int):=by simp[zQ,d]
  generalize(aW x)[j]=o at d q r s u;have A:=Zk f (t+1+o) r
  have B:uU .u32 ((fG (bh (f.drop (t+1)) ((aW x).take j)) 18:Nat):Int) ((wd (f.drop (t+1+o)):Nat):Int)=((fG (bh (f.drop (t+1)) ((aW x).take (j+1))) 18:Nat):Int):=by rw[zx (aaC (vk _ 18) ag7) (zFr _),s,<-zyu,aa0]
  simp(disch:=omega)[bC,u,A,B,az,FL,aw,ak,bD,c,-aab]
 .have C:j=(aW x).length:=an
  subst C;simp
def Zn{f:List af}(h:dE f=true):f≠[]:=by rintro rfl;simp[dE,kJ] at h
def cb(l:List Bool):List V:=l.map V.bool
@[simp] theorem zNv (l:List Bool):(cb l).length=l.length:=by simp[cb]
@[simp] theorem alg (n:Nat) (l:List Bool):ba n (cb l)=cb l:=by rw[ij];simp[cb,acn]
theorem zHZ(l:List Bool)(i:Nat)(b:Bool)(h:l[i]?=some b):((cb l).drop i).take 1=[.bool b]:=by obtain⟨a,rfl⟩:=aah.1 h;rw[cb,<-acM,aaA a];rfl
def SR(l:List Bool)(i:Nat)(x:Bool)(h:i<l.length):(cb l).take i++(V.bool x::(cb l).drop (i+1))=cb (l.set i x):=by rw[cb,<-acM,<-List.map_take,List.set_eq_take_append_cons_drop,if_pos h];simp[cb]
@[simp] theorem zN1 (l:List Bool):(cb l).all V.pure=true:=by simp[cb]
@[simp high] theorem zNw (base:Nat) (e:Env) (H:ae) (s bytes:Nat) (n:X):aU base e H (.qm s bytes [.bool false] n)=(match n.ev e with
  | .int _ m=>if lK H (base+s)=true/\0<=m/\m.toNat*bytes<=140737488355328 then some (.rs (base+s) 0 m.toNat 1,H.set (base+s) (some (.cells (cb (abp m.toNat false))))) else none
  | _=>none):=by
 have h:∀m:Nat,(abp m [V.bool false]).flatten=cb (abp m false):=λm=>by
  induction m with
  | zero=>rfl
  | succ m a=>rw[aca,acm,a];simp[cb,aca]
 rw[aU.eq_27]
 cases n.ev e<;>simp only[h,List.length_singleton]
def OH{f:List af}{i:Nat}{x:af}(h:dE f=true)(a:f[i]?=some x):x.Et:=by have:=(Gy h a).1;simp only[b_,aaf] at this;exact BC this.1.1.1
def goes(s:St)(x:af):Nat:=if x.op=5 then x.k else if aX x.op then(if dc s x then x.jt.toNat else x.jf.toNat) else 0
def run(d:Da)(g:List af)(s:St):Nat×Nat :=
 match g with
 | []=>(0,0)
 | x::g=>if x.op=6 then(x.k,1) else if x.op=22 then(s.a,1) else if(ef s x d).2 then((run d (g.drop (goes s x)) (ef s x d).1).1,(run d (g.drop (goes s x)) (ef s x d).1).2+1) else(0,1)
termination_by g.length
decreasing_by all_goals (simp only[aay,aaj];omega)
def yU(d:Da)(x:af)(g:List af)(s:St):run d (x::g) s=if x.op=6 then(x.k,1) else if x.op=22 then(s.a,1) else if(ef s x d).2 then((run d (g.drop (goes s x)) (ef s x d).1).1,(run d (g.drop (goes s x)) (ef s x d).1).2+1) else(0,1):=by rw[run]
def SU{x:af}(h:gu x.op=false)(s:St):goes s x∈aW x:=by
 unfold goes aW;rw[h];simp only[aat,if_false]
 by_cases a:x.op=5
 .simp[a]
 .rw[if_neg a,if_neg a];split
  .split<;>simp
  .simp
def zBx(d:Da):∀(n:Nat) (g:List af) (s:St),g.length<=n->(run d g s).2<=g.length
 | _,[],s,_=>by rw[run];simp
 | 0,x::g,s,h=>by simp at h
 | n+1,x::g,s,h=>by
  rw[yU];have:=zBx d n (g.drop (goes s x)) (ef s x d).1 (by simp at h |-;omega);rw[aay] at this;rw[aaj];split
  .simp
  split
  .simp
  split
  .simp only;omega
  .simp
def zxG{s t:St}{x:af}(h:∀i,i<18->k8 x i=true->part s i=part t i):dc s x=dc t x:=by
 cases b:aX x.op
 .rw[YU b,YU b]
 .have a:=h 0 ag7 (by simp[k8,b])
  by_cases c:x.op∈[29,45,61,77]
  .have d:=h 1 ag7 (by simp only[k8,uB,c];simp);simp only[part] at a d;simp only[dc,a,d]
  .simp only[part] at a;simp only[dc,a,c,if_false]
def ztR(d:Da)(hd:d.ok):∀(n:Nat) (g:List af) (s t:St),g.length<=n->s.ok->t.ok->(∀x∈g,x.k<4294967296)->(∀p,p<18->nd g p=true->part s p=part t p)->run d g s=run d g t
 | _,[],s,t,_,_,_,_,_=>by rw[run,run]
 | 0,x::g,s,t,h,_,_,_,_=>by simp at h
 | n+1,x::g,s,t,h,j,l,q,r=>by
  have u:=q x ir;have b:∀i,i<18->k8 x i=true->part s i=part t i:=λi hi b=>r i hi (by rw[Zj,b];rfl);obtain⟨v,w⟩:=zzW s t x d j.2.2.1 l.2.2.1 b;rw[yU,yU]
  by_cases c:x.op=6
  .rw[if_pos c,if_pos c]
  rw[if_neg c,if_neg c]
  by_cases a:x.op=22
  .rw[if_pos a,if_pos a];have:=b 0 ag7 (by simp[k8,a]);simp only[part] at this;rw[this]
  rw[if_neg a,if_neg a]
  have z:gu x.op=false:=by simp[gu,c,a]
  have A:goes s x=goes t x:=by unfold goes;rw[zxG b]
  have B:=SU z t
  have m:=ztR d hd n (g.drop (goes t x)) (ef s x d).1 (ef t x d).1 (by simp at h |-;omega) (IT j u hd) (IT l u hd) (λy C=>q y (by simp[aao C])) λp e D=>by
   cases f:me x p
   .rw[zpV s x d j.2.2.1 p e f,zpV t x d l.2.2.1 p e f];refine r p e ?_;rw[Zj,f];have:(aW x).any (λo=>nd (g.drop o) p)=true:=acA.2 ⟨_,B,D⟩;rw[this];simp
   .exact w p e f
  rw[A,v,m]
def zyv[ew G][CU:lI G][lJ G][jc G][mS G][pW G](f:List af)(d:Da)(J:∀x∈f,x.k<4294967296)(u:dE f=true)(hd:d.ok) :
  ∀(n t:Nat) (s:St),f.length-t<=n->t<f.length->s.ok->FP G 192 [FL f,SV s,.int .i64 t,DV d] (.a_ [.int .u32 ((run d (f.drop t) s).1:Nat),.int .i64 ((run d (f.drop t) s).2:Nat)])
 | 0,t,s,h,p,_=>by omega
 | n+1,t,s,h,p,v=>by
  refine bt pW.aeQ (aad rfl) ?_;have w:f[t]?=some f[t]:=aae p;have R:=rG p;have K:f[t]∈f:=aag p;have L:=aaA p;obtain⟨x,m⟩:=bb (f[t]);rw[<-m] at w R K L;have m:=m.symm;have y:=J x K;obtain⟨o1,o2,M⟩:=Gy u w;have S:=OH u w;have z:x.cs=[.int .i64 x.op,.int .i64 x.jt,.int .i64 x.jf,.int .u32 (x.k:Int)]:=rfl;have A:=YO (G:=G) x;have N:=zBl (G:=G) s x v y
  have b:=zDU (G:=G) s x d v y hd;have o:=v.2.2.1;have q:=eM (k:=.u32) o;have e:=hd.2.2.2.1;have i:=eM (k:=.u64) e;have T:aD .i64 (t:Int) 1=((t+1:Nat):Int):=bD an;have U:=Eu x.k y;have O:=IT v y hd;have g:=O.2.2.1;have B:=eM (k:=.u32) g;rw[L,yU];simp[SV,IV,DV,FL,z,St.cs,Da.cs] at A N b |-
  by_cases C:x.op=6
  .simp(disch:=omega)[m,z,C]
  have W:(x.op==6)=false:=aF C
  by_cases D:x.op=22
  .simp(disch:=omega)[m,z,D]
  have F:(x.op==22)=false:=aF D
  have X:gu x.op=false:=by simp[gu,C,D]
  have Y:=Gz u w (SU X s);have c:=zyv f d J u hd n (t+1+goes s x) (ef s x d).1 an Y O;have P:=zBx d _ (f.drop (t+1+goes s x)) (ef s x d).1 (aak _);rw[aay] at P;simp[SV,DV,FL,St.cs,Da.cs,-aab] at c;rw[show f.drop (t+1+goes s x)=(f.drop (t+1)).drop (goes s x) by rw[aa0]] at c P;have a:aD .i64 ((run d ((f.drop (t+1)).drop (goes s x)) (ef s x d).1).2:Int) 1=(((run d ((f.drop (t+1)).drop (goes s x)) (ef s x d).1).2+1:Nat):Int):=bD an
  simp(disch:=omega)[m,z,W,F,C,D,T,-aab];have c1:∀n:Nat,(V.int .u32 (n:Int)).cl 0=.int .u32 n:=λ_=>rfl
  by_cases j:x.op=5
  .have H:(x.op==5)=true:=by simp[j]
   have Z:aX x.op=false:=by rw[j];decide
   have l:goes s x=x.k:=by simp[goes,j]
   have r:aD .i64 ((t+1:Nat):Int) (x.k:Int)=((t+1+x.k:Nat):Int):=rj an;rw[Z] at A;rw[l] at c a |-;simp(disch:=omega)[H,U,r,-aab];refine au A ?_;simp(disch:=omega)[o,q,e,i,-aab];refine au b ?_;cases I:(ef s x d).2
   .simp[g]
   .simp(disch:=omega)[g,B,e,i,-aab];refine au c ?_;rw[aa0] at a;simp[a,-aab]
  have H:(x.op==5)=false:=aF j;simp(disch:=omega)[H,-aab];refine au A ?_;cases E:aX x.op
  .have l:goes s x=0:=by simp[goes,j,E]
   rw[l] at c a |-;simp(disch:=omega)[o,q,e,i,-aab];refine au b ?_;cases I:(ef s x d).2
   .simp[g]
   .simp(disch:=omega)[g,B,e,i,-aab];refine au c ?_;simp at a |-;simp[a]
  obtain⟨b1,b2,b3,b4⟩:=S E;simp(disch:=omega)[o,q,-aab];refine au N ?_;cases Q:dc s x
  .have l:goes s x=x.jf.toNat:=by simp[goes,j,E,Q]
   have r:aD .i64 ((t+1:Nat):Int) x.jf=((t+1+x.jf.toNat:Nat):Int):=by rw[eG]<;>omega
   rw[l] at c a |-;simp(disch:=omega)[o,q,e,i,r,-aab];refine au b ?_;cases I:(ef s x d).2
   .simp[g]
   .simp(disch:=omega)[g,B,e,i,-aab];refine au c ?_;rw[aa0] at a;simp[a,-aab]
  .have l:goes s x=x.jt.toNat:=by simp[goes,j,E,Q]
   have r:aD .i64 ((t+1:Nat):Int) x.jt=((t+1+x.jt.toNat:Nat):Int):=by rw[eG]<;>omega
   rw[l] at c a |-;simp(disch:=omega)[o,q,e,i,r,-aab];refine au b ?_;cases I:(ef s x d).2
   .simp[g]
   .simp(disch:=omega)[g,B,e,i,-aab];refine au c ?_;rw[aa0] at a;simp[a,-aab]
def two(w:List Nat)(i:Nat):Nat:=w.getD i 0+w.getD (i+1) 0*4294967296
def mP(w:List Nat):Da:=⟨w.getD 0 0,w.getD 1 0,two w 2,(aba 6).map λi=>two w (4+2*i)⟩
def OJ(d:Da)(a v:Nat):Da:=if a%4=0/\a<64 then mP ((iV d).set (a/4) v) else d
def zDV{w:List Nat}(a:w.length=16)(b:∀x∈w,x<4294967296):iV (mP w)=w:=by
 match w,a with
 | [h,i,j,k,l,m,n,o,p,q,c,r,d,e,f,g],_ =>
  simp only[aai,aaJ,or_false,forall_eq_or_imp,forall_eq] at b;simp only[iV,mP,two,lo,hi,aaI,ab2,abE,aaT,abV,abl,abu,List.flatMap_nil,List.getD_cons_zero,List.getD_cons_succ,Nat.mul_zero,Nat.mul_one,Nat.reduceMul,Nat.reduceAdd,acV.injEq,and_true,true_and]
  and_intros<;>omega
def OK{w:List Nat}(e:w.length=16)(d:∀x∈w,x<4294967296):(mP w).ok:=by
 have a:∀i,w.getD i 0<4294967296:=by
  intro i;rw[aas]
  cases h:w[i]? with
  | none=>decide
  | some z=>exact d z (aaW h)
 have b:∀i,two w i<18446744073709551616:=λi=>by
  have:=a i;have:=a (i+1);unfold two;omega
 refine⟨a 0,a 1,b 2,by simp[mP],λx c=>?_⟩;simp only[mP,aan] at c;obtain⟨i,_,rfl⟩:=c;exact b _
def zH0{l:List Nat}{i v n:Nat}(h:∀x∈l,x<n)(b:v<n):∀x∈l.set i v,x<n:=λx c=>by
 rcases abR c with a|a
 .exact h x a
 .rw[a];exact b
def rI:St:=⟨0,0,aP 16⟩
def Zo:rI.ok:=⟨ag7,ag7,by simp[rI],λw a=>by
 simp only[rI,aP,acj] at a
 omega⟩
def zH1:rI.cs=av .u32 (aP 18):=rfl
def Zp[ew G][i:lI G][lJ G][jc G][mS G][pW G][qU G](f:List af)(d:Da)(e:∀x∈f,x.k<4294967296)(a:dE f=true)(hd:d.ok) :
  FP G 234 [FL f,DV d] (.a_ [.int .u32 ((run d f rI).1:Nat),.int .i64 ((run d f rI).2:Nat)]):=by
 refine bt qU.aeV (aad rfl) ?_
 have g:0<f.length:=by
  have:=Zn a
  cases f with
  | nil=>exact absurd rfl this
  | cons=>simp
 have b:=zyv (G:=G) f d e a hd _ 0 rI (aak _) g Zo;have c:=hd.2.2.2.1;have h:=eM (k:=.u64) c;simp[SV,zH1,FL,DV,Da.cs] at b;simp[FL,DV,Da.cs,c,h];refine au b ?_;simp
def zM2(a b c:V)(l:List V)(n:Nat):(a::b::c::l).take (3+n)=a::b::c::l.take n:=by rw[abn];rfl
def Gx(a b c:V)(l:List V)(n:Nat):(a::b::c::l).drop (3+n)=l.drop n:=by rw[abn];rfl
def zH2(b c:V)(l:List V)(n:Nat):(b::c::l).drop (3+n)=l.drop (n+1):=by rw[show 3+n=(n+1)+2 by omega];rfl
def zBy{w:List Nat}(b:∀x∈w,x<4294967296)(i:Nat):uU .u64 ((w.getD i 0:Nat):Int) (je .u64 ((w.getD (i+1) 0:Nat):Int) 32)=((two w i:Nat):Int):=by
 have a:∀i,w.getD i 0<4294967296:=by
  intro i;rw[aas]
  cases h:w[i]? with
  | none=>decide
  | some z=>exact b z (aaW h)
 exact zBn _ _ (a i) (a (i+1))
def ZD:List V:=[.int .u32 0,.int .u32 0,.int .u64 0,.int .u64 0,.int .u64 0,.int .u64 0,.int .u64 0,.int .u64 0,.int .u64 0]
def HG(w:List Nat)(n:Nat)(a b c:Nat)(l:List Nat):ae:=[some (.cells (av .u32 w)),some (.cells ZD),some (.cells [.int .i64 n]),some (.cells (.int .u32 (a:Int)::.int .u32 (b:Int)::.int .u64 (c:Int)::av .u64 l))]
def zH3[dy G](w:List Nat)(n a b c:Nat)(l:List Nat)(f:w.length=16)(d:∀x∈w,x<4294967296)(u:n+1<16) :
  bE G (.F 231 [.ptr 0 0,.ptr 2 0] (HG w n a b c l) (.int .u64 (two w n:Nat)) (HG w (n+2) a b c l)):=by
 have g:=r_ .u32 w n an;have h:=r_ .u32 w (n+1) an
 have i:w.getD n 0=w[n]:=by simp[aas,aae (show n<w.length by omega)]
 have j:w.getD (n+1) 0=w[n+1]:=by simp[aas,aae (show n+1<w.length by omega)]
 have e:=zBy d n;rw[i,j] at e;have v:=d _ (aag (show n<w.length by omega));have y:=d _ (aag (show n+1<w.length by omega));have k:=Ow w[n] an;have m:=Ow w[n+1] an;have o:aD .i64 (n:Int) 1=((n+1:Nat):Int):=bD an;have p:aD .i64 (n:Int) 2=((n+2:Nat):Int):=M_ (n:=2) an;have q:((n:Int)<16)=True:=bC an;have r:(((n+1:Nat):Int)<16)=True:=bC an;have s:(n+1<=16)=True:=az an
 have t:(n+1+1<=16)=True:=az an;have z:(n<=14)=True:=az an;refine fh dy.aeS (aad rfl) ?_;simp[HG,ZD,o,p,q,r,s,t,g,h,k,m,e,f,-aab]
def yV(w:List Nat)(i:Nat):List Nat:=(aba 6).map λj=>if j<i then two w (4+2*j) else 0
def Zq(w:List Nat)(i:Nat):(yV w i).length=6:=by simp[yV]
def zzX(w:List Nat){i:Nat}(hi:i<6):(yV w i).set i (two w (4+2*i))=yV w (i+1):=by
 apply abe;intro j;rw[aaO,Zq]
 by_cases h:i=j
 .subst h;simp[yV,hi]
 .rw[if_neg h]
  by_cases a:j<6
  .simp only[yV,acv,acd a,acJ]
   by_cases b:j<i
   .simp[b,show j<i+1 by omega]
   .simp[b,show¬j<i+1 by omega]
  .simp[yV,a]
def zGt(w:List Nat):yV w 6=(mP w).args:=by simp only[yV,mP];apply List.map_congr_left;intro j a;simp[abt.1 a]
def zGu(w:List Nat):yV w 0=aP 6:=by simp[yV,aP,aaI]
def zH4[dy G](w:List Nat)(b:w.length=16)(c:∀x∈w,x<4294967296):FP G 232 [.agg (av .u32 w)] (DV (mP w)):=by
 refine bt dy.aeT (aad rfl) ?_;have l:=eM (k:=.u32) b
 have m:(av .u32 w).take 1=[.int .u32 (w[0]:Nat)]:=by have:=r_ .u32 w 0 an;rwa[List.drop_zero] at this
 have n:(av .u32 w).tail.take 1=[.int .u32 (w[1]:Nat)]:=by have:=r_ .u32 w 1 an;rwa[List.drop_one] at this
 have o:=r_ .u32 w 2 an;have p:=r_ .u32 w 3 an
 have d:∀i (h:i<16),w.getD i 0=w[i]:=λi h=>by simp[aas,aae (show i<w.length by omega)]
 have e:=zBy c 2;rw[d 2 an,d 3 an] at e;have z:=c _ (aag (show 2<w.length by omega));have A:=c _ (aag (show 3<w.length by omega));have q:=Ow w[2] an;have r:=Ow w[3] an;simp[m,n,o,p,q,r,e,b]
 refine aM 6 (λi=>[(2,.ptr 1 0),(4,.fn 231 [.ptr 0 0,.ptr 2 0]),(5,.ptr 3 0),(21,.int .i64 i)])
  (λi=>HG w (4+2*i) w[0] w[1] (two w 2) (yV w i)) (λ_=>True) ?_ ?_
 .have s:av .u64 (aP 6)=[.int .u64 0,.int .u64 0,.int .u64 0,.int .u64 0,.int .u64 0,.int .u64 0]:=rfl;simp[aw,ak,HG,ZD,zGu,s]
 intro i hi _
 by_cases f:i<6
 .have g:=zH3 (G:=G) w (4+2*i) w[0] w[1] (two w 2) (yV w i) b c an;have t:=Zq w i;have j:=wJ .u64 (yV w i) i (two w (4+2*i)) an;rw[zzX w f] at j;simp[HG,ZD,-aab,-aaP] at g;simp(disch:=omega)[bC,HG,ZD,-aab,-aaP];refine kY g ir ?_;simp(disch:=omega)[ak,zM2,zH2,t,j,bC,az,bD,f,aw,show 4+2*(i+1)=4+2*i+2 from an,-aab,-aaP]
 .have u:i=6:=an
  subst u;have v:=zGt w;have a:=Zq w 6;have y:=eM (k:=.u64) a;have B:=d 0 an;have C:=d 1 an;simp[HG,ZD,DV,Da.cs,a,y];rw[<-v];simp[mP,b]
def zGv[bV G][dy G](d:Da)(n v:Nat)(hd:d.ok)(g:n<4294967296)(m:v<4294967296):FP G 233 [DV d,.int .u32 n,.int .u32 v] (DV (OJ d n v)):=by
 refine bt dy.aeU (aad rfl) ?_;have i:=zv3 (G:=G) d hd;have j:=eM (k:=.u64) hd.2.2.2.1;have c:=hd.2.2.2.1;simp[DV,Da.cs] at i |-;refine au (zv4 n g) ?_
 by_cases h:n%4=0/\n<64
 .have o:ku .u32 (n:Int) 4=((n/4:Nat):Int):=Wq (b:=4) g ag7;have e:=Ao c;have p:=eM (k:=.u32) e;have q:=wJ .u32 (iV d) (n/4) v an
  have f:((iV d).set (n/4) v).length=16:=by rw[ab0];exact e
  have r:=eM (k:=.u32) f;have l:=zH4 (G:=G) ((iV d).set (n/4) v) f (zH0 (YV hd) m)
  have a:(mP ((iV d).set (n/4) v)).args.length=6:=by simp[mP]
  have s:=eM (k:=.u64) a;simp[DV,Da.cs] at l;simp[h,c,j,OJ];refine au i ?_;simp(disch:=omega)[o,bC,az,e,q,f,r,-abj];refine au l ?_;simp[a,s]
 .simp[h,OJ,c,j]
def cd(d:Da):List af->St->St×Nat
 | [],s=>(s,0)
 | x::w,s=>if(ef s x d).2 then((cd d w (ef s x d).1).1,(cd d w (ef s x d).1).2+1) else(s,0)
def GD(d:Da):∀(w:List af) (s:St),(cd d w s).2<=w.length
 | [],s=>acw _
 | x::w,s=>by
  have:=GD d w (ef s x d).1;simp only[cd,aaj];split
  .simp only;omega
  .simp
def GF{d:Da}(hd:d.ok):∀(w:List af) (s:St),s.ok->(∀x∈w,x.k<4294967296)->(cd d w s).1.ok
 | [],s,a,_=>a
 | x::w,s,a,b=>by
  have:=GF hd w (ef s x d).1 (IT a (b x ir) hd) (λy c=>b y (by simp[c]));simp only[cd];split
  .exact this
  .exact a
def eZ(s:St)(d:Da):List Nat:=s.a::s.x::(s.m++iV d)
def vV(v:List Nat):St:=⟨v.getD 0 0,v.getD 1 0,(v.drop 2).take 16⟩
def Zt{s:St}{d:Da}(a:s.ok)(hd:d.ok):(eZ s d).length=34:=by simp[eZ,a.2.2.1,Ao hd.2.2.2.1]
def zyw{s:St}{d:Da}(b:s.ok)(hd:d.ok):∀x∈eZ s d,x<4294967296:=by
 intro x a;simp only[eZ,aai,aar] at a
 rcases a with rfl|rfl|a|a
 .exact b.1
 .exact b.2.1
 .exact b.2.2.2 x a
 .exact YV hd x a
def uD(v:List Nat)(i:Nat):List Nat:=(v.drop 18).take i++aP (16-i)
def SW{v:List Nat}(a:v.length=34){i:Nat}(hi:i<=16):(uD v i).length=16:=by simp[uD,a];omega
def Zu{v:List Nat}(b:∀x∈v,x<4294967296)(i:Nat):∀x∈uD v i,x<4294967296:=by
 intro x a;simp only[uD,aar,aP,acj] at a
 rcases a with a|a
 .exact b x (aao (aaG a))
 .omega
def zGw{v:List Nat}(c:v.length=34){i:Nat}(hi:i<16):(uD v i).set i (v[18+i]' an)=uD v (i+1):=by
 apply abe;intro j
 have d:∀i,i<=16->∀j,(uD v i)[j]?=if j<i then v[18+j]? else if j<16 then some 0 else none:=by
  intro i hi j;rw[uD,ab8,aax,aay,c,abP,abQ]
  by_cases a:j<i
  .rw[if_pos an,if_pos a,if_pos a]
  .rw[if_neg an,if_neg a]
   by_cases b:j<16
   .rw[if_pos b];simp[aP,aa3];omega
   .rw[if_neg b];simp[aP,aa3];omega
 rw[aaO,SW c an,d i an,d (i+1) an]
 by_cases e:i=j
 .subst e;rw[if_pos rfl,if_pos hi,if_pos an,aae an]
 .rw[if_neg e]
  by_cases a:j<i
  .rw[if_pos a,if_pos an]
  .rw[if_neg a]
   by_cases b:j<i+1
   .omega
   .rw[if_neg b]
def zDW{v:List Nat}(a:v.length=34)(b:∀x∈v,x<4294967296){i:Nat}(hi:i<16):OJ (mP (uD v i)) (4*i) (v[18+i]' an)=mP (uD v (i+1)):=by rw[OJ,if_pos ⟨an,an⟩,zDV (SW a an) (Zu b i),show 4*i/4=i by omega,zGw a hi]
def zH5{v:List Nat}(a:v.length=34):uD v 16=v.drop 18:=by rw[uD,show aP (16-16)=[] from rfl,acG,aaY (by simp[a])]
def zM3(v:List Nat):uD v 0=aP 16:=by simp[uD]
def zBz{s:St}{d:Da}(a:s.ok):(eZ s d).drop 18=iV d:=by simp only[eZ,abK];rw[List.drop_left' a.2.2.1]
def Zv{v:List Nat}(c:v.length=34)(a:∀x∈v,x<4294967296):(vV v).ok:=by
 have b:∀i,v.getD i 0<4294967296:=by
  intro i;rw[aas]
  cases h:v[i]? with
  | none=>decide
  | some z=>exact a z (aaW h)
 exact⟨b 0,b 1,by simp[vV,c],λx d=>a x (aao (aaG d))⟩
def Ar(x:af)(j i:Nat):Bool:=if x.op=5 then decide (j+1+x.k=i) else aX x.op&&(decide (j+1+x.jt.toNat=i)||decide (j+1+x.jf.toNat=i))
def rJ(f:List af)(m i:Nat):Bool:=(aba m).any λj=>Ar (f.getD j vT) j i
def iW(f:List af)(m:Nat):List Bool:=(aba f.length).map (rJ f m)
def SX(f:List af)(m:Nat):(iW f m).length=f.length:=by simp[iW]
def Zw(f:List af)(m i:Nat):rJ f (m+1) i=(rJ f m i||Ar (f.getD m vT) m i):=by simp[rJ,aaI,List.any_append]
def Lb(f:List af)(m i:Nat)(h:i<f.length):(iW f m)[i]?=some (rJ f m i):=by simp[iW,h]
def Zx(f:List af)(m:Nat)(l:List Bool)(a:l.length=f.length)(h:∀i,i<f.length->l[i]?=some (rJ f (m+1) i)):l=iW f (m+1):=by
 refine abe λi=>?_
 by_cases hi:i<f.length
 .rw[h i hi,Lb _ _ _ hi]
 .rw[abi an,abi (by rw[SX];omega)]
def Zy:∀l:List Bool,pZ 1 l.length (cb l)=oC l
 | []=>rfl
 | x::l=>by
  have:=Zy l;simp only[cb] at this;simp[pZ,cb,oC,this]
def zrA[aA G][eK G](f:List af)(l:dE f=true)(D:∀x∈f,x.k<4294967296):FP G 204 [FL f] (.vs (oC (iW f f.length)) .no):=by
 refine bt eK.aeX (aad rfl) ?_
 have O:f.length<=4096:=by simp only[dE,aaf,decide_eq_true_eq] at l;exact l.1.1
 simp(disch:=omega)[FL,az];refine aM f.length (λm=>[(3,.rs 0 0 f.length 1),(9,FL f),(10,.int .i64 f.length),(11,.int .i64 m)]) (λm=>[some (.cells (cb (iW f m)))]) (λ_=>True) ?_ ?_
 .have:iW f 0=abp f.length false:=by
   refine abe λi=>?_
   by_cases hi:i<f.length
   .rw[Lb _ _ _ hi,List.getElem?_replicate_of_lt hi];rfl
   .rw[abi (by rw[SX];omega),abi (by simp;omega)]
  simp[aw,ak,FL,this]
 intro m P _;have a:=SX f m
 by_cases d:m<f.length
 .obtain⟨x,g⟩:=bb (f[m]);have z:=rG d;rw[<-g] at z;have g:=g.symm
  have s:f[m]?=some x:=by rw[aae d,g]
  have t:f.getD m vT=x:=by rw[aas,s];rfl
  have E:=D x (g▸aag d);have n:=An (G:=G) x;have A:x.cs=[.int .i64 x.op,.int .i64 x.jt,.int .i64 x.jf,.int .u32 (x.k:Int)]:=rfl;simp[IV,A] at n;have F:=OH l s;have u:=λo=>Gz (o:=o) l s;have B:aD .i64 (m:Int) 1=((m+1:Nat):Int):=bD an;have H:=Eu x.k E;simp(disch:=omega)[FL,bC,z,A]
  by_cases b:x.op=5
  .have v:(x.op==5)=true:=by simp[b]
   have I:aX x.op=false:=by rw[b];decide
   have Q:=u x.k (by simp[aW,b,show gu 5=false by decide]);have w:aD .i64 ((m+1:Nat):Int) (x.k:Int)=((m+1+x.k:Nat):Int):=rj an;have c:=SR (iW f m) (m+1+x.k) true an
   have j:(iW f m).set (m+1+x.k) true=iW f (m+1):=by
    refine Zx f m _ (by simp[a]) λi hi=>?_;rw[aaO,Lb _ _ _ hi,Zw,t]
    by_cases q:m+1+x.k=i
    .subst q;simp[Ar,b,a,hi]
    .simp[Ar,b,q]
   rw[I] at n;rw[j] at c;simp(disch:=omega)[v,B,w,H,a,gS,az,c,-aab];refine au n ?_;simp(disch:=omega)[d,bD,aw,ak,-aab]
  .have v:(x.op==5)=false:=aF b;simp(disch:=omega)[v,-aab];refine au n ?_;cases e:aX x.op
   .have j:iW f m=iW f (m+1):=by refine Zx f m _ a λi hi=>?_;rw[Lb _ _ _ hi,Zw,t];simp[Ar,b,e]
    rw[j];simp(disch:=omega)[d,bD,aw,ak,-aab]
   .obtain⟨R,S,T,U⟩:=F e
    have r:gu x.op=false:=by
     have y:∀p∈[21,37,53,69,29,45,61,(77:Int)],gu p=false:=by decide
     exact y _ (by simpa[aX] using e)
    have J:=u x.jt.toNat (by simp[aW,r,b,e]);have K:=u x.jf.toNat (by simp[aW,r,b,e])
    have w:aD .i64 ((m+1:Nat):Int) x.jt=((m+1+x.jt.toNat:Nat):Int):=by rw[eG]<;>omega
    have L:aD .i64 ((m+1:Nat):Int) x.jf=((m+1+x.jf.toNat:Nat):Int):=by rw[eG]<;>omega
    have c:=SR (iW f m) (m+1+x.jt.toNat) true an;have C:=SR ((iW f m).set (m+1+x.jt.toNat) true) (m+1+x.jf.toNat) true (by rw[ab0];omega)
    have j:((iW f m).set (m+1+x.jt.toNat) true).set (m+1+x.jf.toNat) true=iW f (m+1):=by
     refine Zx f m _ (by simp[a]) λi hi=>?_;rw[aaO,aaO,Lb _ _ _ hi,Zw,t]
     by_cases q:m+1+x.jt.toNat=i<;>by_cases M:m+1+x.jf.toNat=i<;>simp[Ar,b,e,q,M,a,hi]
    rw[j] at C;simp(maxSteps:=20000) (disch:=omega)[B,w,L,-aab];simp[J,a,-aab];simp(disch:=omega)[az,c,-aab];simp[K,-aab];simp(disch:=omega)[a,az,C,-aab];simp(disch:=omega)[d,bD,aw,ak,-aab]
 .have r:m=f.length:=an
  subst r
  have N:pZ 1 f.length (cb (iW f f.length))=oC (iW f f.length):=by have h:=Zy (iW f f.length);rw[a] at h;exact h
  simp(disch:=omega)[a,N]
def BN(f:List af)(a m:Nat):Bool:=(aba m).all λj=>!rJ f f.length (a+1+j)
def zzY(f:List af)(a m:Nat):BN f a (m+1)=(BN f a m&&!rJ f f.length (a+1+m)):=by simp[BN,aaI,List.all_append]
def zxH{f:List af}{a m n:Nat}(h:rJ f f.length (a+1+m)=true)(b:m<n):BN f a n=false:=by rw[<-aaD,BN,aa2];intro c;have:=c m (abt.2 b);rw[h] at this;cases this
def sQ(f:List af)(a n:Nat):Bool:=aY ((f.drop a).take n)&&BN f a (n-1)
def BO(f:List af)(a n:Int):Bool:=decide (0<=a/\1<=n/\a<f.length/\n<=f.length-a)
def vb(f:List af)(a n:Int):Bool:=BO f a n&&sQ f a.toNat n.toNat
def BP(f:List af)(a n:Int):Bool:=dE f&&vb f a n
def Lc{f:List af}(a:dE f=true):f.length<=4096:=by simp only[dE,aaf,decide_eq_true_eq] at a;exact a.1.1
def OL{f:List af}(b:∀x∈f,x.k<4294967296)(a n:Nat):∀x∈(f.drop a).take n,x.k<4294967296:=λx c=>b x (aao (aaG c))
def zyx[aA G][aB G][aO G][eK G](f:List af)(a n:Int)(t:dE f=true)(u:∀x∈f,x.k<4294967296) :
  FP G 205 [FL f,.vs (oC (iW f f.length)) .no,.int .i64 a,.int .i64 n] (.bool (vb f a n)):=by
 refine bt eK.aeY (aad rfl) ?_;have F:=Lc t
 have H:maxLen=9223372036854775807:=by decide
 by_cases b:a<0
 .have:vb f a n=false:=by simp[vb,BO,show¬0<=a by omega]
  simp[b,this]
 by_cases c:n<1
 .have:vb f a n=false:=by simp[vb,BO,show¬1<=n by omega]
  simp[b,c,this]
 by_cases d:(f.length:Int)<=a
 .have:vb f a n=false:=by simp[vb,BO,show¬a<f.length by omega]
  simp[b,c,d,FL,this]
 have p:bP .i64 (f.length:Int) a=(f.length:Int)-a:=by rw[nQ]<;>omega
 by_cases g:(f.length:Int)-a<n
 .have:vb f a n=false:=by simp[vb,BO,show¬n<=f.length-a by omega]
  simp[b,c,d,g,p,FL,this]
 have v:BO f a n=true:=by simp only[BO,decide_eq_true_eq];omega
 obtain⟨a,rfl⟩:=aa4 (show 0<=a by omega);obtain⟨n,rfl⟩:=aa4 (show 0<=n by omega)
 have w:vb f (a:Int) (n:Int)=sQ f a n:=by simp[vb,v]
 rw[w];have b:((a:Int)<0)=False:=eq_false b;have y:((n:Int)<1)=False:=eq_false c;have c:(n=0)=False:=ag6;have d:((f.length:Int)<=(a:Int))=False:=eq_false d;have g:((f.length:Int)-(a:Int)<(n:Int))=False:=eq_false g
 have I:a+n<=f.length:=an
 have h:aD .i64 (a:Int) (n:Int)=((a+n:Nat):Int):=rj an;have z:aD .i64 (a:Int) 1=((a+1:Nat):Int):=bD an;have q:=BE (G:=G) ((f.drop a).take n) (by rw[aax];omega) (OL u a n)
 have A:List.take n (List.drop a (IL f))=IL ((f.drop a).take n):=by rw[Za,Zb]
 have J:=SX f f.length;simp only[FL] at q;simp(disch:=omega)[b,y,d,g,p,FL,h,az,A,-aab];refine au q ?_;cases e:aY ((f.drop a).take n)
 .simp[sQ,e]
 have B:sQ f a n=BN f a (n-1):=by simp[sQ,e]
 rw[B];simp[z,-aab];refine aM (n-1) (λj=>[(1,.vs (oC (iW f f.length)) .no),(2,.int .i64 a),(3,.int .i64 n),(9,.int .i64 ((a+1+j:Nat):Int))]) (λ_=>[]) (λj=>BN f a j=true) ?_ ?_
 .simp[aw,ak,BN]
 intro j K r
 by_cases s:j<n-1
 .have i:((a+1+j:Nat):Int)<((a+n:Nat):Int):=an
  have o:=Lb f f.length (a+1+j) an;obtain⟨_,l⟩:=aah.1 o;have C:aD .i64 ((a+1+j:Nat):Int) 1=((a+1+(j+1):Nat):Int):=bD an;cases m:rJ f f.length (a+1+j)
  .rw[m] at o l
   have D:BN f a (j+1)=true:=by rw[zzY,r,m];rfl
   simp(disch:=omega)[h,bC i,l,s,C,D,aw,ak,-aab]
  .rw[m] at o l;have:=zxH m s;simp(disch:=omega)[h,bC i,l,this,-aab]
 .have E:j=n-1:=an
  subst E
  have i:¬((a+1+(n-1):Nat):Int)<((a+n:Nat):Int):=an
  simp[h,kQ i,r,-aab]
def zGx[aA G][aB G][aO G][eK G](f:List af)(a n:Int)(d:f.length<=maxLen)(c:∀x∈f,x.k<4294967296) :
  FP G 206 [FL f,.int .i64 a,.int .i64 n] (.bool (BP f a n)):=by
 refine bt eK.aeZ (aad rfl) ?_;have e:=Oz (G:=G) f d c;simp;refine au e ?_;cases b:dE f
 .simp[BP,b]
 .simp;refine au (zrA f b c) ?_;simp;refine au (zyx f a n b c) ?_;simp[BP,b]
def dX(a e b i d:Nat):Nat:=if i<a/\e<=i+1+d then d-b else d
def dY(a e b i:Nat)(x:af):af:=if x.op=5 then{ x with k:=dX a e b i x.k } else if aX x.op then{ x with jt:=(dX a e b i x.jt.toNat:Nat),jf:=(dX a e b i x.jf.toNat:Nat) } else x
def pre(f:List af)(a e b m:Nat):List af:=(aba m).map λi=>dY a e b i (f.getD i vT)
def fi(f:List af)(a n:Nat)(w:List af):List af:=pre f a (a+n) (n-w.length) a++w++f.drop (a+n)
def SY(f:List af)(a n:Int)(w:List af):Bool:=BP f a n&&aY w&&decide ((w.length:Int)<=n)
def yW(f:List af)(a n:Nat)(w:List af)(i:Nat):List af :=
 if i<=a then pre f a (a+n) (n-w.length) i else pre f a (a+n) (n-w.length) a++w++(f.take i).drop (a+n)
def zDX(f:List af)(a e b m:Nat):pre f a e b (m+1)=pre f a e b m++[dY a e b m (f.getD m vT)]:=by simp[pre,aaI]
def GG(f:List af)(a e b m:Nat):(pre f a e b m).length=m:=by simp[pre]
def zBA{f:List af}{a n:Nat}{w:List af}{i:Nat}(hi:i<=f.length)(b:w.length<=32):(yW f a n w i).length<=i+32:=by
 unfold yW;split
 .rw[GG];omega
 .simp only[aal,GG,aay,aax];omega
def zBB{f:List af}{a n:Nat}{w:List af}(h:a+n<=f.length)(b:0<n):yW f a n w f.length=fi f a n w:=by rw[yW,if_neg an,aaL,fi]
def zGy[eK G](a e b i d:Nat)(z:ax)(y:List V)(hi:i<=5000)(hd:d<4294967296)(m:b<=d+5000)(g:i<a->e<=i+1+d->b<=d) :
  bE G (.F 207 [.int .i64 i,.int .i64 d,.ptr 0 0,.ptr 1 0,.ptr 2 0] [some (.cells [.int .i64 a]),some (.cells [.int .i64 e]),some (.cells [.int .i64 b]),some z,some (.cells y)] (.int .i64 (dX a e b i d:Nat))
   [some (.cells [.int .i64 a]),some (.cells [.int .i64 e]),some (.cells [.int .i64 b]),some z,some (.cells y)]):=by
 refine fh eK.ae0 (aad rfl) ?_;have j:aD .i64 (i:Int) 1=((i+1:Nat):Int):=bD an;have k:aD .i64 ((i+1:Nat):Int) (d:Int)=((i+1+d:Nat):Int):=rj an
 by_cases c:i<a
 .by_cases l:e<=i+1+d
  .have f:bP .i64 (d:Int) (b:Int)=((dX a e b i d:Nat):Int):=by
    have:=g c l
    rw[dX,if_pos ⟨c,l⟩,nQ]<;>omega
   have h:((e:Int)<=((i+1+d:Nat):Int))=True:=ag5;simp[c,j,k,h,f,-aab]
  .have f:dX a e b i d=d:=by rw[dX,if_neg an]
   have h:((e:Int)<=((i+1+d:Nat):Int))=False:=ag6;simp[c,j,k,h,f,-aab]
 .have f:dX a e b i d=d:=by rw[dX,if_neg an]
  simp[c,f]
def zH6[aA G][aB G][aO G][eK G](f w:List af)(a n:Nat)(hf:f.length<=maxLen)(hw:w.length<=maxLen)(W:∀x∈f,x.k<4294967296)(nC:∀x∈w,x.k<4294967296)(h:SY f a n w=true) :
  FP G 208 [FL f,.int .i64 a,.int .i64 n,FL w] (.a_ [.vs (IL (fi f a n w)) .no,.int .i64 0]):=by
 refine bt eK.ae1 (aad rfl) ?_;have I:=zGx (G:=G) f a n hf W;have J:=BE (G:=G) w hw nC;simp only[SY,aaf,decide_eq_true_eq] at h;obtain⟨⟨E,F⟩,h3⟩:=h;rw[E] at I;rw[F] at J;simp only[BP,vb,BO,aaf,decide_eq_true_eq] at E;obtain⟨X,⟨_,i2,i3,i4⟩,kX⟩:=E;simp only[abw] at kX;have Y:=Lc X
 have qB:w.length<=32:=by simp only[aY,aaf,decide_eq_true_eq] at F;exact F.1
 have qO:a+n<=f.length:=an
 have OM:((n:Int)<(w.length:Int))=False:=ag6;have aa:aD .i64 (a:Int) (n:Int)=((a+n:Nat):Int):=rj an
 have ss:bP .i64 (n:Int) (w.length:Int)=((n-w.length:Nat):Int):=by rw[nQ]<;>omega
 simp only[FL] at I J;simp[FL];refine au I ?_;simp;refine au J ?_;simp[OM,aa,ss,-aab];obtain⟨T,m⟩:∃T:Nat->List af,∀j,T j=yW f a n w j:=⟨_,λ_=>rfl⟩
 have wM:T 0=[]:=by rw[m,yW,if_pos an];rfl
 refine aM f.length (λi=>[(3,FL w),(5,.ptr 0 0),(10,.ptr 1 0),(12,.fn 207 [.ptr 0 0,.ptr 1 0,.ptr 2 0]),(13,.vs (IL (T i)) (.own 3)),(40,FL f),(41,.int .i64 f.length),(42,.int .i64 i)])
  (λi=>[some (.cells [.int .i64 a]),some (.cells [.int .i64 ((a+n:Nat):Int)]),some (.cells [.int .i64 ((n-w.length:Nat):Int)]),some (.zone (T i).length)]) (λ_=>True) ?_ ?_
 .simp[aw,ak,FL,wM]
 intro i hi _
 by_cases e:i<f.length
 .have ng:(T i).length<=i+32:=by rw[m];exact zBA hi qB
  obtain⟨x,B⟩:=bb (f[i]);have p:=rG e;rw[<-B] at p;have B:=B.symm
  have K:f[i]?=some x:=by rw[aae e,B]
  have hD:f.getD i vT=x:=by rw[aas,K];rfl
  have mw:x∈f:=B▸aag e;have H:=W x mw;have L:=OH X K;have q:x.cs=[.int .i64 x.op,.int .i64 x.jt,.int .i64 x.jf,.int .u32 (x.k:Int)]:=rfl;have M:=An (G:=G) x;simp[IV,q] at M;have ON:((a:Int)<=(i:Int))=(a<=i):=propext an
  by_cases Z:i=a
  .have r:((i:Int)==(a:Int))=true:=by simp[Z]
   have v:T (i+1)=T i++w:=by rw[m,m,yW,yW,if_neg an,if_pos an,Z];rw[aby (by rw[aax];omega)];simp
   have s:(T (i+1)).length=(T i).length+w.length:=by rw[v];simp
   have t:((i:Int)<((a+n:Nat):Int))=True:=ag5;have l:((a:Int)<=(i:Int))=True:=ag5
   have b:IL (T i)++IL w=IL (T (i+1)):=by rw[zBh,v]
   by_cases D7:w=[]
   .subst D7
    have C:T (i+1)=T i:=by rw[v];simp
    simp(disch:=omega)[bC,FL,p,q,r,t,l,C,e,bD,aw,ak,-aab]
   .simp(disch:=omega)[bC,FL,p,q,r,t,l,SG,D7,az,b,s,e,bD,aw,ak,-aab]
  have r:((i:Int)==(a:Int))=false:=aF an
  by_cases ha:a<=i/\i<a+n
  .have C:T (i+1)=T i:=by rw[m,m,yW,yW,if_neg an,if_neg an];rw[aby (by rw[aax];omega),aby (by rw[aax];omega)]
   have t:((i:Int)<((a+n:Nat):Int))=True:=ag5;have l:((a:Int)<=(i:Int))=True:=ag5;simp(disch:=omega)[bC,FL,p,q,r,t,l,C,e,bD,aw,ak,-aab]
  have v:T (i+1)=T i++[dY a (a+n) (n-w.length) i x]:=by
   rw[m,m]
   by_cases ud:i<a
   .rw[yW,yW,if_pos an,if_pos an,zDX,hD]
   .have BQ:∀d,dX a (a+n) (n-w.length) i d=d:=λd=>by rw[dX,if_neg an]
    have Ld:dY a (a+n) (n-w.length) i x=x:=by
     unfold dY;simp only[BQ];obtain⟨op,jt,jf,k⟩:=x
     by_cases c:op=5
     .simp[c]
     .cases o:aX op
      .simp[c]
      .obtain⟨N,O,P,Q⟩:=L o;simp only at N O P Q;simp[c];omega
    have kP:(f.take (i+1)).drop (a+n)=(f.take i).drop (a+n)++[x]:=by rw[aaw,K,aci,List.drop_append_of_le_length (by rw[aax];omega)]
    rw[Ld,yW,yW,if_neg an,kP]
    by_cases Zz:i<=a
    .omega
    .rw[if_neg Zz,<-aaX]
  have s:(T (i+1)).length=(T i).length+1:=by rw[v];simp
  have z:∀d:Nat,d<4294967296->_:=λd hd=>zGy (G:=G) a (a+n) (n-w.length) i d (.zone (T i).length) x.cs an hd an (λE F=>by omega)
  have xR:∀d:Nat,dX a (a+n) (n-w.length) i d<=d:=λd=>by unfold dX;split<;>omega
  have A:∀y:af,y=dY a (a+n) (n-w.length) i x->IL (T i)++[y.cs]=IL (T (i+1)):=λy hy=>by rw[v,hy];exact Om _ _
  by_cases hb:a<=i
  .have l:((a:Int)<=(i:Int))=True:=ag5;have t:((i:Int)<((a+n:Nat):Int))=False:=ag6
   by_cases c:x.op=5
   .have u:(x.op==5)=true:=by simp[c]
    have R:=Eu x.k H;have g:=z x.k H
    have S:eP .u32 ((dX a (a+n) (n-w.length) i x.k:Nat):Int)=((dX a (a+n) (n-w.length) i x.k:Nat):Int):=by unfold eP;exact sG (by have:=xR x.k;omega)
    have b:=A ⟨x.op,x.jt,x.jf,dX a (a+n) (n-w.length) i x.k⟩ (by simp[dY,c]);simp only[af.cs] at g b;simp(disch:=omega)[bC,FL,p,q,r,l,t,u,R,-aab];refine kY g ir ?_;simp(disch:=omega)[ak,S,az,b,s,e,bD,aw,-aab]
   have u:(x.op==5)=false:=aF c;simp(disch:=omega)[bC,FL,p,q,r,l,t,u,-aab];refine au M ?_;cases o:aX x.op
   .have b:=A x (by simp[dY,c,o]);simp only[af.cs] at b;simp(disch:=omega)[az,b,s,e,bD,aw,ak,-aab]
   .obtain⟨N,O,P,Q⟩:=L o;have g:=z x.jt.toNat an;have D:=z x.jf.toNat an;have b:=A ⟨x.op,(dX a (a+n) (n-w.length) i x.jt.toNat:Nat),(dX a (a+n) (n-w.length) i x.jf.toNat:Nat),x.k⟩ (by simp[dY,c,o])
    have U:((x.jt.toNat:Nat):Int)=x.jt:=an
    have V:((x.jf.toNat:Nat):Int)=x.jf:=an
    simp only[af.cs,U,V] at g D b;simp;refine kY g (by simp[ak]) ?_;simp[ak];refine kY D (by simp[ak]) ?_;simp(disch:=omega)[ak,az,b,s,e,bD,aw,-aab];omega
  .have l:((a:Int)<=(i:Int))=False:=ag6
   by_cases c:x.op=5
   .have u:(x.op==5)=true:=by simp[c]
    have R:=Eu x.k H;have g:=z x.k H
    have S:eP .u32 ((dX a (a+n) (n-w.length) i x.k:Nat):Int)=((dX a (a+n) (n-w.length) i x.k:Nat):Int):=by unfold eP;exact sG (by have:=xR x.k;omega)
    have b:=A ⟨x.op,x.jt,x.jf,dX a (a+n) (n-w.length) i x.k⟩ (by simp[dY,c]);simp only[af.cs] at g b;simp(disch:=omega)[bC,FL,p,q,r,l,u,R,-aab];refine kY g ir ?_;simp(disch:=omega)[ak,S,az,b,s,e,bD,aw,-aab]
   have u:(x.op==5)=false:=aF c;simp(disch:=omega)[bC,FL,p,q,r,l,u,-aab];refine au M ?_;cases o:aX x.op
   .have b:=A x (by simp[dY,c,o]);simp only[af.cs] at b;simp(disch:=omega)[az,b,s,e,bD,aw,ak,-aab]
   .obtain⟨N,O,P,Q⟩:=L o;have g:=z x.jt.toNat an;have D:=z x.jf.toNat an;have b:=A ⟨x.op,(dX a (a+n) (n-w.length) i x.jt.toNat:Nat),(dX a (a+n) (n-w.length) i x.jf.toNat:Nat),x.k⟩ (by simp[dY,c,o])
    have U:((x.jt.toNat:Nat):Int)=x.jt:=an
    have V:((x.jf.toNat:Nat):Int)=x.jf:=an
    simp only[af.cs,U,V] at g D b;simp;refine kY g (by simp[ak]) ?_;simp[ak];refine kY D (by simp[ak]) ?_;simp(disch:=omega)[ak,az,b,s,e,bD,aw,-aab];omega
 .have ay:i=f.length:=an
  subst ay
  have C:T f.length=fi f a n w:=by rw[m,zBB qO an]
  simp[C]
abbrev Pc:=Nat×Nat
def pr(c:Nat->Bool)(a k j:Nat):List Pc:=(aba j).flatMap λi=>if c (k-i) then [(a,k-i)] else []
def Le(c:Nat->Bool)(a k j:Nat):pr c a k (j+1)=pr c a k j++(if c (k-j)=true then [(a,k-j)] else []):=by simp[pr,aaI,abJ]
def SZ(c:Nat->Bool)(a:Nat):∀(d k:Nat),(∀m,k<m->m<=k+d->c m=false)->∀j,pr c a (k+d) (d+j)=pr c a k j
 | 0,k,_,j=>by simp
 | d+1,k,h,0=>by
  have:=SZ c a d (k+1) (λm e f=>h m an an) 1;rw[show k+(d+1)=k+1+d by omega,show d+1+0=d+1 by omega,this]
  simp[pr,h (k+1) an an]
 | d+1,k,h,j+1=>by
  have b:=SZ c a (d+1) k h j;rw[show d+1+(j+1)=(d+1+j)+1 by omega,Le,b,Le];rw[show k+(d+1)-(d+1+j)=k-j by omega]
def ZA(c:Nat->Bool)(a k:Nat):∀j,(pr c a k j).length<=j
 | 0=>by simp[pr]
 | j+1=>by
  rw[Le,aal];have:=ZA c a k j
  split<;>simp<;>omega
def rK(f:List af)(most:Int)(a m:Nat):Bool:=decide ((m:Int)<=most)&&decide ((m:Int)<=f.length-a)&&BP f a m
def rows(f:List af)(most:Int)(a:Nat):List Pc:=(aba a).flatMap λb=>pr (rK f most b) b 32 31
def S3(f:List af)(most:Int)(a:Nat):rows f most (a+1)=rows f most a++pr (rK f most a) a 32 31:=by simp[rows,aaI,abJ]
def ZB(f:List af)(most:Int):∀a,(rows f most a).length<=31*a
 | 0=>by simp[rows]
 | a+1=>by
  rw[S3,aal];have:=ZB f most a;have:=ZA (rK f most a) a 32 31;omega
def zyy{c:Nat->Bool}(h:∀m,c m=false)(a k:Nat):∀j,pr c a k j=[]
 | 0=>rfl
 | j+1=>by rw[Le,zyy h a k j,h];rfl
def ztS{f:List af}(h:dE f=false)(most:Int):∀a,rows f most a=[]
 | 0=>rfl
 | a+1=>by rw[S3,ztS h most a,zyy (λm=>by simp[rK,BP,h])];rfl
def zH7{f:List af}{most:Int}{a:Nat}(k:Int)(g:k=min most (min ((f.length:Int)-a) 32)):pr (rK f most a) a 32 31=pr (rK f most a) a k.toNat (k.toNat-1):=by
 by_cases e:k<1
 .have:∀m,1<=m->m<=32->rK f most a m=false:=by
   intro m d b
   by_cases c:(m:Int)<=most
   .have:¬(m:Int)<=f.length-a:=an
    simp[rK,this]
   .simp[rK,c]
  have b:=SZ (rK f most a) a 31 1 (λm d e=>this m an an) 0;simp only[Nat.add_zero] at b;rw[show k.toNat-1=0 by omega,b];rfl
 .have b:=SZ (rK f most a) a (32-k.toNat) k.toNat (λm d b=>by
   by_cases c:(m:Int)<=most
   .have:¬(m:Int)<=f.length-a:=an
    simp[rK,this]
   .simp[rK,c]) (k.toNat-1)
  rw[show k.toNat+(32-k.toNat)=32 by omega,show 32-k.toNat+(k.toNat-1)=31 by omega] at b;exact b
def wO(l:List Pc):List (List V):=l.map λp=>[.int .i64 (p.1:Int),.int .i64 (p.2:Int)]
@[simp] theorem zH8 (l:List Pc):(wO l).length=l.length:=by simp[wO]
@[simp] theorem zNx:wO []=[]:=rfl
@[simp] theorem zrB (l:List Pc) (a m:Nat):wO l++[[V.int .i64 (a:Int),.int .i64 (m:Int)]]=wO (l++[(a,m)]):=by simp[wO]
@[simp] theorem zNy (l:List Pc) (i:Nat):(wO l)[i]?=(l[i]?).map λp=>[.int .i64 (p.1:Int),.int .i64 (p.2:Int)]:=by simp[wO]
@[simp] theorem zNR (l:List Pc):(∀f∈wO l,f.length=2)=True:=by simp only[eq_iff_iff,iff_true];intro f a;simp only[wO,aan] at a;obtain⟨x,_,rfl⟩:=a;rfl
theorem zBC[aA G][aB G][aO G][eK G](f:List af)(most:Int)(p:f.length<=maxLen)(g:∀x∈f,x.k<4294967296)(I:-9223372036854775808<=most/\most<=9223372036854775807) :
  FP G 209 [FL f,.int .i64 most] (.vs (wO (rows f most f.length)) .no):=by
 refine bt eK.ae2 (aad rfl) ?_;have q:=Oz (G:=G) f p g;simp;refine au q ?_;cases d:dE f
 .rw[ztS d];simp
 have J:=Lc d;simp;refine au (zrA f d g) ?_;simp[FL];refine aM f.length (λa=>[(0,FL f),(1,.int .i64 most),(5,.vs (oC (iW f f.length)) .no),(6,.vs (wO (rows f most a)) (.own 0)),(15,.int .i64 f.length),(16,.int .i64 a)]) (λa=>[some (.zone (rows f most a).length)]) (λ_=>True) ?_ ?_
 .simp[aw,ak,FL,rows]
 intro a K _;have L:=ZB f most a
 by_cases r:a<f.length
 .obtain⟨k,s⟩:∃k,k=min most (min ((f.length:Int)-a) 32):=⟨_,rfl⟩;have t:=zH7 k s
  have u:bP .i64 (f.length:Int) (a:Int)=(f.length:Int)-a:=by rw[nQ]<;>omega
  have v:(if 32<if(f.length:Int)-(a:Int)<most then(f.length:Int)-(a:Int) else most then 32 else if(f.length:Int)-(a:Int)<most then(f.length:Int)-(a:Int) else most)=k:=an
  simp(disch:=omega)[bC,FL,u,sD,MD,v,-aab];obtain⟨T,b⟩:∃T:Nat->List Pc,∀j,T j=rows f most a++pr (rK f most a) a k.toNat j:=⟨_,λ_=>rfl⟩
  have w:T 0=rows f most a:=by rw[b];simp[pr]
  refine aM (k.toNat-1) (λj=>[(0,FL f),(1,.int .i64 most),(5,.vs (oC (iW f f.length)) .no),(6,.vs (wO (T j)) (.own 0)),(7,.int .i64 a),(8,.int .i64 (k-j)),(15,.int .i64 f.length),(16,.int .i64 a)])
   (λj=>[some (.zone (T j).length)]) (λ_=>True) ?_ ?_
  .simp[aw,ak,FL,w]
  intro j M _;have N:=ZA (rK f most a) a k.toNat j
  have O:(T j).length<=31*a+j:=by rw[b,aal];omega
  have c:=Le (rK f most a) a k.toNat j
  by_cases l:j<k.toNat-1
  .have P:(2:Int)<=k-j:=an
   have y:k-(j:Int)=((k.toNat-j:Nat):Int):=an
   have m:=zyx (G:=G) f a ((k.toNat-j:Nat):Int) d g
   have n:bP .i64 ((k.toNat-j:Nat):Int) 1=k-((j+1:Nat):Int):=by rw[nQ]<;>omega
   have h:((2:Int)<=((k.toNat-j:Nat):Int))=True:=ag5
   have z:rK f most a (k.toNat-j)=vb f a ((k.toNat-j:Nat):Int):=by
    have A:((k.toNat-j:Nat):Int)<=most:=an
    have B:((k.toNat-j:Nat):Int)<=f.length-a:=an
    simp[rK,A,B,BP,d]
   simp only[FL] at m;rw[z] at c;rw[y];simp(disch:=omega)[h,FL,-aab];refine au m ?_;cases e:vb f a ((k.toNat-j:Nat):Int)
   .rw[e] at c
    have C:T (j+1)=T j:=by rw[b,b,c];simp
    simp(disch:=omega)[n,l,C,aw,ak,-aab]
   .rw[e] at c;simp only[if_true] at c
    have o:T (j+1)=T j++[(a,k.toNat-j)]:=by rw[b,b,c,aaX]
    have D:(T (j+1)).length=(T j).length+1:=by rw[o];simp
    have E:wO (T j)++[[V.int .i64 (a:Int),.int .i64 ((k.toNat-j:Nat):Int)]]=wO (T (j+1)):=by rw[zrB,o]
    simp(disch:=omega)[az,E,D,n,l,aw,ak,-aab,-zrB]
  .have i:j=k.toNat-1:=an
   subst i;have F:((2:Int)<=k-((k.toNat-1:Nat):Int))=False:=ag6
   have H:T (k.toNat-1)=rows f most (a+1):=by rw[b,<-t,<-S3]
   rw[H];simp(disch:=omega)[F,r,bD,aw,ak,FL,-aab]
 .have i:a=f.length:=an
  subst i;simp
def IY(t:Tk)(l:List Pc):List (List V):=l.map λp=>[.vs [[.int .i64 (p.1:Int)],[.int .i64 (p.2:Int)]] t]
@[simp] theorem zH9 (t:Tk) (l:List Pc):(IY t l).length=l.length:=by simp[IY]
@[simp] theorem zNz (t:Tk):IY t []=[]:=rfl
@[simp] theorem zNA (t:Tk) (l:List Pc) (i:Nat):(IY t l)[i]?=(l[i]?).map λp=>[.vs [[.int .i64 (p.1:Int)],[.int .i64 (p.2:Int)]] t]:=by simp[IY]
@[simp] theorem zNS (t:Tk) (l:List Pc):(∀f∈IY t l,f.length=1)=True:=by simp only[eq_iff_iff,iff_true];intro f a;simp only[IY,aan] at a;obtain⟨x,_,rfl⟩:=a;rfl
theorem zBD{c:Nat->Bool}{a k:Nat}{p:Pc}:∀{j:Nat},p∈pr c a k j->p.1=a/\c p.2=true/\p.2<=k/\k<p.2+j
 | 0,h=>by simp[pr] at h
 | j+1,h=>by
  rw[Le,aar] at h
  rcases h with h|h
  .obtain⟨b,d,e,g⟩:=zBD h;exact⟨b,d,e,an⟩
  .split at h
   .rename_i f;simp only[aap] at h;subst h;exact⟨rfl,f,ir,by simp only;omega⟩
   .cases h
def S5{f:List af}{most:Int}{p:Pc}:∀{n:Nat},p∈rows f most n->p.1<n/\rK f most p.1 p.2=true/\2<=p.2/\p.2<=32
 | 0,h=>by simp[rows] at h
 | n+1,h=>by
  rw[S3,aar] at h
  rcases h with h|h
  .obtain⟨b,a⟩:=S5 h;exact⟨an,a⟩
  .obtain⟨b,a,c,d⟩:=zBD h;exact⟨an,by rw[b];exact a,an,c⟩
def zwh:∀{f:List af},(∀i x,f[i]?=some x->b_ x (f.length-1-i)=true)->j0 f=true
 | [],_=>rfl
 | x::f,h=>by
  rw[j0,aaf];refine⟨by have:=h 0 x rfl;simpa using this,zwh λi y a=>?_⟩;have:=h (i+1) y (by simpa using a);rw[<-this];congr 1;simp only[aaj];omega
def zBE{x:af}(a e b i:Nat)(h:jv x=true)(k:kI x=true):jv (dY a e b i x)=true/\kI (dY a e b i x)=true:=by
 have l:=BC h
 have j:∀d:Nat,dX a e b i d<=d:=λd=>by unfold dX;split<;>omega
 unfold dY
 by_cases f:x.op=5
 .rw[if_pos f];refine⟨?_,?_⟩
  .have m:oJ 5=some (5,[106,97],true,false):=by decide
   unfold jv at h |-;simp only[f,m,acU,aaB] at h |-;exact h
  .simp[kI,f]
 .rw[if_neg f]
  by_cases c:aX x.op=true
  .rw[if_pos c];obtain⟨v,w,y,z⟩:=l c;have:=j x.jt.toNat;have:=j x.jf.toNat;refine⟨?_,?_⟩
   .unfold jv at h |-;simp only at h |-;split at h
    .rename_i r n;simp only[aaf] at h |-;refine⟨h.1,?_⟩
     have g:∀r∈o9,aX r.1=r.2.2.2:=by decide
     obtain⟨q1,o⟩:=Gt n;have:=g r o;rw[q1,c] at this;rw[<-this];simp only[if_true,decide_eq_true_eq];omega
    .cases h
   .have q:∀p∈[21,37,53,69,29,45,61,(77:Int)],p≠32/\p≠52/\¬(p=2\/p=3\/p=96\/p=97)/\¬(p=100\/p=116):=by decide
    obtain⟨n1,s,t,u⟩:=q _ (by simpa[aX] using c);simp only[kI,n1,s,t,u,if_false]
  .rw[if_neg c];exact⟨h,k⟩
def Lf(a e b i:Nat)(x:af):(dY a e b i x).op=x.op:=by
 unfold dY;split
 .rfl
 .split<;>rfl
def zBF{x:af}(h:mO x=true)(left:Nat):b_ x left=true:=by simp only[mO,aaf] at h;rw[ztL h.1.1,h.1.2,h.2];rfl
def IZ{w:List af}(h:aY w=true):∀x∈w,mO x=true:=by simp only[aY,aaf,aa2] at h;exact h.2
def ztT{f:List af}{a n:Nat}(e:dE f=true)(b:sQ f a n=true)(k:0<n)(l:a+n<=f.length):a+n<f.length:=by
 by_cases h:a+n<f.length
 .exact h
 .exfalso;have c:f[a+n-1]?=some (f[a+n-1]' an):=aae an;obtain⟨_,g,_⟩:=Gy e c
  have j:f[a+n-1]' an∈(f.drop a).take n:=by refine aaW (i:=n-1) ?_;rw[abP,if_pos an,abQ,show a+(n-1)=a+n-1 by omega];exact c
  simp only[sQ,aaf] at b;have d:=IZ b.1 _ j;simp only[mO,aaf] at d;have:=g (Y9 d.1.1).2.2;omega
def zBG{f:List af}{a n:Nat}(b:sQ f a n=true){i:Nat}{x:af}(c:f[i]?=some x){t:Nat}(d:a<t)(e:t<a+n):Ar x i t=false:=by simp only[sQ,aaf,BN,aa2,abt,acp] at b;have:=b.2 (t-a-1) an;rw[show a+1+(t-a-1)=t by omega,rJ,<-aaD,acA] at this;rw[<-aaD];intro h;refine this ⟨i,abt.2 (aah.1 c).1,?_⟩;rw[aas,c];exact h
def S6{f w:List af}{a n:Nat}(b:a+n<=f.length):(fi f a n w).length=f.length-n+w.length:=by simp only[fi,aal,GG,aay];omega
def ztU{f w:List af}{a n:Nat}(e:dE f=true)(s:sQ f a n=true)(C:0<n)(t:a+n<=f.length)(D:aY w=true)(P:w.length<=n):dE (fi f a n w)=true:=by
 have Q:=ztT e s C t;have u:=S6 (w:=w) t;have R:=Lc e
 have m:j0 (fi f a n w)=true:=by
  refine zwh λi x b=>?_;rw[u]
  by_cases v:i<a
  .rw[fi,aaX,abS (by rw[GG];exact v)] at b;have j:f[i]?=some (f[i]' an):=aae an;obtain⟨y,E⟩:=bb (f[i]'(by omega));rw[<-E] at j
   have F:x=dY a (a+n) (n-w.length) i y:=by rw[pre,acv,acd v] at b;simp only[acJ,ab3.injEq] at b;rw[<-b,aas,j];rfl
   subst F;have l:=(Gy e j).1;simp only[b_,aaf] at l;obtain⟨⟨⟨A,G⟩,H⟩,I⟩:=l;obtain⟨J,K⟩:=zBE a (a+n) (n-w.length) i A G;have L:=BC A;rw[b_,Lf,J,K]
   have o:∀d:Nat,Ar y i (i+1+d)=true->i+1+d<f.length->dX a (a+n) (n-w.length) i d<f.length-n+w.length-1-i:=by
    intro d B hd
    have M:¬(a<i+1+d/\i+1+d<a+n):=λ⟨m,p⟩=>by rw[zBG s j m p] at B;cases B
    unfold dX
    split<;>omega
   by_cases c:y.op=5
   .have g:aX y.op=false:=by rw[c];decide
    rw[if_pos c,decide_eq_true_eq] at H;have:=o y.k (by simp[Ar,c]) an;simp only[c,if_true,aaB,aat,if_false,abz,decide_eq_true_eq,show aX 5=false by decide];simp only[dY,c,if_true];exact this
   .cases g:aX y.op
    .simp[c]
    .obtain⟨S,T,U,V⟩:=L g;rw[if_pos g,decide_eq_true_eq] at I;have W:=o y.jt.toNat (by simp[Ar,c,g]) an;have X:=o y.jf.toNat (by simp[Ar,c,g]) an;simp only[c,if_false,if_true,aaB,decide_eq_true_eq];simp only[dY,c,g,if_false,if_true];omega
  .rw[fi,aaX,aaH (by rw[GG];omega),GG] at b
   by_cases q:i-a<w.length
   .rw[abS q] at b;exact zBF (IZ D x (aaW b)) _
   .rw[aaH an,abQ] at b;have l:=(Gy e b).1;rw[<-l];congr 1;have:=(aah.1 b).1;omega
 have p:kJ (fi f a n w)=true:=by
  have r:kJ f=true:=by simp only[dE,aaf] at e;exact e.2
  have Y:f.drop (a+n)≠[]:=by intro h;have:=congrArg List.length h;rw[aay] at this;simp at this;omega
  have:(fi f a n w).getLast?=f.getLast?:=by
   rw[fi,List.getLast?_append,List.getLast?_drop,if_neg an]
   cases N:f.getLast? with
   | none=>simp only[kJ,N] at r;cases r
   | some z=>rfl
  simp only[kJ,this];exact r
 have O:(fi f a n w).length<=4096:=by rw[u];omega
 simp[dE,m,p,O]
def zFs{f w:List af}{a n:Nat}(c:∀x∈f,x.k<4294967296)(g:∀x∈w,x.k<4294967296):∀x∈fi f a n w,x.k<4294967296:=by
 intro x b;simp only[fi,aar] at b
 rcases b with(b|b)|b
 .simp only[pre,aan,abt] at b;obtain⟨i,hi,rfl⟩:=b
  have e:(f.getD i vT).k<4294967296:=by
   rw[aas]
   cases h:f[i]? with
   | none=>decide
   | some z=>exact c z (aaW h)
  generalize f.getD i vT=y at e
  have j:∀d:Nat,dX a (a+n) (n-w.length) i d<=d:=λd=>by unfold dX;split<;>omega
  unfold dY;split
  .have:=j y.k;simp only;omega
  .split<;>exact e
 .exact g x b
 .exact c x (aao b)
structure Cd where
 arg:Int
 cmp:Int
 mask:Nat
 val:Nat
 deriving DecidableEq
def Cd.ok(c:Cd):Prop:=c.mask<18446744073709551616/\c.val<18446744073709551616
def Cd.right(c:Cd):Bool:=decide (0<=c.arg/\c.arg<=5/\0<=c.cmp/\c.cmp<=5)
def qC(cmp:Int)(a b:Nat):Bool :=
 if cmp=0 then decide (a=b) else if cmp=1 then decide (a≠b) else if cmp=2 then decide (a<b) else if cmp=3 then decide (a<=b) else if cmp=4 then decide (b<a) else decide (b<=a)
def nD(d:Da)(c:Cd):Nat:=d.args.getD c.arg.toNat 0 &&& c.mask
def Cd.holds(c:Cd)(d:Da):Bool:=c.right&&qC c.cmp (nD d c) c.val
def pH(c:List af)(l:Nat):List af:=c.drop (c.length-l)
def zGz{a c:List af}{l:Nat}(h:l<=c.length):pH (a++c) l=pH c l:=by unfold pH;rw[aal,show a.length+c.length-l=a.length+(c.length-l) by omega,abN]
def zR(c:List af):pH c c.length=c:=by simp[pH]
def nV(c c':List af)(n:Nat):Prop:=∃a,c'=a++c/\a.length<=n
def nV.refl(c:List af):nV c c 0:=⟨[],rfl,aak _⟩
def nV.trans{a b c:List af}{n m:Nat}(h:nV a b n)(k:nV b c m):nV a c (n+m):=by obtain⟨x,rfl,d⟩:=h;obtain⟨y,rfl,e⟩:=k;exact⟨y++x,by rw[aaX],by rw[aal];omega⟩
def nV.mono{a b:List af}{n m:Nat}(h:nV a b n)(c:n<=m):nV a b m:=by obtain⟨x,rfl,d⟩:=h;exact⟨x,rfl,an⟩
def nV.len{a b:List af}{n:Nat}(h:nV a b n):a.length<=b.length/\b.length<=a.length+n:=by obtain⟨x,rfl,c⟩:=h;rw[aal];omega
def nV.pH{a b:List af}{n l:Nat}(h:nV a b n)(c:l<=a.length):pH b l=pH a l:=by obtain⟨x,rfl,d⟩:=h;exact zGz c
def bM(c:List af)(t:Nat):List af:=if c.length-t<=254 then c else⟨5,0,0,c.length-t⟩::c
def gA(c:List af)(t:Nat):Nat:=if c.length-t<=254 then t else c.length+1
def fZ(c:List af)(op:Int)(k t f:Nat):List af :=
 ⟨op,((bM (bM c t) f).length-gA c t:Nat),((bM (bM c t) f).length-gA (bM c t) f:Nat),k⟩::bM (bM c t) f
def bj(c:List af)(op:Int)(k:Nat):List af:=⟨op,0,0,k⟩::c
def BS(c:List af)(t:Nat):nV c (bM c t) 1:=by
 unfold bM;split
 .exact(nV.refl c).mono an
 .exact⟨[_],rfl,aak _⟩
def Lg{c:List af}{t:Nat}(h:1<=t/\t<=c.length):1<=gA c t/\gA c t<=(bM c t).length/\(bM c t).length-gA c t<=254:=by
 unfold gA bM;split
 .exact⟨h.1,h.2,an⟩
 .simp only[aaj];omega
def OQ(c:List af)(op:Int)(k:Nat):nV c (bj c op k) 1:=⟨[_],rfl,aak _⟩
def Ez(c:List af)(op:Int)(k t f:Nat):nV c (fZ c op k t f) 3 :=
 ((BS c t).trans (BS _ f)).trans ⟨[_],rfl,aak _⟩
def zrC(c:List af)(op:Int)(k t f:Nat):c.length<(fZ c op k t f).length:=by have:=((BS c t).trans (BS _ f)).len;simp only[fZ,aaj];omega
def OR(op:Int):Prop:=op=5\/op=21\/op=37\/op=53
def zyz{x:af}(h:OR x.op)(s:St)(d:Da):ef s x d=(s,true):=by
 have a:∀op:Int,OR op->bg op=(0,false,false):=by rintro op (rfl|rfl|rfl|rfl)<;>decide
 simp only[ef,a _ h,aat,if_false,iE]
 rcases h with h|h|h|h<;>simp[h]
def zwi{d:Da}{c:List af}{t:Nat}(h:1<=t/\t<=c.length)(s:St):(run d (pH (bM c t) (gA c t)) s).1=(run d (pH c t) s).1:=by
 unfold bM gA;split
 .rfl
 .have e:pH (⟨5,0,0,c.length-t⟩::c) (c.length+1)=⟨5,0,0,c.length-t⟩::c:=zR _;rw[e,yU,if_neg (show¬(5:Int)=6 by decide),if_neg (show¬(5:Int)=22 by decide),zyz (.inl rfl)];simp[goes,pH]
def sR(op:Int):Prop:=op=21\/op=37\/op=53
def takeN(op:Int)(a k:Nat):Bool:=if op=21 then decide (a=k) else if op=37 then decide (k<a) else decide (k<=a)
def Lh{d:Da}{c:List af}{op:Int}{k t f:Nat}(b:sR op)(e:1<=t/\t<=c.length)(g:1<=f/\f<=c.length)(s:St) :
  (run d (fZ c op k t f) s).1=(run d (pH c (if takeN op s.a k then t else f)) s).1:=by
 have h:=BS c t;have m:=BS (bM c t) f;have n:=Lg e;have i:1<=f/\f<=(bM c t).length:=⟨g.1,by have:=h.len;omega⟩;have v:=Lg i;have j:=zwi (d:=d) e s;have l:=zwi (d:=d) i s;rw[h.pH g.2] at l;rw[<-m.pH n.2.1] at j
 have o:aX op=true:=by rcases b with rfl|rfl|rfl<;>decide
 have p:op≠5:=by rcases b with rfl|rfl|rfl<;>decide
 have q:op≠6:=by rcases b with rfl|rfl|rfl<;>decide
 have r:op≠22:=by rcases b with rfl|rfl|rfl<;>decide
 unfold fZ;generalize bM (bM c t) f=c2 at *;generalize gA c t=t1 at *;generalize gA (bM c t) f=f1 at *;rw[yU,if_neg q,if_neg r,zyz (.inr (by rcases b with rfl|rfl|rfl<;>simp))]
 have u:dc s ⟨op,((c2.length-t1:Nat):Int),((c2.length-f1:Nat):Int),k⟩=takeN op s.a k:=by rcases b with rfl|rfl|rfl<;>simp[dc,takeN]
 simp only[if_true,goes,if_neg p,o,u];cases takeN op s.a k
 .simp only[aat,if_false,abw];exact l
 .simp only[if_true,abw];exact j
def ZH{c:List af}{x:af}(h:dE c=true)(b:b_ x c.length=true)(e:c.length<4096):dE (x::c)=true:=by
 simp only[dE,aaf,decide_eq_true_eq] at h |-;obtain⟨⟨f,d⟩,a⟩:=h;refine⟨⟨by simp only[aaj];omega,by simp only[j0,aaf];exact⟨b,d⟩⟩,?_⟩
 cases c with
 | nil=>simp[kJ] at a
 | cons y c=>simpa[kJ,List.getLast?_cons_cons] using a
def zrD{c:List af}{t:Nat}(h:dE c=true)(e:1<=t/\t<=c.length)(a:c.length<4096):dE (bM c t)=true:=by
 unfold bM;split
 .exact h
 .refine ZH h ?_ a
  have b:oJ 5=some (5,[106,97],true,false):=by decide
  have d:aX 5=false:=by decide
  simp[b_,jv,b,kI,d];omega
def S7{c:List af}{op:Int}{k t f:Nat}(i:sR op)(h:dE c=true)(d:1<=t/\t<=c.length)(j:1<=f/\f<=c.length)(s:c.length+3<=4096):dE (fZ c op k t f)=true:=by
 have u:=(BS c t).len;have v:=(BS (bM c t) f).len;have w:=Lg d;have e:1<=f/\f<=(bM c t).length:=⟨j.1,an⟩;have x:=Lg e;have l:=zrD h d an;have m:=zrD l e an;unfold fZ;generalize bM (bM c t) f=c2 at *;generalize gA c t=t1 at *;generalize gA (bM c t) f=f1 at *;refine ZH m ?_ an
 have a:∀op:Int,sR op->(oJ op).map (λr=>(r.2.2.1,r.2.2.2))=some (true,true)/\aX op=true/\op≠5/\∀k,kI ⟨op,((c2.length-t1:Nat):Int),((c2.length-f1:Nat):Int),k⟩=true:=by rintro op (rfl|rfl|rfl)<;>exact⟨ag7,ag7,ag7,λk=>by simp[kI]⟩
 obtain⟨g,n,o,p⟩:=a op i;rw[aaZ] at g;obtain⟨r,q,b⟩:=g;simp only[ack.injEq] at b;simp only[b_,jv,q,b.1,b.2,p,o,n,if_true,if_false,acU,aaB,abz,aaf,decide_eq_true_eq];omega
def I0(op:Int)(k:Nat):Prop:=op=84\/op=6\/op=32/\k%4=0/\k<64
def ztV{op:Int}{k:Nat}(d:I0 op k):jv ⟨op,0,0,k⟩=true/\kI ⟨op,0,0,k⟩=true/\aX op=false/\op≠5:=by
 rcases d with rfl|rfl|⟨rfl,e,f⟩
 .refine⟨?_,by simp[kI],ag7,ag7⟩
  have b:(oJ 84).map (λr=>(r.2.2.1,r.2.2.2))=some (true,false):=by decide
  rw[aaZ] at b;obtain⟨r,c,a⟩:=b;simp only[ack.injEq] at a;simp[jv,c,a.1,a.2]
 .refine⟨?_,by simp[kI],ag7,ag7⟩
  have b:(oJ 6).map (λr=>(r.2.2.1,r.2.2.2))=some (true,false):=by decide
  rw[aaZ] at b;obtain⟨r,c,a⟩:=b;simp only[ack.injEq] at a;simp[jv,c,a.1,a.2]
 .refine⟨?_,by simp[kI,e,f],ag7,ag7⟩
  have b:(oJ 32).map (λr=>(r.2.2.1,r.2.2.2))=some (true,false):=by decide
  rw[aaZ] at b;obtain⟨r,c,a⟩:=b;simp only[ack.injEq] at a;simp[jv,c,a.1,a.2]
def OS{c:List af}{op:Int}{k:Nat}(a:I0 op k)(h:dE c=true)(b:c.length<4096):dE (bj c op k)=true:=by refine ZH h ?_ b;obtain⟨d,e,f,g⟩:=ztV a;simp[b_,d,e,f,g]
def zyA(d:Da)(c:List af)(k:Nat)(s:St):(run d (bj c 84 k) s).1=(run d c { s with a:=s.a &&& k }).1:=by
 have b:bg (84:Int)=(84,false,true):=by decide
 have e:aX 84=false:=by decide
 have f:ef s ⟨84,0,0,k⟩ d=({ s with a:=s.a &&& k },true):=by simp[ef,b,kg,jo,cA]
 rw[bj,yU,if_neg (show¬(84:Int)=6 by decide),if_neg (show¬(84:Int)=22 by decide),f];simp[goes,e]
def S8(d:Da)(c:List af)(k:Nat)(s:St):(run d (bj c 32 k) s).1=(run d c { s with a:=(pG d k).1 }).1:=by
 have b:bg (32:Int)=(0,false,false):=by decide
 have e:aX 32=false:=by decide
 have f:ef s ⟨32,0,0,k⟩ d=({ s with a:=(pG d k).1 },true):=by simp[ef,b,iE]
 rw[bj,yU,if_neg (show¬(32:Int)=6 by decide),if_neg (show¬(32:Int)=22 by decide),f];simp[goes,e]
def zGA(d:Da)(c:List af)(k:Nat)(s:St):(run d (bj c 6 k) s).1=k:=by rw[bj,yU,if_pos rfl]
def qD(d:Da)(c:List af)(l v:Nat):Prop:=∀s:St,s.ok->(run d (pH c l) s).1=v
def qD.grown{d:Da}{a b:List af}{n l v:Nat}(h:qD d a l v)(g:nV a b n)(c:l<=a.length):qD d b l v:=λs e=>by rw[g.pH c];exact h s e
def GH(d:Da)(c:List af)(l a v:Nat):Prop:=∀s:St,s.ok->s.a=a->(run d (pH c l) s).1=v
def GH.grown{d:Da}{a b:List af}{n l w v:Nat}(h:GH d a l w v)(g:nV a b n)(c:l<=a.length):GH d b l w v:=λs e f=>by rw[g.pH c];exact h s e f
def qD.dep{d:Da}{c:List af}{l v:Nat}(h:qD d c l v)(w:Nat):GH d c l w v:=λs a _=>h s a
def St.EA{s:St}(h:s.ok){a:Nat}(b:a<4294967296):({ s with a:=a }:St).ok:=⟨b,h.2⟩
def yY(n:Int):Int:=if n=0 then 1 else if n=1 then 0 else if n=2 then 5 else if n=3 then 4 else if n=4 then 3 else 2
def j7(n:Int):Int:=if n=4 then 37 else if n=5 then 53 else 21
def bS(c:List af)(x:Cd)(t f:Nat):List af:=bj (bj (fZ c (j7 x.cmp) (lo x.val) t f) 84 (lo x.mask)) 32 (16+8*x.arg.toNat)
def qj(c:List af)(x:Cd)(t f:Nat):List af:=if j7 x.cmp=21 then bS c x t f else fZ (bS c x t f) 37 (hi x.val) t f
def CB(c:List af)(x:Cd)(t f:Nat):List af :=
 bj (bj (fZ (qj c x t f) 21 (hi x.val) (bS c x t f).length (if j7 x.cmp=21 then f else(qj c x t f).length)) 84 (hi x.mask)) 32 (20+8*x.arg.toNat)
def EC(x:Cd):Bool:=decide (x.cmp=1\/x.cmp=2\/x.cmp=3)
def eN(c:List af)(x:Cd)(t f:Nat):List af:=if EC x then CB c { x with cmp:=yY x.cmp } f t else CB c x t f
def ye(n:Int):sR (j7 n):=by
 unfold j7 sR;split
 .exact .inr (.inl rfl)
 .split
  .exact .inr (.inr rfl)
  .exact .inl rfl
def OT(c:List af)(x:Cd)(t f:Nat):nV c (bS c x t f) 5:=((Ez c _ _ t f).trans (OQ _ _ _)).trans (OQ _ _ _)
def OU(c:List af)(x:Cd)(t f:Nat):nV (bS c x t f) (qj c x t f) 3:=by
 unfold qj;split
 .exact(nV.refl _).mono an
 .exact Ez _ _ _ _ _
def zxI(c:List af)(x:Cd)(t f:Nat):nV c (CB c x t f) 13 :=
 (((OT c x t f).trans (OU c x t f)).trans (Ez _ _ _ _ _)).trans ((OQ _ _ _).trans (OQ _ _ _)) |>.mono an
def zrF(c:List af)(x:Cd)(t f:Nat):nV c (eN c x t f) 13:=by
 unfold eN
 split<;>exact zxI _ _ _ _
def S9{x:Cd}(h:x.right=true)(b:Nat)(a:b=16\/b=20):I0 32 (b+8*x.arg.toNat):=by
 simp only[Cd.right,decide_eq_true_eq] at h
 refine .inr (.inr ⟨rfl,?_,?_⟩)<;>omega
def zpW{c:List af}{x:Cd}{t f:Nat}(h:dE c=true)(a:x.right=true)(d:1<=t/\t<=c.length)(e:1<=f/\f<=c.length)(j:c.length+13<=4096):dE (CB c x t f)=true:=by
 have k:=(OT c x t f).len;have l:=(OU c x t f).len;have m:=(Ez c (j7 x.cmp) (lo x.val) t f).len
 have b:dE (bS c x t f)=true:=by refine OS (S9 a 16 (.inl rfl)) (OS (.inl rfl) (S7 (ye _) h d e an) an) ?_;simp only[bj,aaj];omega
 have p1:1<=(bS c x t f).length:=an
 have g:dE (qj c x t f)=true:=by
  unfold qj;split
  .exact b
  .exact S7 (.inr (.inl rfl)) b an an an
 have i:1<=(if j7 x.cmp=21 then f else(qj c x t f).length)/\(if j7 x.cmp=21 then f else(qj c x t f).length)<=(qj c x t f).length:=by split<;>omega
 have n:=(Ez (qj c x t f) 21 (hi x.val) (bS c x t f).length (if j7 x.cmp=21 then f else(qj c x t f).length)).len;refine OS (S9 a 20 (.inr rfl)) (OS (.inl rfl) (S7 (.inl rfl) g an i an) an) ?_;simp only[bj,aaj];omega
def OV{x:Cd}(h:x.right=true):({ x with cmp:=yY x.cmp }:Cd).right=true:=by
 simp only[Cd.right,decide_eq_true_eq] at h |-;refine⟨h.1,h.2.1,?_⟩;simp only[yY]
 repeat' split
 all_goals omega
def zzZ{c:List af}{x:Cd}{t f:Nat}(h:dE c=true)(a:x.right=true)(b:1<=t/\t<=c.length)(d:1<=f/\f<=c.length)(e:c.length+13<=4096):dE (eN c x t f)=true:=by
 unfold eN;split
 .exact zpW h (OV a) d b e
 .exact zpW h a b d e
def zDY{d:Da}{i:Nat}(hd:d.ok)(h:i<=5):(pG d (16+8*i)).1=lo (d.args.getD i 0)/\(pG d (20+8*i)).1=hi (d.args.getD i 0):=by
 obtain⟨_,_,_,a,_⟩:=hd
 match b:d.args,a with
 | [c,e,f,g,j,k],_ =>
  have:i=0\/i=1\/i=2\/i=3\/i=4\/i=5:=an
  rcases this with rfl|rfl|rfl|rfl|rfl|rfl<;>simp[pG,iV,b]
def zIa(a b:Nat):lo a &&& lo b=(a &&& b)%4294967296:=by unfold lo;have h:=Nat.and_mod_two_pow (a:=a) (b:=b) (n:=32);simpa using h.symm
def zIb{a b:Nat}(e:a<18446744073709551616)(f:b<18446744073709551616):hi a &&& hi b=(a &&& b)/4294967296:=by have h:=Nat.and_div_two_pow (a:=a) (b:=b) (n:=32);have c:hi a=a/4294967296:=aa1 an;have d:hi b=b/4294967296:=aa1 an;rw[c,d];simpa using h.symm
def zBH{op:Int}{v k:Nat}(c:k<18446744073709551616) :
  (op=21->decide (v=k)=(decide (v/4294967296=hi k)&&decide (v%4294967296=lo k))) /\
  (op=37->decide (k<v)=(if v/4294967296=hi k then decide (lo k<v%4294967296) else decide (hi k<v/4294967296))) /\
  (op=53->decide (k<=v)=(if v/4294967296=hi k then decide (lo k<=v%4294967296) else decide (hi k<v/4294967296))):=by
 have a:hi k=k/4294967296:=aa1 an;have b:lo k=k%4294967296:=rfl;rw[b,a];refine⟨λ_=>?_,λ_=>?_,λ_=>?_⟩
 .rw[aaq];simp only[aaf,decide_eq_true_eq];omega
 .split<;>rw[aaq]<;>simp only[decide_eq_true_eq]<;>omega
 .split<;>rw[aaq]<;>simp only[decide_eq_true_eq]<;>omega
def zrG{d:Da}{c:List af}{x:Cd}{t f:Nat}(hd:d.ok)(u:x.right=true)(w:x.ok)(y:j7 x.cmp=21->x.cmp=0)(z:1<=t/\t<=c.length)(k:1<=f/\f<=c.length)
  (s:St) (l:s.ok):∃s':St,s'.ok/\(run d (CB c x t f) s).1=(run d (pH c (if x.holds d then t else f)) s').1:=by
 have m:=u;simp only[Cd.right,decide_eq_true_eq] at u;obtain⟨G,H⟩:=zDY (i:=x.arg.toNat) hd an
 have A:d.args.getD x.arg.toNat 0<18446744073709551616:=by obtain⟨_,_,_,Q,I⟩:=hd;rw[aas,aae an];exact I _ (aag _)
 have B:=zIa (d.args.getD x.arg.toNat 0) x.mask;have C:=zIb A w.1;have R:nD d x<18446744073709551616:=ach Nat.and_le_left A;rw[show d.args.getD x.arg.toNat 0 &&& x.mask=nD d x from rfl] at B C;have j:=(OT c x t f);have n:=(OU c x t f);have p1:=j.len;have p2:=n.len
 have q1:1<=(bS c x t f).length:=an
 have o:∀s:St,s.ok->∃s':St,s'.ok/\(run d (bS c x t f) s).1=(run d (pH c (if takeN (j7 x.cmp) (nD d x%4294967296) (lo x.val) then t else f)) s').1:=by intro s l;have S:=Ou (d.args.getD x.arg.toNat 0);have J:nD d x%4294967296<4294967296:=abD _ ag7;rw[bS,S8,zyA,G];simp only[B];rw[Lh (ye _) z k];simp only;have h:=St.EA l J;exact⟨_,h,rfl⟩
 have K:nD d x/4294967296<4294967296:=an
 have h:=St.EA l K
 have L:1<=(if j7 x.cmp=21 then f else(qj c x t f).length)/\(if j7 x.cmp=21 then f else(qj c x t f).length)<=(qj c x t f).length:=by split<;>omega
 rw[CB,S8,zyA,H];simp only[C];rw[Lh (.inl rfl) an L];simp only[takeN,if_true];obtain⟨D,E,F⟩:=zBH (op:=j7 x.cmp) (v:=nD d x) w.2
 by_cases a:nD d x/4294967296=hi x.val
 .obtain⟨M,p,N⟩:=o _ h;rw[if_pos (by simpa using a),n.pH (aak _),zR,N];refine⟨M,p,?_⟩
  suffices O:takeN (j7 x.cmp) (nD d x%4294967296) (lo x.val)=x.holds d by rw[O]
  simp only[Cd.holds,m,aaB,takeN]
  by_cases g:x.cmp=4
  .have e:j7 x.cmp=37:=by rw[g];rfl
   have:=E e;rw[if_pos a] at this;simp only[g,qC];rw[this];simp[j7]
  .by_cases b:x.cmp=5
   .have e:j7 x.cmp=53:=by rw[b];rfl
    have:=F e;rw[if_pos a] at this;simp only[b,qC];rw[this];simp[j7]
   .have e:j7 x.cmp=21:=by simp[j7,g,b]
    have q:=y e;have:=D e;simp only[q,qC];rw[this];simp[a,j7]
 .rw[if_neg (by simpa using a)]
  by_cases e:j7 x.cmp=21
  .have q:=y e;have:=D e
   have r:x.holds d=false:=by simp only[Cd.holds,m,aaB,q,qC,if_true];rw[this];simp[a]
   rw[if_pos e,r,n.pH an,j.pH k.2];exact⟨_,h,rfl⟩
  .have P:qj c x t f=fZ (bS c x t f) 37 (hi x.val) t f:=by rw[qj,if_neg e]
   rw[if_neg e,zR,P,Lh (.inr (.inl rfl)) an an]
   have r:x.holds d=decide (hi x.val<nD d x/4294967296):=by
    simp only[Cd.holds,m,aaB]
    by_cases g:x.cmp=4
    .have:=E (by rw[g];rfl);rw[if_neg a] at this;simp only[g,qC];rw[<-this];simp
    .have b:x.cmp=5:=by apply Classical.byContradiction;intro b;exact e (by simp[j7,g,b])
     have:=F (by rw[b];rfl);rw[if_neg a] at this;simp only[b,qC];rw[<-this];simp
   rw[r];simp only[takeN,show((37:Int)=21)=False by simp,if_false,if_true];cases decide (hi x.val<nD d x/4294967296)
   .simp only[aat,if_false];rw[j.pH k.2];exact⟨_,h,rfl⟩
   .simp only[if_true];rw[j.pH z.2];exact⟨_,h,rfl⟩
def zBI{d:Da}{c:List af}{x:Cd}{t f:Nat}(hd:d.ok)(b:x.right=true)(i:x.ok)(j:1<=t/\t<=c.length)(k:1<=f/\f<=c.length)
  (s:St) (l:s.ok):∃s':St,s'.ok/\(run d (eN c x t f) s).1=(run d (pH c (if x.holds d then t else f)) s').1:=by
 have m:=b;simp only[Cd.right,decide_eq_true_eq] at m
 by_cases g:EC x=true
 .rw[eN,if_pos g];have e:=g;simp only[EC,decide_eq_true_eq] at e
  have:=zrG (x:={ x with cmp:=yY x.cmp }) hd (OV b) i (λh=>by
   rcases e with a|a|a<;>simp only[a,yY,j7] at h |-<;>simp at h |-) k j s l
  have n:({ x with cmp:=yY x.cmp }:Cd).holds d=!x.holds d:=by
   have o:=OV b;simp only[Cd.holds,b,o,aaB];have p:nD d { x with cmp:=yY x.cmp }=nD d x:=rfl;rw[p]
   rcases e with a|a|a<;>simp[a,yY,qC]
   .rw[aaq];simp
   .rw[aaq];simp
  rw[n] at this
  cases q:x.holds d<;>rw[q] at this<;>simpa using this
 .rw[eN,if_neg g];have e:=g;simp only[EC,decide_eq_true_eq] at e;refine zrG hd b i (λh=>?_) j k s l
  have:x.cmp=0\/x.cmp=4\/x.cmp=5:=an
  rcases this with a|a|a
  .exact a
  .rw[a] at h;simp[j7] at h
  .rw[a] at h;simp[j7] at h
def zDZ{d:Da}{c:List af}{x:Cd}{t f a b:Nat}(hd:d.ok)(h:x.right=true)(i:x.ok)(j:1<=t/\t<=c.length)(k:1<=f/\f<=c.length)
  (l:qD d c t a) (m:qD d c f b):qD d (eN c x t f) (eN c x t f).length (if x.holds d then a else b):=by
 intro s n;rw[zR];obtain⟨s',g,e⟩:=zBI (f:=f) hd h i j k s n;rw[e];cases x.holds d
 .exact m _ g
 .exact l _ g
def yZ(c:List af):Prop:=∀y∈c,y.k<4294967296
def zyB{c:List af}{t:Nat}(d:c.length<=1000100)(b:yZ c):yZ (bM c t):=by
 intro y a;unfold bM at a;split at a
 .exact b y a
 .rcases aai.1 a with rfl|a
  .simp only;omega
  .exact b y a
def S_{c:List af}{op:Int}{k t f:Nat}(e:c.length<=1000050)(b:k<4294967296)(d:yZ c):yZ (fZ c op k t f):=by
 intro y a
 rcases aai.1 a with rfl|a
 .exact b
 .exact zyB (by have:=(BS c t).len;omega) (zyB an d) y a
def Li{c:List af}{op:Int}{k:Nat}(b:k<4294967296)(d:yZ c):yZ (bj c op k):=by
 intro y a
 rcases aai.1 a with rfl|a
 .exact b
 .exact d y a
def zGB{c:List af}{x:Cd}{t f:Nat}(e:∀y∈c,y.k<4294967296)(i:c.length<=1000000)(a:x.right=true):∀y∈eN c x t f,y.k<4294967296:=by
 have b:∀(x:Cd) (t f:Nat),x.right=true->yZ (CB c x t f):=by
  intro x t f a;have g:=a;simp only[Cd.right,decide_eq_true_eq] at g;have j:=(OT c x t f).len;have l:=(OU c x t f).len;have d:yZ (bS c x t f):=Li an (Li (Ou _) (S_ an (Ou _) e))
  have h:yZ (qj c x t f):=by
   unfold qj;split
   .exact d
   .exact S_ an (Ov _) d
  exact Li an (Li (Ov _) (S_ an (Ov _) h))
 unfold eN;split
 .exact b _ _ _ (OV a)
 .exact b _ _ _ a
structure Ru where
 aC:Nat
 nr:Nat
 conds:List Cd
 act:Nat
 deriving DecidableEq
structure Po where
 rules:List Ru
 cC:Nat
 deriving DecidableEq
def Ru.df(r:Ru):Prop:=(∀x∈r.conds,x.right=true/\x.ok)/\r.aC<4294967296/\r.nr<4294967296/\r.act<4294967296
abbrev pV:=List af×Nat
def zd(o:Nat):List Cd->pV->pV
 | [],s=>s
 | x::xs,s=>(eN (zd o xs s).1 x (zd o xs s).2 o,(eN (zd o xs s).1 x (zd o xs s).2 o).length)
def zFt(r:Ru)(s:pV):pV:=zd s.2 r.conds (bj s.1 6 r.act,s.1.length+1)
def mQ:List Ru->pV->pV
 | [],s=>s
 | r::l,s=>zFt r (mQ l s)
def vd:List Ru->Nat
 | []=>0
 | r::l=>1+13*r.conds.length+vd l
def Cd.oO(d:Da)(l:List Cd):Bool:=l.all λx=>x.holds d
def zT(d:Da)(v0:Nat):List Ru->Nat
 | []=>v0
 | r::l=>if Cd.oO d r.conds then r.act else zT d v0 l
structure Came (c:List af) (s:pV) (n:Nat):Prop where
 grown:nV c s.1 n
 jH:1<=s.2/\s.2<=s.1.length
 sound:dE c=true->c.length+n<=4096->dE s.1=true
 ks:yZ c->c.length+n<=4096->yZ s.1
def Came.mono{c:List af}{s:pV}{n m:Nat}(h:Came c s n)(d:n<=m):Came c s m:=⟨h.grown.mono d,h.jH,λa b=>h.sound a an,λa b=>h.ks a an⟩
def Came.self{c:List af}{l:Nat}(h:1<=l/\l<=c.length):Came c (c,l) 0:=⟨nV.refl c,h,λa _=>a,λa _=>a⟩
def Came.trans{c:List af}{s t:pV}{n m:Nat}(h:Came c s n)(k:Came s.1 t m):Came c t (n+m) :=
 ⟨h.grown.trans k.grown,k.jH,λa b=>k.sound (h.sound a an) (by have:=h.grown.len;omega),λa b=>k.ks (h.ks a an) (by have:=h.grown.len;omega)⟩
def Ta{c:List af}{op:Int}{k:Nat}(h:I0 op k)(d:k<4294967296):Came c (bj c op k,c.length+1) 1 :=
 ⟨OQ _ _ _,by simp[bj],λa b=>OS h a an,λa _=>Li d a⟩
def Tb{c:List af}{op:Int}{k t f:Nat}(h:sR op)(d:k<4294967296)(e:1<=t/\t<=c.length)(g:1<=f/\f<=c.length):Came c (fZ c op k t f,(fZ c op k t f).length) 3 :=
 ⟨Ez _ _ _ _ _,by have:=zrC c op k t f;simp only;omega,λa b=>S7 h a e g an,λa b=>S_ an d a⟩
def zBJ{c:List af}{x:Cd}{t f:Nat}(d:x.right=true)(e:1<=t/\t<=c.length)(g:1<=f/\f<=c.length):Came c (eN c x t f,(eN c x t f).length) 13 :=
 ⟨zrF _ _ _ _,by have:=(zrF c x t f).len;simp only;omega,λa b=>zzZ a d e g an,λa b=>zGB a an d⟩
def Tc{o:Nat}:∀{l:List Cd} {s:pV},(∀x∈l,x.right=true/\x.ok)->(1<=o/\o<=s.1.length)->(1<=s.2/\s.2<=s.1.length)->Came s.1 (zd o l s) (13*l.length)
 | [],s,_,_,h=>Came.self h
 | x::l,s,b,c,d=>by
  have a:=Tc (l:=l) (λy e=>b y (by simp[e])) c d;have f:=a.grown.len;exact(a.trans (zBJ (b x ir).1 a.jH ⟨c.1,an⟩)).mono (by simp only[aaj];omega)
def ztW{o:Nat}{d:Da}(hd:d.ok){v0 g:Nat}:∀{l:List Cd} {s:pV},(∀x∈l,x.right=true/\x.ok)->(1<=o/\o<=s.1.length)->(1<=s.2/\s.2<=s.1.length)->qD d s.1 o v0->qD d s.1 s.2 g ->
  qD d (zd o l s).1 (zd o l s).2 (if Cd.oO d l then g else v0)
 | [],s,_,_,_,_,h=>by simpa[zd,Cd.oO] using h
 | x::l,s,a,b,i,j,m=>by
  have c:=Tc (l:=l) (λy f=>a y (by simp[f])) b i;have n:=ztW hd (l:=l) (λy f=>a y (by simp[f])) b i j m;have p:=c.grown.len;have:=zDZ (x:=x) hd (a x ir).1 (a x ir).2 c.jH ⟨b.1,an⟩ n (j.grown c.grown b.2)
  have e:Cd.oO d (x::l)=(x.holds d&&Cd.oO d l):=by simp[Cd.oO]
  rw[e];simp only[zd];cases k:x.holds d
  .rw[k] at this;simpa using this
  .rw[k] at this;simpa using this
def zyC(d:Da)(c:List af)(k:Nat):qD d (bj c 6 k) (c.length+1) k:=by intro s a;rw[show c.length+1=(bj c 6 k).length from rfl,zR,zGA]
def Lj:∀{l:List Ru} {s:pV},(∀r∈l,r.df)->(1<=s.2/\s.2<=s.1.length)->Came s.1 (mQ l s) (vd l)
 | [],s,_,h=>Came.self h
 | r::l,s,b,d=>by
  have a:=Lj (l:=l) (λy e=>b y (by simp[e])) d;have f:=a.grown.len;have p:=Ta (c:=(mQ l s).1) (op:=6) (k:=r.act) (.inr (.inl rfl)) (b r ir).2.2.2;have g:=p.grown.len;have q:=Tc (o:=(mQ l s).2) (l:=r.conds) (s:=(bj (mQ l s).1 6 r.act,(mQ l s).1.length+1)) (b r ir).1 ⟨a.jH.1,by have:=a.jH.2;omega⟩ p.jH;exact((a.trans p).trans q).mono (by simp only[vd];omega)
def ztX{d:Da}(hd:d.ok){v0:Nat}:∀{l:List Ru} {s:pV},(∀r∈l,r.df)->(1<=s.2/\s.2<=s.1.length)->qD d s.1 s.2 v0->qD d (mQ l s).1 (mQ l s).2 (zT d v0 l)
 | [],s,_,_,h=>h
 | r::l,s,a,f,h=>by
  have b:=Lj (l:=l) (λy e=>a y (by simp[e])) f;have g:=ztX hd (l:=l) (λy e=>a y (by simp[e])) f h;have p:=Ta (c:=(mQ l s).1) (op:=6) (k:=r.act) (.inr (.inl rfl)) (a r ir).2.2.2;have i:=p.grown.len;exact ztW hd (o:=(mQ l s).2) (l:=r.conds) (s:=(bj (mQ l s).1 6 r.act,(mQ l s).1.length+1)) (a r ir).1 ⟨b.jH.1,by have:=b.jH.2;omega⟩ p.jH (g.grown p.grown b.jH.2) (zyC d _ _)
def bx:Nat->List af->List (Nat×Nat)->Nat->pV
 | 0,c,_,_=>(c,0)
 | n+1,c,l,o =>
  if l.length=1 then(fZ c 21 (l.getD 0 (0,0)).1 (l.getD 0 (0,0)).2 o,(fZ c 21 (l.getD 0 (0,0)).1 (l.getD 0 (0,0)).2 o).length)
  else
   (fZ (bx n (bx n c (l.take (l.length/2)) o).1 (l.drop (l.length/2)) o).1 53 (l.getD (l.length/2) (0,0)).1 (bx n (bx n c (l.take (l.length/2)) o).1 (l.drop (l.length/2)) o).2 (bx n c (l.take (l.length/2)) o).2,
    (fZ (bx n (bx n c (l.take (l.length/2)) o).1 (l.drop (l.length/2)) o).1 53 (l.getD (l.length/2) (0,0)).1 (bx n (bx n c (l.take (l.length/2)) o).1 (l.drop (l.length/2)) o).2 (bx n c (l.take (l.length/2)) o).2).length)
def k9(c:List af)(l:List (Nat×Nat)):Prop:=∀e∈l,1<=e.2/\e.2<=c.length
def k9.grown{a b:List af}{n:Nat}{l:List (Nat×Nat)}(h:k9 a l)(g:nV a b n):k9 b l:=λe c=>⟨(h e c).1,by have:=g.len;have:=(h e c).2;omega⟩
def EE{o:Nat}:∀(n:Nat) {c:List af} {l:List (Nat×Nat)},l≠[]->l.length<=n->k9 c l->(∀e∈l,e.1<4294967296)->(1<=o/\o<=c.length)->Came c (bx n c l o) (6*l.length-3)
 | 0,c,l,h,r,_,_,_=>absurd (aa5.1 an) h
 | n+1,c,l,h,r,i,f,j=>by
  have u:0<l.length:=aav.2 h;unfold bx;split
  .rename_i s
   have g:l.getD 0 (0,0)∈l:=by rw[aas,aae an];exact aag _
   exact(Tb (.inl rfl) (f _ g) (i _ g) j).mono an
  .rename_i s
   have m:(l.take (l.length/2)).length=l.length/2:=by rw[aax];omega
   have p:(l.drop (l.length/2)).length=l.length-l.length/2:=by rw[aay]
   have n1:l.take (l.length/2)≠[]:=by intro e;rw[e] at m;simp at m;omega
   have t:l.drop (l.length/2)≠[]:=by intro e;rw[e] at p;simp at p;omega
   have d:=EE n (c:=c) (l:=l.take (l.length/2)) n1 an (λe a=>i e (aaG a)) (λe a=>f e (aaG a)) j;have v:=d.grown.len;have q:=EE n (c:=(bx n c (l.take (l.length/2)) o).1) (l:=l.drop (l.length/2)) t an ((show k9 c _ from λe a=>i e (aao a)).grown d.grown) (λe a=>f e (aao a)) ⟨j.1,an⟩;have w:=q.grown.len
   have g:l.getD (l.length/2) (0,0)∈l:=by rw[aas,aae an];exact aag _
   have b:=Tb (c:=(bx n (bx n c (l.take (l.length/2)) o).1 (l.drop (l.length/2)) o).1) (op:=53) (k:=(l.getD (l.length/2) (0,0)).1) (.inr (.inr rfl)) (f _ g) q.jH ⟨d.jH.1,by have:=d.jH.2;omega⟩;exact((d.trans q).trans b).mono (by rw[m,p];omega)
def As(v0:Nat)(vs:Nat->Nat)(a:Nat)(l:List (Nat×Nat)):Nat:=if a∈l.map (·.1) then vs a else v0
def ZJ{o:Nat}{d:Da}{a v0:Nat}{vs:Nat->Nat}:∀(n:Nat) {c:List af} {l:List (Nat×Nat)},l≠[]->l.length<=n->k9 c l->(∀e∈l,e.1<4294967296)->(1<=o/\o<=c.length)->(l.map (·.1)).Pairwise (·<·) ->
  qD d c o v0->(∀e∈l,qD d c e.2 (vs e.1))->GH d (bx n c l o).1 (bx n c l o).2 a (As v0 vs a l)
 | 0,c,l,j,J,_,_,_,_,_,_=>absurd (aa5.1 an) j
 | n+1,c,l,j,J,m,z,g,K,p,r=>by
  have P:0<l.length:=aav.2 j;unfold bx;split
  .rename_i A;obtain⟨e,rfl⟩:=List.length_eq_one_iff.1 A;have b:[e].getD 0 (0,0)=e:=rfl;rw[b];intro s h i;simp only;rw[zR,Lh (.inl rfl) (m e ir) g];simp only[takeN,if_true,i,As,aaT,abV,aap]
   by_cases q:a=e.1
   .subst q;simp;exact r e ir s h
   .simp[q];exact p s h
  .rename_i A
   have B:(l.take (l.length/2)).length=l.length/2:=by rw[aax];omega
   have C:(l.drop (l.length/2)).length=l.length-l.length/2:=by rw[aay]
   have n1:l.take (l.length/2)≠[]:=by intro e;rw[e] at B;simp at B;omega
   have D:l.drop (l.length/2)≠[]:=by intro e;rw[e] at C;simp at C;omega
   have E:k9 c (l.take (l.length/2)):=λe b=>m e (aaG b);have t:k9 c (l.drop (l.length/2)):=λe b=>m e (aao b);have F:∀e∈l.take (l.length/2),e.1<4294967296:=λe b=>z e (aaG b);have G:∀e∈l.drop (l.length/2),e.1<4294967296:=λe b=>z e (aao b);have f:=EE n (c:=c) (l:=l.take (l.length/2)) n1 an E F g;have Q:=f.grown.len;have u:=EE n (c:=(bx n c (l.take (l.length/2)) o).1) (l:=l.drop (l.length/2)) D an (t.grown f.grown) G ⟨g.1,an⟩
   have R:=u.grown.len;obtain⟨k,H⟩:=bb (l[l.length/2]'(by omega))
   have L:l.getD (l.length/2) (0,0)=k:=by rw[aas,aae an,H];rfl
   have v:l.map (·.1)=(l.take (l.length/2)).map (·.1)++(l.drop (l.length/2)).map (·.1):=by rw[<-acI,List.take_append_drop]
   have w:l.drop (l.length/2)=k::l.drop (l.length/2+1):=by rw[aaA an,H]
   have I:=K;rw[v,abF] at I;obtain⟨p1,p2,p3⟩:=I;have M:=ZJ (a:=a) n (c:=c) (l:=l.take (l.length/2)) n1 an E F g p1 p (λe b=>r e (aaG b))
   have N:=ZJ (a:=a) n (c:=(bx n c (l.take (l.length/2)) o).1) (l:=l.drop (l.length/2)) D an (t.grown f.grown) G ⟨g.1,an⟩ p2 (p.grown f.grown g.2)
    (λe b=>(r e (aao b)).grown f.grown (t e b).2)
   have x:=M.grown u.grown f.jH.2;rw[L];intro s h i;simp only;rw[zR,Lh (.inr (.inr rfl)) u.jH ⟨f.jH.1,by have:=f.jH.2;omega⟩];simp only[takeN,show((53:Int)=21)=False by simp,show((53:Int)=37)=False by simp,if_false,i]
   have O:k.1∈(l.drop (l.length/2)).map (·.1):=by rw[w];simp
   by_cases q:k.1<=a
   .simp only[q,decide_true,if_true];rw[N s h i]
    have y:a∉(l.take (l.length/2)).map (·.1):=λhm=>by have:=p3 a hm k.1 O;omega
    unfold As;rw[v];simp only[aar,y,false_or]
   .simp only[q,decide_false,aat,if_false];rw[x s h i]
    have y:a∉(l.drop (l.length/2)).map (·.1):=λhm=>by
     rw[w,aaT,abo] at p2;rw[w,aaT] at hm
     rcases aai.1 hm with e|hm
     .omega
     .have:=p2.1 a hm;omega
    unfold As;rw[v];simp only[aar,y,or_false]
def vX(l:List Nat)(a:Nat):List Nat:=if a∈l then l else l++[a]
def C_(l:List Nat):List Nat:=l.foldl vX []
def zpX(l:List Nat)(a:Nat):C_ (l++[a])=vX (C_ l) a:=by simp[C_,List.foldl_append]
def zpY(a:Nat):∀(l c:List Nat),a∈l.foldl vX c↔a∈c\/a∈l
 | [],c=>by simp
 | b::l,c=>by
  rw[abG,zpY a l];unfold vX;split
  .rename_i h;rw[aai];constructor
   .rintro(d|d)
    .exact .inl d
    .exact .inr (.inr d)
   .rintro(d|rfl|d)
    .exact .inl d
    .exact .inl h
    .exact .inr d
  .simp[or_assoc]
def Db(l:List Nat)(a:Nat):a∈C_ l↔a∈l:=by rw[C_,zpY];simp
def znP:∀(l a:List Nat),a.Nodup->(l.foldl vX a).Nodup
 | [],a,h=>h
 | b::l,a,h=>by
  rw[abG];refine znP l _ ?_;unfold vX;split
  .exact h
  .rename_i d;rw[List.nodup_append];exact⟨h,ir,λx f y c e=>d (by rw[aap] at c;rw[<-c,<-e];exact f)⟩
def Lm(l:List Nat):(C_ l).Nodup:=znP l [] ir
def OX:∀(l a:List Nat),(l.foldl vX a).length<=a.length+l.length
 | [],a=>by simp
 | b::l,a=>by
  rw[abG];have:=OX l (vX a b)
  have c:(vX a b).length<=a.length+1:=by unfold vX;split<;>simp
  simp only[aaj];omega
def sS(x:Nat)(l:List Nat):List Nat:=l.takeWhile (λy=>decide (y<=x))++x::l.dropWhile (λy=>decide (y<=x))
def k_(l:List Nat):List Nat:=l.foldl (λa x=>sS x a) []
def zBK(x:Nat)(l:List Nat):(sS x l).Perm (x::l):=by unfold sS;refine acB.trans ?_;rw[abB]
def zrH:∀(l a:List Nat),(l.foldl (λa x=>sS x a) a).Perm (a++l)
 | [],a=>by simp
 | x::l,a=>by
  rw[abG];refine(zrH l _).trans ?_;refine((zBK x a).append_right l).trans ?_;rw[abl];exact acB.symm
def I1(l:List Nat):(k_ l).Perm l:=by have:=zrH l [];simpa[k_] using this
def zyD(x:Nat):∀{l:List Nat},l.Pairwise (·<=·)->∀y∈l.dropWhile (λy=>decide (y<=x)),x<=y
 | [],_,y,a=>by simp at a
 | b::l,h,y,a=>by
  rw[List.dropWhile_cons] at a;split at a
  .exact zyD x (abo.1 h).2 y a
  .rename_i c;simp only[decide_eq_true_eq] at c
   rcases aai.1 a with rfl|a
   .omega
   .have:=(abo.1 h).1 y a;omega
def ZL(x:Nat):∀{l:List Nat},∀y∈l.takeWhile (λy=>decide (y<=x)),y<=x
 | [],y,a=>by simp at a
 | b::l,y,a=>by
  rw[List.takeWhile_cons] at a;split at a
  .rename_i c;simp only[decide_eq_true_eq] at c
   rcases aai.1 a with rfl|a
   .exact c
   .exact ZL x y a
  .simp at a
def zxJ(x:Nat){l:List Nat}(h:l.Pairwise (·<=·)):(sS x l).Pairwise (·<=·):=by
 have c:=h;rw[<-abB (p:=λy=>decide (y<=x)) (l:=l),abF] at c;obtain⟨e,f,g⟩:=c;unfold sS;rw[abF,abo];refine⟨e,⟨zyD x h,f⟩,λa d b hb=>?_⟩
 rcases aai.1 hb with rfl|hb
 .exact ZL _ a d
 .exact g a d b hb
def zoG:∀(l a:List Nat),a.Pairwise (·<=·)->(l.foldl (λa x=>sS x a) a).Pairwise (·<=·)
 | [],a,h=>h
 | x::l,a,h=>zoG l _ (zxJ x h)
def zwj{l:List Nat}(h:l.Nodup):(k_ l).Pairwise (·<·):=by have c:=zoG l [] List.Pairwise.nil;have d:(k_ l).Nodup:=(I1 l).nodup_iff.2 h;refine List.Pairwise.imp₂ ?_ c d;intro a b e f;exact Nat.lt_of_le_of_ne e f
def fR(rs:List Ru)(a:Nat):List Nat:=C_ ((rs.filter λr=>decide (r.aC=a)).map (·.nr))
def eD(rs:List Ru):List Nat:=C_ (rs.map (·.aC))
def e_(rs:List Ru)(a n:Nat):List Ru:=rs.filter λr=>decide (r.aC=a/\r.nr=n)
def bF(R:Nat->List Ru)(o:Nat):List Nat->List af->List af×List (Nat×Nat)
 | [],c=>(c,[])
 | n::l,c=>((bF R o l (mQ (R n) (c,o)).1).1,(n,(mQ (R n) (c,o)).2)::(bF R o l (mQ (R n) (c,o)).1).2)
def rW(rs:List Ru)(o a:Nat)(c:List af):List af :=
 bj (bx (bF (e_ rs a) o (k_ (fR rs a)) c).2.length (bF (e_ rs a) o (k_ (fR rs a)) c).1 (bF (e_ rs a) o (k_ (fR rs a)) c).2 o).1 32 0
def iM(rs:List Ru)(o:Nat):List Nat->List af->List af×List (Nat×Nat)
 | [],c=>(c,[])
 | a::l,c=>((iM rs o l (rW rs o a c)).1,(a,(rW rs o a c).length)::(iM rs o l (rW rs o a c)).2)
def cO:List (Nat×Nat)->pV->pV
 | [],s=>s
 | x::l,s=>cO l (fZ s.1 21 x.1 x.2 s.2,(fZ s.1 21 x.1 x.2 s.2).length)
def jw(p:Po):List af :=
 if(iM p.rules 1 (eD p.rules) (bj [] 6 p.cC)).2=[] then(cO (iM p.rules 1 (eD p.rules) (bj [] 6 p.cC)).2 ((iM p.rules 1 (eD p.rules) (bj [] 6 p.cC)).1,1)).1
 else bj (cO (iM p.rules 1 (eD p.rules) (bj [] 6 p.cC)).2 ((iM p.rules 1 (eD p.rules) (bj [] 6 p.cC)).1,1)).1 32 4
def iF(w:Ru->Nat):List Ru->Nat
 | []=>0
 | r::l=>w r+iF w l
def GI(r:Ru):Nat:=1+13*r.conds.length
def zyE:∀l:List Ru,vd l=iF GI l
 | []=>rfl
 | r::l=>by rw[vd,iF,zyE l,GI]
def fc{α:Type}(g:α->Nat):List α->Nat
 | []=>0
 | x::l=>g x+fc g l
def zwk(g:Nat->Nat)(k c:Nat):∀{l:List Nat},l.Nodup->fc (λn=>(if k=n then c else 0)+g n) l<=c+fc g l
 | [],_=>by simp[fc]
 | x::l,h=>by
  rw[List.nodup_cons] at h;simp only[fc]
  by_cases e:k=x
  .subst e
   have d:∀{l:List Nat},k∉l->fc (λn=>(if k=n then c else 0)+g n) l=fc g l:=by
    intro l
    induction l with
    | nil=>intro _;rfl
    | cons y l b =>
     intro a;simp only[aai,not_or] at a;simp only[fc,if_neg a.1,b a.2,Nat.zero_add]
   rw[d h.1,if_pos rfl];omega
  .have b:=zwk g k c h.2;rw[if_neg e];omega
def zyF{α:Type}{f g:α->Nat}:∀{l:List α},(∀x∈l,f x<=g x)->fc f l<=fc g l
 | [],_=>aak _
 | x::l,h=>by
  have:=zyF (l:=l) λy a=>h y (by simp[a]);have:=h x ir;simp only[fc];omega
def ZM{α:Type}{f g:α->Nat}:∀{l:List α},(∀x∈l,f x=g x)->fc f l=fc g l
 | [],_=>rfl
 | x::l,h=>by simp only[fc,h x ir,ZM (l:=l) λy a=>h y (by simp[a])]
def ZN(w:Ru->Nat)(key:Ru->Nat){l:List Nat}(a:l.Nodup):∀rs:List Ru,fc (λn=>iF w (rs.filter λr=>decide (key r=n))) l<=iF w rs
 | []=>by
  have:∀l:List Nat,fc (λn=>iF w ([].filter λr=>decide (key r=n))) l=0:=by
   intro l;induction l with
   | nil=>rfl
   | cons x l b=>simp only[fc,b];rfl
  rw[this];exact acw _
 | r::rs=>by
  have b:=ZN w key a rs
  have e:∀n,iF w ((r::rs).filter λr=>decide (key r=n))=(if key r=n then w r else 0)+iF w (rs.filter λr=>decide (key r=n)):=by
   intro n;rw[acC]
   by_cases h:key r=n<;>simp[h,iF]
  rw[ZM λn _=>e n];have:=zwk (λn=>iF w (rs.filter λr=>decide (key r=n))) (key r) (w r) a;simp only[iF];omega
def zz0(rs:List Ru)(a n:Nat):e_ rs a n=(rs.filter λr=>decide (r.aC=a)).filter λr=>decide (r.nr=n):=by
 rw[List.filter_filter];unfold e_
 congr 1
 funext r
 rw[aaq];simp[and_comm]
def zBL(rs:List Ru)(a:Nat):(fR rs a).length<=iF (λ_=>1) (rs.filter λr=>decide (r.aC=a)):=by
 have h:∀l:List Ru,iF (λ_=>1) l=l.length:=by
  intro l;induction l with
  | nil=>rfl
  | cons x l b=>simp only[iF,b,aaj];omega
 rw[h]
 have:=OX ((rs.filter λr=>decide (r.aC=a)).map (·.nr)) []
 simpa[fR,C_] using this
section
variable {rs:List Ru} {o:Nat}
def Dc(R:Nat->List Ru)(l:List Nat):Nat:=fc (λn=>vd (R n)) l
def I2{R:Nat->List Ru}:∀{l:List Nat} {c:List af},(∀n∈l,∀r∈R n,r.df)->(1<=o/\o<=c.length)->Came c ((bF R o l c).1,o) (Dc R l)/\k9 (bF R o l c).1 (bF R o l c).2/\(bF R o l c).2.map (·.1)=l
 | [],c,_,h=>⟨Came.self h,by intro e he;simp[bF] at he,rfl⟩
 | n::l,c,j,g=>by
  have d:=Lj (l:=R n) (s:=(c,o)) (j n ir) g;have i:=d.grown.len;obtain⟨f,k,p⟩:=I2 (l:=l) (c:=(mQ (R n) (c,o)).1) (λm q=>j m (by simp[q])) ⟨g.1,by have:=g.2;simp only at i;omega⟩;have t:=f.grown.len
  refine⟨⟨(d.grown.trans f.grown).mono (by simp[Dc,fc]),f.jH,λa b=>f.sound (d.sound a (by simp only[Dc,fc] at b;simp only;omega)) (by simp only[Dc,fc] at b |-;simp only at i;omega),
   λa b=>f.ks (d.ks a (by simp only[Dc,fc] at b;simp only;omega)) (by simp only[Dc,fc] at b |-;simp only at i;omega)⟩,?_,by simp only[bF,aaT,p]⟩
  intro e he;simp only[bF,aai] at he |-
  rcases he with rfl|he
  .exact⟨d.jH.1,by have:=d.jH.2;simp only at t |-;omega⟩
  .exact k e he
def zwl{R:Nat->List Ru}{d:Da}(hd:d.ok){v0:Nat}:∀{l:List Nat} {c:List af},(∀n∈l,∀r∈R n,r.df)->(1<=o/\o<=c.length)->qD d c o v0->∀e∈(bF R o l c).2,qD d (bF R o l c).1 e.2 (zT d v0 (R e.1))
 | [],c,_,_,_,e,he=>by simp[bF] at he
 | n::l,c,b,a,h,e,he=>by
  have f:=Lj (l:=R n) (s:=(c,o)) (b n ir) a;have j:=f.grown.len;have i:1<=o/\o<=(mQ (R n) (c,o)).1.length:=⟨a.1,by have:=a.2;simp only at j;omega⟩;obtain⟨k,q,t⟩:=I2 (R:=R) (l:=l) (c:=(mQ (R n) (c,o)).1) (λm g=>b m (by simp[g])) i;have p:=zwl hd (R:=R) (l:=l) (c:=(mQ (R n) (c,o)).1) (λm g=>b m (by simp[g])) i (h.grown f.grown a.2);simp only[bF,aai] at he |-
  rcases he with rfl|he
  .exact(ztX hd (l:=R n) (s:=(c,o)) (b n ir) a h).grown k.grown f.jH.2
  .exact p e he
def ZO{R:Nat->List Ru}{l:List Nat}{c:List af}(h:(bF R o l c).2.map (·.1)=l):(bF R o l c).2.length=l.length:=by rw[<-acK (f:=(·.1)),h]
def EG(rs:List Ru)(a:Nat):Nat:=Dc (e_ rs a) (k_ (fR rs a))+6*(fR rs a).length
def OY{l:List Nat}{x:Nat}:x∈k_ l↔x∈l:=(I1 l).mem_iff
def OZ{a:Nat}(h:a∈eD rs):fR rs a≠[]:=by
 rw[eD,Db,aan] at h;obtain⟨r,b,rfl⟩:=h;intro e
 have:r.nr∈fR rs r.aC:=by rw[fR,Db,aan];exact⟨r,abH.2 ⟨b,ir⟩,rfl⟩
 rw[e] at this;simp at this
def O0(b:∀r∈rs,r.df){a n:Nat}(h:n∈fR rs a):n<4294967296:=by rw[fR,Db,aan] at h;obtain⟨r,c,rfl⟩:=h;exact(b r (abH.1 c).1).2.2.1
def I3(b:∀r∈rs,r.df){a n:Nat}:∀r∈e_ rs a n,r.df:=λr c=>b r (abH.1 c).1
def ZP(d:∀r∈rs,r.df){a:Nat}(f:a∈eD rs){c:List af}(i:1<=o/\o<=c.length):Came c (rW rs o a c,(rW rs o a c).length) (EG rs a):=by
 obtain⟨g,j,b⟩:=I2 (R:=e_ rs a) (l:=k_ (fR rs a)) (c:=c) (λ_ _=>I3 d) i
 have m:(bF (e_ rs a) o (k_ (fR rs a)) c).2≠[]:=by intro e;rw[e] at b;have h:=(I1 (fR rs a)).length_eq;rw[<-b] at h;exact OZ f (aa5.1 (by simpa using h.symm))
 have n:=ZO b;rw[(I1 _).length_eq] at n;have s:0<(fR rs a).length:=aav.2 (OZ f);have t:=EE (o:=o) _ m (aak _) j (λe q=>O0 d (a:=a) (OY.1 (by rw[<-b];exact aan.2 ⟨e,q,rfl⟩))) g.jH;have p:=Ta (c:=(bx (bF (e_ rs a) o (k_ (fR rs a)) c).2.length (bF (e_ rs a) o (k_ (fR rs a)) c).1 (bF (e_ rs a) o (k_ (fR rs a)) c).2 o).1) (op:=32) (k:=0) (.inr (.inr ⟨rfl,ag7,ag7⟩)) ag7
 exact((g.trans t).trans p).mono (by unfold EG;omega)
def zD0(n:Nat)(c:List af)(l:List (Nat×Nat)):(bx (n+1) c l o).2=(bx (n+1) c l o).1.length:=by
 unfold bx
 split<;>rfl
def zFu(d:Da):(pG d 0).1=d.nr/\(pG d 4).1=d.aC:=by constructor<;>simp[pG,iV]
def ZQ{a n:Nat}(h:n∉fR rs a):e_ rs a n=[]:=by rw[e_,ab4];intro r c b;simp only[decide_eq_true_eq] at b;refine h ?_;rw[fR,Db,aan];exact⟨r,abH.2 ⟨c,by simp[b.1]⟩,b.2⟩
def zD1(g:∀r∈rs,r.df){a:Nat}(v:a∈eD rs){c:List af}(i:1<=o/\o<=c.length){d:Da}(hd:d.ok){v0:Nat}(f:qD d c o v0):qD d (rW rs o a c) (rW rs o a c).length (zT d v0 (e_ rs a d.nr)):=by
 obtain⟨j,u,b⟩:=I2 (R:=e_ rs a) (l:=k_ (fR rs a)) (c:=c) (λ_ _=>I3 g) i;have w:=zwl hd (R:=e_ rs a) (l:=k_ (fR rs a)) (c:=c) (λ_ _=>I3 g) i f
 have k:(bF (e_ rs a) o (k_ (fR rs a)) c).2≠[]:=by intro e;rw[e] at b;have f:=(I1 (fR rs a)).length_eq;rw[<-b] at f;exact OZ v (aa5.1 (by simpa using f.symm))
 have t:=ZJ (o:=o) (a:=d.nr) (v0:=v0) (vs:=λn=>zT d v0 (e_ rs a n)) _ k (aak _) u (λe p=>O0 g (a:=a) (OY.1 (by rw[<-b];exact aan.2 ⟨e,p,rfl⟩))) j.jH
  (by rw[b];exact zwj (Lm _)) (f.grown j.grown i.2) w
 have A:=EE (o:=o) _ k (aak _) u (λe p=>O0 g (a:=a) (OY.1 (by rw[<-b];exact aan.2 ⟨e,p,rfl⟩))) j.jH
 have x:(bx (bF (e_ rs a) o (k_ (fR rs a)) c).2.length (bF (e_ rs a) o (k_ (fR rs a)) c).1 (bF (e_ rs a) o (k_ (fR rs a)) c).2 o).2=(bx (bF (e_ rs a) o (k_ (fR rs a)) c).2.length (bF (e_ rs a) o (k_ (fR rs a)) c).1 (bF (e_ rs a) o (k_ (fR rs a)) c).2 o).1.length:=by obtain⟨m,q⟩:∃m,(bF (e_ rs a) o (k_ (fR rs a)) c).2.length=m+1:=⟨_,(Nat.succ_pred_eq_of_pos (aav.2 k)).symm⟩;rw[q];exact zD0 _ _ _
 have y:As v0 (λn=>zT d v0 (e_ rs a n)) d.nr (bF (e_ rs a) o (k_ (fR rs a)) c).2=zT d v0 (e_ rs a d.nr):=by
  unfold As;rw[b];split
  .rfl
  .rename_i h;rw[ZQ (λq=>h (OY.2 q))];rfl
 intro s z;rw[zR,rW,S8,(zFu d).1];have:=t { s with a:=d.nr } (St.EA z hd.1) rfl;rw[x,zR,y] at this;exact this
def BT(rs:List Ru)(l:List Nat):Nat:=fc (EG rs) l
def Ln(j:∀r∈rs,r.df):∀{l:List Nat} {c:List af},(∀a∈l,a∈eD rs)->(1<=o/\o<=c.length)->Came c ((iM rs o l c).1,o) (BT rs l)/\k9 (iM rs o l c).1 (iM rs o l c).2/\(iM rs o l c).2.map (·.1)=l
 | [],c,_,h=>⟨Came.self h,by intro e he;simp[iM] at he,rfl⟩
 | a::l,c,k,g=>by
  have d:=ZP j (k a ir) g;have i:=d.grown.len;obtain⟨f,n,p⟩:=Ln j (l:=l) (c:=rW rs o a c) (λm q=>k m (by simp[q])) ⟨g.1,by have:=g.2;simp only at i;omega⟩;have s:=f.grown.len
  refine⟨⟨(d.grown.trans f.grown).mono (by simp[BT,fc]),f.jH,λa b=>f.sound (d.sound a (by simp only[BT,fc] at b;omega)) (by simp only[BT,fc] at b |-;simp only at i;omega),
   λa b=>f.ks (d.ks a (by simp only[BT,fc] at b;omega)) (by simp only[BT,fc] at b |-;simp only at i;omega)⟩,?_,by simp only[iM,aaT,p]⟩
  intro e he;simp only[iM,aai] at he |-
  rcases he with rfl|he
  .exact⟨d.jH.1,by have:=d.jH.2;simp only at s |-;omega⟩
  .exact n e he
def ztY(f:∀r∈rs,r.df){d:Da}(hd:d.ok){v0:Nat}:∀{l:List Nat} {c:List af},(∀a∈l,a∈eD rs)->(1<=o/\o<=c.length)->qD d c o v0->∀e∈(iM rs o l c).2,qD d (iM rs o l c).1 e.2 (zT d v0 (e_ rs e.1 d.nr))
 | [],c,_,_,_,e,he=>by simp[iM] at he
 | a::l,c,g,b,j,e,he=>by
  have h:=ZP f (g a ir) b;have n:=h.grown.len;have k:1<=o/\o<=(rW rs o a c).length:=⟨b.1,by have:=b.2;simp only at n;omega⟩;obtain⟨p,s,t⟩:=Ln f (l:=l) (c:=rW rs o a c) (λm i=>g m (by simp[i])) k;have q:=ztY f hd (l:=l) (c:=rW rs o a c) (λm i=>g m (by simp[i])) k (j.grown h.grown b.2);simp only[iM,aai] at he |-
  rcases he with rfl|he
  .exact(zD1 f (g a ir) b hd j).grown p.grown h.jH.2
  .exact q e he
def Td:∀{l:List (Nat×Nat)} {s:pV},k9 s.1 l->(∀e∈l,e.1<4294967296)->(1<=s.2/\s.2<=s.1.length)->Came s.1 (cO l s) (3*l.length)
 | [],s,_,_,h=>Came.self h
 | x::l,s,d,f,g=>by
  have b:=Tb (c:=s.1) (op:=21) (k:=x.1) (.inl rfl) (f x ir) (d x ir) g;have i:=Td (l:=l) (s:=(fZ s.1 21 x.1 x.2 s.2,(fZ s.1 21 x.1 x.2 s.2).length)) ((show k9 s.1 l from λe a=>d e (by simp[a])).grown b.grown) (λe a=>f e (by simp[a])) b.jH;exact(b.trans i).mono (by simp only[aaj];omega)
def ztZ{d:Da}{a:Nat}{vs:Nat->Nat}:∀{l:List (Nat×Nat)} {s:pV} {v0:Nat},k9 s.1 l->(∀e∈l,e.1<4294967296)->(1<=s.2/\s.2<=s.1.length)->GH d s.1 s.2 a v0->(∀e∈l,qD d s.1 e.2 (vs e.1))->GH d (cO l s).1 (cO l s).2 a (As v0 vs a l)
 | [],s,v0,_,_,_,h,_=>by simpa[cO,As] using h
 | x::l,s,v0,g,i,j,u,n=>by
  have b:=Tb (c:=s.1) (op:=21) (k:=x.1) (.inl rfl) (i x ir) (g x ir) j
  have hd:GH d (fZ s.1 21 x.1 x.2 s.2) (fZ s.1 21 x.1 x.2 s.2).length a (if a=x.1 then vs x.1 else v0):=by
   intro t o p;rw[zR,Lh (.inl rfl) (g x ir) j];simp only[takeN,if_true,p]
   by_cases q:a=x.1
   .simp[q];exact n x ir t o
   .simp[q];exact u t o p
  have r:=(show k9 s.1 l from λe f=>g e (by simp[f]));have v:=ztZ (vs:=vs) (l:=l) (s:=(fZ s.1 21 x.1 x.2 s.2,(fZ s.1 21 x.1 x.2 s.2).length)) (r.grown b.grown) (λe f=>i e (by simp[f])) b.jH hd (λe f=>(n e (by simp[f])).grown b.grown (r e f).2)
  have e:As v0 vs a (x::l)=As (if a=x.1 then vs x.1 else v0) vs a l:=by
   unfold As;simp only[aaT,aai]
   by_cases q:a=x.1
   .subst q;simp
   .by_cases m:a∈l.map (·.1)
    .rw[if_pos (.inr m),if_pos m]
    .rw[if_neg (λh=>h.elim q m),if_neg m,if_neg q]
  rw[e];exact v
end
def Po.df(p:Po):Prop:=(∀r∈p.rules,r.df)/\p.cC<4294967296
def EH(p:Po):Nat:=BT p.rules (eD p.rules)+3*(eD p.rules).length+1
def Te(d:Da)(p:Po):Nat:=zT d p.cC (e_ p.rules d.aC d.nr)
def zyG{w v:Ru->Nat}:∀{l:List Ru},(∀r∈l,w r<=v r)->iF w l<=iF v l
 | [],_=>aak _
 | r::l,h=>by
  have:=zyG (l:=l) λy a=>h y (by simp[a]);have:=h r ir;simp only[iF];omega
def zwm(w v:Ru->Nat):∀l:List Ru,iF (λr=>w r+v r) l=iF w l+iF v l
 | []=>rfl
 | r::l=>by simp only[iF,zwm w v l];omega
def Tf(k:Nat):∀l:List Ru,iF (λ_=>k) l=k*l.length
 | []=>rfl
 | r::l=>by simp only[iF,Tf k l,aaj,Nat.mul_add];omega
def zD2(rs:List Ru)(a:Nat):EG rs a<=iF (λr=>GI r+6) (rs.filter λr=>decide (r.aC=a)):=by
 have c:=ZN GI (·.nr) (l:=k_ (fR rs a)) ((I1 _).nodup_iff.2 (Lm _)) (rs.filter λr=>decide (r.aC=a))
 have b:=zBL rs a;rw[Tf] at b;rw[zwm,Tf]
 have e:Dc (e_ rs a) (k_ (fR rs a))=fc (λn=>iF GI ((rs.filter λr=>decide (r.aC=a)).filter λr=>decide (r.nr=n))) (k_ (fR rs a)) :=
  ZM λn _=>by rw[zyE,zz0]
 unfold EG;rw[e];omega
def ZS(rs:List Ru):(eD rs).length<=rs.length:=by
 have:=OX (rs.map (·.aC)) []
 simpa[eD,C_] using this
def ZT{p:Po}(e:p.rules.length<=64)(b:∀r∈p.rules,r.conds.length<=4):EH p<=4095:=by
 have f:=zyF (l:=eD p.rules) λa _=>zD2 p.rules a
 have g:=ZN (λr=>GI r+6) (·.aC) (l:=eD p.rules) (Lm _) p.rules
 have c:=zyG (w:=λr=>GI r+6) (v:=λ_=>59) (l:=p.rules) λr d=>by have:=b r d;simp only[GI];omega
 rw[Tf] at c;have h:=ZS p.rules;unfold EH BT;omega
def fE(d:Da)(r:Ru):Bool:=Cd.oO d r.conds&&decide (r.aC=d.aC)&&decide (r.nr=d.nr)
def zrJ(d:Da)(v0:Nat):∀rs:List Ru,zT d v0 (e_ rs d.aC d.nr)=((rs.find? (fE d)).map (·.act)).getD v0
 | []=>rfl
 | r::rs=>by
  have c:=zrJ d v0 rs;unfold e_ at c |-;rw[acC,acD]
  by_cases h:r.aC=d.aC/\r.nr=d.nr
  .rw[if_pos (by simpa using h)];cases b:Cd.oO d r.conds
   .have a:fE d r=false:=by simp[fE,b]
    simp only[zT,b,a];simpa using c
   .have a:fE d r=true:=by simp[fE,b,h]
    simp[zT,b,a]
  .rw[if_neg (by simpa using h)]
   have a:fE d r=false:=by
    cases e:fE d r with
    | false=>rfl
    | true=>simp only[fE,aaf,decide_eq_true_eq] at e;exact absurd ⟨e.1.2,e.2⟩ h
   rw[a];exact c
def zBM(k:Nat):dE (bj [] 6 k)=true:=by
 have b:(oJ 6).map (λr=>(r.2.2.1,r.2.2.2))=some (true,false):=by decide
 rw[aaZ] at b;obtain⟨r,c,a⟩:=b;simp only[ack.injEq] at a;simp[dE,bj,j0,b_,jv,kI,kJ,c,a.1,a.2,aX,gu]
 done
def zt0:∀{l:List (Nat×Nat)} {s:pV},l≠[]->(cO l s).2=(cO l s).1.length
 | [],_,h=>absurd rfl h
 | [x],s,_=>rfl
 | x::y::l,s,_=>zt0 (l:=y::l) ir
def zpZ{p:Po}(d:p.df):nV (bj [] 6 p.cC) (jw p) (EH p)/\(EH p<=4095->dE (jw p)=true/\yZ (jw p)):=by
 obtain⟨m,u,g⟩:=Ln (rs:=p.rules) (o:=1) d.1 (l:=eD p.rules) (c:=bj [] 6 p.cC) (λ_ h=>h) ⟨aak _,aak _⟩
 have v:∀e∈(iM p.rules 1 (eD p.rules) (bj [] 6 p.cC)).2,e.1<4294967296:=by
  intro e a
  have:e.1∈eD p.rules:=by rw[<-g];exact aan.2 ⟨e,a,rfl⟩
  rw[eD,Db,aan] at this;obtain⟨r,w,h⟩:=this;rw[<-h];exact(d.1 r w).2.1
 have x:=Td (s:=((iM p.rules 1 (eD p.rules) (bj [] 6 p.cC)).1,1)) u v m.jH
 have b:(iM p.rules 1 (eD p.rules) (bj [] 6 p.cC)).2.length=(eD p.rules).length:=by rw[<-acK (f:=(·.1)),g]
 have n:=zBM p.cC;have q:yZ (bj [] 6 p.cC):=Li d.2 (λy z=>by simp at z);have t:(bj [] 6 p.cC).length=1:=rfl
 by_cases a:(iM p.rules 1 (eD p.rules) (bj [] 6 p.cC)).2=[]
 .have A:eD p.rules=[]:=by rw[<-g,a];rfl
  have i:jw p=bj [] 6 p.cC:=by unfold jw;rw[if_pos a,a,A];rfl
  rw[i];exact⟨(nV.refl _).mono (acw _),λ_=>⟨n,q⟩⟩
 .have B:=Ta (c:=(cO (iM p.rules 1 (eD p.rules) (bj [] 6 p.cC)).2 ((iM p.rules 1 (eD p.rules) (bj [] 6 p.cC)).1,1)).1) (op:=32) (k:=4) (.inr (.inr ⟨rfl,ag7,ag7⟩)) ag7;have j:=((m.trans x).trans B).mono (show _<=EH p by rw[b];exact aak _)
  have i:jw p=bj (cO (iM p.rules 1 (eD p.rules) (bj [] 6 p.cC)).2 ((iM p.rules 1 (eD p.rules) (bj [] 6 p.cC)).1,1)).1 32 4:=by unfold jw;rw[if_neg a]
  rw[i];exact⟨j.grown,λC=>⟨j.sound n (by rw[t];omega),j.ks q (by rw[t];omega)⟩⟩
def zz1{p:Po}(j:p.df):nV (bj [] 6 p.cC) (jw p) (EH p)/\(EH p<=4095->dE (jw p)=true/\yZ (jw p))/\∀d:Da,d.ok->qD d (jw p) (jw p).length (Te d p):=by
 obtain⟨f,g⟩:=zpZ j;obtain⟨q,v,k⟩:=Ln (rs:=p.rules) (o:=1) j.1 (l:=eD p.rules) (c:=bj [] 6 p.cC) (λ_ h=>h) ⟨aak _,aak _⟩
 have w:∀e∈(iM p.rules 1 (eD p.rules) (bj [] 6 p.cC)).2,e.1<4294967296:=by
  intro e b
  have:e.1∈eD p.rules:=by rw[<-k];exact aan.2 ⟨e,b,rfl⟩
  rw[eD,Db,aan] at this;obtain⟨r,i,h⟩:=this;rw[<-h];exact(j.1 r i).2.1
 have m:∀d:Da,qD d (bj [] 6 p.cC) 1 p.cC:=λd=>zyC d [] p.cC;have x:∀d:Da,d.ok->_:=λd hd=>ztY (rs:=p.rules) (o:=1) j.1 hd (l:=eD p.rules) (c:=bj [] 6 p.cC) (λ_ h=>h) ⟨aak _,aak _⟩ (m d)
 by_cases b:(iM p.rules 1 (eD p.rules) (bj [] 6 p.cC)).2=[]
 .have t:eD p.rules=[]:=by rw[<-k,b];rfl
  have i:p.rules=[]:=by
   cases y:p.rules with
   | nil=>rfl
   | cons r l =>
    have:r.aC∈eD p.rules:=by rw[eD,Db];exact aan.2 ⟨r,by rw[y];simp,rfl⟩
    rw[t] at this;simp at this
  have n:jw p=bj [] 6 p.cC:=by unfold jw;rw[if_pos b,b,t];rfl
  refine⟨f,g,λd hd=>?_⟩;rw[n]
  have:Te d p=p.cC:=by unfold Te e_;rw[i];rfl
  rw[this];exact m d
 .have n:jw p=bj (cO (iM p.rules 1 (eD p.rules) (bj [] 6 p.cC)).2 ((iM p.rules 1 (eD p.rules) (bj [] 6 p.cC)).1,1)).1 32 4:=by unfold jw;rw[if_neg b]
  have z:=zt0 (s:=((iM p.rules 1 (eD p.rules) (bj [] 6 p.cC)).1,1)) b;refine⟨f,g,λd hd=>?_⟩;rw[n];have A:=ztZ (a:=d.aC) (vs:=λa=>zT d p.cC (e_ p.rules a d.nr)) v w q.jH ((m d).grown q.grown (aak _) |>.dep d.aC) (x d hd);intro s B;rw[zR,S8,(zFu d).2];have:=A { s with a:=d.aC } (St.EA B hd.2.1) rfl;rw[z,zR] at this;rw[this];unfold As Te;rw[k];split
  .rfl
  .rename_i h
   have:e_ p.rules d.aC d.nr=[]:=by rw[e_,ab4];intro r i u;simp only[decide_eq_true_eq] at u;exact h (by rw[eD,Db,aan];exact⟨r,i,u.1⟩)
   rw[this];rfl
end Go.Ev
