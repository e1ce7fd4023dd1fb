/- Which filters are sound: check.Check. -/
import Derived.Test.YtbkhoemaobbplaaGreatDoorInsAW
import Derived.Test.YtbkhoemaobbplaaGreatDoorEvWinCW
import Derived.Test.YtbkhoemaobbplaaGreatDoorEvIW
import Derived.KernelRfl
set_option linter.defProp false
set_option linter.unusedSimpArgs false
set_option linter.unusedVariables false
set_option maxHeartbeats 4000000
set_option maxRecDepth 10000
open Int renaming natCast_add→aaa,natCast_mul→aaB,eq_ofNat_of_zero_le→aaT,toNat_natCast→abo,natCast_ediv→abq,not_le→abC,natCast_emod→abT
open List renaming getElem?_eq_some_iff→aab,getElem?_eq_getElem→aac,take_of_length_le→aag,drop_eq_nil_of_le→aah,getElem?_append_left→aai,getElem_mem→aak,length_set→aal,getElem?_set_ne→aam,take_add_one→aan,set_append_left→aao,getD→aaq,getD_eq_getElem?_getD→aar,mem_of_getElem?→aas,mem_range→aat,mem_append→aau,take_length→aav,range→aaw,mem_singleton→aax,length_take→aay,drop_eq_getElem_cons→aaz,replicate→aaA,length_append→aaD,mem_of_mem_drop→aaH,reduceReplicate→aaI,append_assoc→aaJ,range_succ→aaK,all_eq_true→aaL,length_cons→aaM,set_append_right→aaO,getElem?_append_right→aaP,length_drop→aaQ,length_pos_iff→aaR,drop_succ_cons→aaS,mem_filterMap→aaU,getElem?_set_self→aaV,drop_append_of_le_length→aaW,getElem?_set→aaX,getElem?_eq_none→aaY,not_mem_nil→aaZ,mem_of_mem_take→aa0,any_eq_true→aa1,getD_cons_succ→aa2,map_congr_left→aa3,getLast?_eq_getElem?→aa4,mem_or_eq_of_mem_set→aa6,mem_map→aa7,getElem?_drop→aa8,ext_getElem?→aa9,find?_append→aa_,mem_cons→aba,set_comm→abc,take_succ_eq_append_getElem→abd,map_set→abg,find?_eq_none→abj,drop_one→abl,map_cons→abm,getElem?_map→abn,mem_of_find?_eq_some→abp,getElem?_cons_zero→abt,getElem?_replicate→abu,take_left'→abv,append_nil→abw,length_replicate→abz,drop_drop→abA,countP_le_length→abB,map_drop→abF,map_take→abG,replicate_succ→abI,getElem?_range→abJ,flatMap_append→abK,getElem?_take→abM,map_map→abO,drop_length→abQ,cons_append→abR,nil_append→abU,drop_left'→abV,drop_zero→abX,map_nil→ab0,set_set→ab1
open Nat renaming le_of_ble_eq_true→aae,lt_of_lt_of_le→aaE,lt_succ_iff_lt_or_eq→aaF,pow_le_pow_right→abf,add_comm→abr,min_eq_left→abx,le_refl→aby,eq_of_testBit_eq→abD,sub_self→abL,add_zero→abN,div_le_self→abW,zero_add→abY,zero_le→ab2
open Bool renaming and_eq_true→aaf,false_eq_true→aap,not_eq_true→aaC,true_and→aaG,eq_iff_iff→abe,false_and→abh,and_true→abk,not_eq_true'→abP
open Function renaming comp_def→aaj,comp→abH
open Option renaming map→aaN,map_some→aa5,toList→abb,some→abi,getD_some→abS
open BitVec renaming getLsbD_ofNat→abE,ofNat→abZ
namespace Go.Ev
open Go Go.RowKit
variable {G:aN}
def zvJ{f:List af}{i:Nat}(h:i<f.length):jo (f.drop i)=(ez f[i] (f.length-1-i)&&jo (f.drop (i+1))):=by
 rw[aaz h];simp only[jo,aaQ]
 congr 2;omega
def qT{f:List af}{i:Nat}(h:i<f.length):(IL f)[i]?=some f[i].cs:=by simp[aac h]
def ZE(f:List af)(v:V):Prop:=∃ i e:Int,v=.bc [.int .i64 i,.int .i64 e]/\(e=0↔dJ f=true)
def zy3{f:List af}(a:f≠[])(b:f.length<=4096)(c:jo f=true)(d:iy (f[f.length-1]'(by have:=aaR.2 a;omega)).op=true):dJ f=true:=by
 have:f.getLast?=some (f[f.length-1]'(by have:=aaR.2 a;omega)):=by rw[aa4];exact aac _
 simp[dJ,jA,b,c,this,d]
def zt5{f:List af}(a:f≠[])(b:iy (f[f.length-1]'(by have:=aaR.2 a;omega)).op=false):dJ f=false:=by
 have:f.getLast?=some (f[f.length-1]'(by have:=aaR.2 a;omega)):=by rw[aa4];exact aac _
 simp[dJ,jA,this,b]
def zvK{f:List af}(h:jo f=false):dJ f=false:=by simp[dJ,h]
def H2:ae:=[some (.cells [.fn 149 []]),some (.map wN)]
def CW{x:af}{i n:Nat}(h:i<n)(e:(x.op==5||br x.op)=true) :
  (∀ w∈dF x i,w<(n:Int))↔((if x.op=5 then decide (x.k<n-1-i) else true)&&(if br x.op then decide (x.jt<(n-1-i:Nat)/\x.jf<(n-1-i:Nat)) else true))=true:=by
 by_cases a:x.op=5
 ·have d:iy x.op=false:=by rw[a];decide
  have f:br x.op=false:=by rw[a];decide
  rw[if_pos a,f];rw[a] at d;simp only[dF,d,a,aap,if_false,if_true,aax,forall_eq,abk,decide_eq_true_eq];omega
 ·have b:br x.op=true:=by simpa[a,aM] using e
  have g:iy x.op=false:=by
   have c:∀ p∈[21,37,53,69,29,45,61,(77:Int)],iy p=false:=by decide
   exact c _ (by simpa[br] using b)
  rw[if_neg a,if_pos b];simp only[dF,g,a,b,aap,if_false,if_true,aba,aaZ,or_false,forall_eq_or_imp,forall_eq,aaG,decide_eq_true_eq];omega
def NO{x:af}(a:(x.op==5||br x.op)=false)(left:Nat):((if x.op=5 then decide (x.k<left) else true)&&(if br x.op then decide (x.jt<left/\x.jf<left) else true))=true:=by simp only[Bool.or_eq_false_iff,beq_eq_false_iff_ne] at a;simp[a.1,a.2]
def CX{x:af}{left:Nat}(a:jw x=true)(b:m_ x=true):ez x left=((if x.op=5 then decide (x.k<left) else true)&&(if br x.op then decide (x.jt<left/\x.jf<left) else true)):=by simp[ez,a,b]
def NP(x:af)(i:Nat):(dF x i).length<=2:=by unfold dF;split;simp;split;simp;split<;>simp
def zy4[aB G][aA G](f:List af)(hf:f.length<=maxLen)(hk:∀ x∈f,x.k<4294967296):∃ v,FP G 156 [FL f] v/\ZE f v:=by
 refine Hv aA.acm (aae rfl) ?_
 by_cases O:f=[]
 ·subst O;simp[FL];exact⟨0,5,rfl,by decide⟩
 have ay:0<f.length:=aaR.2 O;have hz:((f.length:Int)=0)=False:=eq_false an
 by_cases JB:f.length>4096
 ·have z:((4096:Int)<(f.length:Int))=True:=eq_true an
  have:dJ f=false:=by simp[dJ,show¬f.length<=4096 by omega]
  simp[FL,O,z,JC];exact⟨0,3,rfl,by simp[this]⟩
 have z:((4096:Int)<(f.length:Int))=False:=eq_false an;simp[FL,O,z,JC];refine s7 zAd ir ?_;simp;refine aP f.length (fun i=>[(0,FL f),(4,.mp 1),(22,FL f),(23,.int .i64 f.length),(24,.int .i64 i)]) (fun _=>H2) (fun i=>jo (f.take 0)=true/\jo f=jo (f.drop i)) ?_ ?_
 ·simp[aq,ai,H2,oq,FL,jo]
 intro i hi P
 by_cases q:i<f.length
 ·have Q:=qT q;have Y:f[i]∈f:=aak q;have R:=hk _ Y;have F:=zvJ q
  have r:ez f[i] (f.length-1-i)=false->∀ j e:Int,e≠0->ZE f (.bc [.int .i64 j,.int .i64 e]):=by intro h j e H;rw[h] at F;exact⟨j,e,rfl,by simp[H,zvK (P.2.trans F)]⟩
  generalize f[i]=x at Q R F Y r;have Z:=JD (G:=G) x;have U:=yg (G:=G) x;simp[IV,af.cs] at Z U;simp(disch:=omega)[H2,bC,FL,Q,af.cs,-aaa];refine ax Z ?_;cases y:jw x
  ·simp;exact r (by simp[ez,y]) _ _ (by decide)
  simp[zwo]
  cases S:uQ x.op with
  | none =>
   have D:=zx9 S
   by_cases E:x.op=5
   ·have I:(x.op==5||br x.op)=true:=by simp[E]
    have V:(x.op==5)=true:=by simp[E]
    simp[V];have s:=lV (G:=G) x i R (yF y) an;simp[IV,af.cs] at s;have b:∃ a,a=(x.op==5||br x.op):=⟨_,rfl⟩;obtain⟨a,b⟩:=b;have J:=NP x i
    have d:(a=true->∀ w∈dF x i,w<(f.length:Int))->jo f=jo (f.drop (i+1)):=by
     intro K;rw[P.2,F,CX y D]
     cases a with
     | false=>rw[NO b.symm];simp
     | true=>rw[(CW q b.symm).1 (K rfl)];simp
    have A:a=true->∀ w∈dF x i,¬w<(f.length:Int)->ez x (f.length-1-i)=false:=by intro m w c L;rw[CX y D];rw[m] at b;rw[<-aaC];intro h;exact L ((CW q b.symm).2 h w c)
    have g:∀(w:List Int),w.length<=2->(∀ v∈w,v∈dF x i)->True:=fun _ _ _=>trivial;generalize dF x i=w at s J d A g;refine ax s ?_;simp
    refine aP w.length (fun j=>[(0,FL f),(4,.mp 1),(5,.int .i64 i),(9,.bool a),(22,FL f),(23,.int .i64 f.length),(24,.int .i64 i),(55,.vs (ints .i64 w) .no),(56,.int .i64 w.length),(57,.int .i64 j)])
     (fun _=>[some (.cells [.fn 149 []]),some (.map wN),some (.cells [.int .i64 x.op,.int .i64 x.jt,.int .i64 x.jf,.int .u32 (x.k:Int)])]) (fun j=>a=true->∀ v∈w.take j,v<(f.length:Int)) ?_ ?_
    ·simp[aq,ai,FL,oq,b.trans I]
    intro j W t
    by_cases o:j<w.length
    ·by_cases l:a=true/\¬w[j]<(f.length:Int)
     ·have z:=A l.1 _ (aak o) l.2;have u:((f.length:Int)<=w[j])=True:=eq_true an;simp(disch:=omega)[bC,l.1,u,FL,-aaa];exact r z i 4 (by decide)
     ·have B:a=true->∀ v∈w.take (j+1),v<(f.length:Int):=by
       intro m v c;rw[aan,aac o] at c;simp only[abb,aau,aax] at c
       rcases c with c|rfl
       ·exact t m v c
       ·exact abC.1 fun h=>l ⟨m,an⟩
      cases C:a with
      | false =>
       simp(disch:=omega)[bC,o,FL,aq,ai,oq,bE,-aaa]
      | true =>
       have u:((f.length:Int)<=w[j])=False:=eq_false fun h=>l ⟨C,an⟩;simp(disch:=omega)[bC,o,FL,u,aq,ai,oq,bE,-aaa];rw[C] at B;exact B rfl
    ·have M:j=w.length:=an
     subst M;rw[aav] at t;have N:=d t;simp(disch:=omega)[q,aq,ai,oq,FL,bE,N,jo,-aaa]
   ·have I:(x.op==5||br x.op)=br x.op:=by simp[E]
    simp[aM,E];refine ax U ?_;simp;have s:=lV (G:=G) x i R (yF y) an;simp[IV,af.cs] at s;have b:∃ a,a=(x.op==5||br x.op):=⟨_,rfl⟩;obtain⟨a,b⟩:=b;have J:=NP x i
    have d:(a=true->∀ w∈dF x i,w<(f.length:Int))->jo f=jo (f.drop (i+1)):=by
     intro K;rw[P.2,F,CX y D]
     cases a with
     | false=>rw[NO b.symm];simp
     | true=>rw[(CW q b.symm).1 (K rfl)];simp
    have A:a=true->∀ w∈dF x i,¬w<(f.length:Int)->ez x (f.length-1-i)=false:=by intro m w c L;rw[CX y D];rw[m] at b;rw[<-aaC];intro h;exact L ((CW q b.symm).2 h w c)
    have g:∀(w:List Int),w.length<=2->(∀ v∈w,v∈dF x i)->True:=fun _ _ _=>trivial;generalize dF x i=w at s J d A g;refine ax s ?_;simp
    refine aP w.length (fun j=>[(0,FL f),(4,.mp 1),(5,.int .i64 i),(9,.bool a),(22,FL f),(23,.int .i64 f.length),(24,.int .i64 i),(55,.vs (ints .i64 w) .no),(56,.int .i64 w.length),(57,.int .i64 j)])
     (fun _=>[some (.cells [.fn 149 []]),some (.map wN),some (.cells [.int .i64 x.op,.int .i64 x.jt,.int .i64 x.jf,.int .u32 (x.k:Int)])]) (fun j=>a=true->∀ v∈w.take j,v<(f.length:Int)) ?_ ?_
    ·simp[aq,ai,FL,oq,b.trans I]
    intro j W t
    by_cases o:j<w.length
    ·by_cases l:a=true/\¬w[j]<(f.length:Int)
     ·have z:=A l.1 _ (aak o) l.2;have u:((f.length:Int)<=w[j])=True:=eq_true an;simp(disch:=omega)[bC,l.1,u,FL,-aaa];exact r z i 4 (by decide)
     ·have B:a=true->∀ v∈w.take (j+1),v<(f.length:Int):=by
       intro m v c;rw[aan,aac o] at c;simp only[abb,aau,aax] at c
       rcases c with c|rfl
       ·exact t m v c
       ·exact abC.1 fun h=>l ⟨m,an⟩
      cases C:a with
      | false =>
       simp(disch:=omega)[bC,o,FL,aq,ai,oq,bE,-aaa]
      | true =>
       have u:((f.length:Int)<=w[j])=False:=eq_false fun h=>l ⟨C,an⟩;simp(disch:=omega)[bC,o,FL,u,aq,ai,oq,bE,-aaa];rw[C] at B;exact B rfl
    ·have M:j=w.length:=an
     subst M;rw[aav] at t;have N:=d t
     simp(disch:=omega)[q,aq,ai,oq,FL,bE,N,jo,-aaa]
  | some p =>
   obtain⟨n,fn⟩:=p;obtain⟨e,H,Hw⟩:=zCB (G:=G) x S;simp;simp[RH,af.cs,IV] at H;refine jL H ir ?_
   by_cases T:e=0
   ·have D:=Hw.1 T;subst T
    by_cases E:x.op=5
    ·have I:(x.op==5||br x.op)=true:=by simp[E]
     have V:(x.op==5)=true:=by simp[E]
     simp[V,ai,oq];have s:=lV (G:=G) x i R (yF y) an;simp[IV,af.cs] at s;have b:∃ a,a=(x.op==5||br x.op):=⟨_,rfl⟩;obtain⟨a,b⟩:=b;have J:=NP x i
     have d:(a=true->∀ w∈dF x i,w<(f.length:Int))->jo f=jo (f.drop (i+1)):=by
      intro K;rw[P.2,F,CX y D]
      cases a with
      | false=>rw[NO b.symm];simp
      | true=>rw[(CW q b.symm).1 (K rfl)];simp
     have A:a=true->∀ w∈dF x i,¬w<(f.length:Int)->ez x (f.length-1-i)=false:=by intro m w c L;rw[CX y D];rw[m] at b;rw[<-aaC];intro h;exact L ((CW q b.symm).2 h w c)
     have g:∀(w:List Int),w.length<=2->(∀ v∈w,v∈dF x i)->True:=fun _ _ _=>trivial;generalize dF x i=w at s J d A g;refine ax s ?_;simp
     refine aP w.length (fun j=>[(0,FL f),(4,.mp 1),(5,.int .i64 i),(9,.bool a),(22,FL f),(23,.int .i64 f.length),(24,.int .i64 i),(55,.vs (ints .i64 w) .no),(56,.int .i64 w.length),(57,.int .i64 j)])
      (fun _=>[some (.cells [.fn 149 []]),some (.map wN),some (.cells [.int .i64 x.op,.int .i64 x.jt,.int .i64 x.jf,.int .u32 (x.k:Int)])]) (fun j=>a=true->∀ v∈w.take j,v<(f.length:Int)) ?_ ?_
     ·simp[aq,ai,FL,oq,b.trans I]
     intro j W t
     by_cases o:j<w.length
     ·by_cases l:a=true/\¬w[j]<(f.length:Int)
      ·have z:=A l.1 _ (aak o) l.2;have u:((f.length:Int)<=w[j])=True:=eq_true an;simp(disch:=omega)[bC,l.1,u,FL,-aaa];exact r z i 4 (by decide)
      ·have B:a=true->∀ v∈w.take (j+1),v<(f.length:Int):=by
        intro m v c;rw[aan,aac o] at c;simp only[abb,aau,aax] at c
        rcases c with c|rfl
        ·exact t m v c
        ·exact abC.1 fun h=>l ⟨m,an⟩
       cases C:a with
       | false =>
        simp(disch:=omega)[bC,o,FL,aq,ai,oq,bE,-aaa]
       | true =>
        have u:((f.length:Int)<=w[j])=False:=eq_false fun h=>l ⟨C,an⟩;simp(disch:=omega)[bC,o,FL,u,aq,ai,oq,bE,-aaa];rw[C] at B;exact B rfl
     ·have M:j=w.length:=an
      subst M;rw[aav] at t;have N:=d t;simp(disch:=omega)[q,aq,ai,oq,FL,bE,N,jo,-aaa]
    ·have I:(x.op==5||br x.op)=br x.op:=by simp[E]
     simp[aM,E,ai,oq];refine ax U ?_;simp;have s:=lV (G:=G) x i R (yF y) an;simp[IV,af.cs] at s;have b:∃ a,a=(x.op==5||br x.op):=⟨_,rfl⟩;obtain⟨a,b⟩:=b;have J:=NP x i
     have d:(a=true->∀ w∈dF x i,w<(f.length:Int))->jo f=jo (f.drop (i+1)):=by
      intro K;rw[P.2,F,CX y D]
      cases a with
      | false=>rw[NO b.symm];simp
      | true=>rw[(CW q b.symm).1 (K rfl)];simp
     have A:a=true->∀ w∈dF x i,¬w<(f.length:Int)->ez x (f.length-1-i)=false:=by intro m w c L;rw[CX y D];rw[m] at b;rw[<-aaC];intro h;exact L ((CW q b.symm).2 h w c)
     have g:∀(w:List Int),w.length<=2->(∀ v∈w,v∈dF x i)->True:=fun _ _ _=>trivial;generalize dF x i=w at s J d A g;refine ax s ?_;simp
     refine aP w.length (fun j=>[(0,FL f),(4,.mp 1),(5,.int .i64 i),(9,.bool a),(22,FL f),(23,.int .i64 f.length),(24,.int .i64 i),(55,.vs (ints .i64 w) .no),(56,.int .i64 w.length),(57,.int .i64 j)])
      (fun _=>[some (.cells [.fn 149 []]),some (.map wN),some (.cells [.int .i64 x.op,.int .i64 x.jt,.int .i64 x.jf,.int .u32 (x.k:Int)])]) (fun j=>a=true->∀ v∈w.take j,v<(f.length:Int)) ?_ ?_
     ·simp[aq,ai,FL,oq,b.trans I]
     intro j W t
     by_cases o:j<w.length
     ·by_cases l:a=true/\¬w[j]<(f.length:Int)
      ·have z:=A l.1 _ (aak o) l.2;have u:((f.length:Int)<=w[j])=True:=eq_true an;simp(disch:=omega)[bC,l.1,u,FL,-aaa];exact r z i 4 (by decide)
      ·have B:a=true->∀ v∈w.take (j+1),v<(f.length:Int):=by
        intro m v c;rw[aan,aac o] at c;simp only[abb,aau,aax] at c
        rcases c with c|rfl
        ·exact t m v c
        ·exact abC.1 fun h=>l ⟨m,an⟩
       cases C:a with
       | false =>
        simp(disch:=omega)[bC,o,FL,aq,ai,oq,bE,-aaa]
       | true =>
        have u:((f.length:Int)<=w[j])=False:=eq_false fun h=>l ⟨C,an⟩;simp(disch:=omega)[bC,o,FL,u,aq,ai,oq,bE,-aaa];rw[C] at B;exact B rfl
     ·have M:j=w.length:=an
      subst M;rw[aav] at t;have N:=d t;simp(disch:=omega)[q,aq,ai,oq,FL,bE,N,jo,-aaa]
   ·have X:m_ x=false:=by rw[<-aaC];exact fun h=>T (Hw.2 h)
    simp[jM,T,ai,oq];exact r (by simp[ez,X]) _ _ T
 ·have iT:i=f.length:=an
  subst iT
  have q:f.length-1<f.length:=an
  have Q:=qT q;have S:=P.2;rw[abQ] at S;have qo:=zy3 O an S;have s9:=zt5 O;generalize f[f.length-1]=x at Q qo s9;have H:=JF (G:=G) x;simp[IV,af.cs] at H;have gJ:cM .i64 (f.length:Int) 1=((f.length-1:Nat):Int):=Rw (by have:maxLen<=9223372036854775807:=(by decide);omega);simp[FL,gJ,Q,af.cs];refine ax H ?_;cases yG:iy x.op
  ·simp;exact⟨_,5,rfl,by simp[s9 yG]⟩
  ·simp;exact⟨_,0,rfl,by simp[qo yG]⟩
def JG[aB G][aA G](f:List af)(a:f.length<=maxLen)(b:∀ x∈f,x.k<4294967296):FP G 157 [FL f] (.bool (dJ f)):=by
 refine bF aA.acn (aae rfl) ?_;obtain⟨v,c,i,e,rfl,d⟩:=zy4 (G:=G) f a b;simp;refine ax c ?_
 have:(e==0)=dJ f:=by rw[abe,beq_iff_eq];exact d
 simp[this]
def wO(x:af):Bool:=!(x.op==5)&&!br x.op&&!iy x.op
def qD(x:af):Bool:=wO x&&jw x&&m_ x
def bn(w:List af):Bool:=decide (w.length<=32)&&w.all qD
def s_:af:=⟨22,0,0,0⟩
def Rx{x:af}(h:wO x=true):x.op≠5/\br x.op=false/\iy x.op=false:=by simp only[wO,aaf,abP,beq_eq_false_iff_ne] at h;exact⟨h.1.1,h.1.2,h.2⟩
def ZF{x:af}(h:wO x=true)(left:Nat):ez x left=(jw x&&m_ x):=by obtain⟨a,b,c⟩:=Rx h;simp[ez,a,b]
def ZG:∀{w:List af} (z:af),(∀ x∈w,wO x=true)->jo (w++[z])=((w.all fun x=>jw x&&m_ x)&&ez z 0)
 | [],z,_=>by simp[jo]
 | x::w,z,h=>by
  rw[abR,jo,ZG z fun y a=>h y (by simp[a]),ZF (h x ir)];simp[Bool.and_assoc]
def zwL{w:List af}(h:∀ x∈w,wO x=true)(f:w.length<=32):dJ (w++[s_])=w.all qD:=by
 have c:jA (w++[s_])=true:=by simp[jA];decide
 have d:ez s_ 0=true:=by decide
 have e:(w++[s_]).length<=4096:=by simp;omega
 simp only[dJ,ZG s_ h,c,d,e,abk,decide_true,aaG];rw[abe,aaL,aaL];constructor
 ·intro b x a;simp only[qD,h x a,aaG];exact b x a
 ·intro b x a;have:=b x a;simpa only[qD,h x a,aaG] using this
def yH[aB G][aA G][aL G](w:List af)(F:w.length<=maxLen)(u:∀ x∈w,x.k<4294967296):FP G 202 [FL w] (.bool (bn w)):=by
 refine bF aL.aco (aae rfl) ?_
 by_cases j:w.length>32
 ·have l:((32:Int)<(w.length:Int))=True:=eq_true an;simp[FL,l,bn,show¬w.length<=32 by omega]
 have l:((32:Int)<(w.length:Int))=False:=eq_false an
 have c:w.length<=32:=an
 simp[FL,l];refine aP w.length (fun i=>[(0,FL w),(8,FL w),(9,.int .i64 w.length),(10,.int .i64 i)]) (fun _=>[]) (fun i=>∀ x∈w.take i,wO x=true) ?_ ?_
 ·simp[aq,ai,FL]
 intro i hi m
 by_cases f:i<w.length
 ·obtain⟨x,d⟩:∃ x,x=w[i]:=⟨_,rfl⟩;have n:=qT f;rw[<-d] at n;have d:=d.symm;have v:x∈w:=d▸aak f;have q:=yg (G:=G) x;have r:=JF (G:=G) x;have o:x.cs=[.int .i64 x.op,.int .i64 x.jt,.int .i64 x.jf,.int .u32 (x.k:Int)]:=rfl;simp[IV,o] at q r
  have a:wO x=false->bn w=false:=by
   intro h
   have:w.all qD=false:=by rw[<-aaC,aaL];intro z;have:=z x v;simp only[qD,h,abh,aap] at this
   simp[bn,this]
  by_cases g:x.op=5
  ·have p:(x.op==5)=true:=by simp[g]
   simp(disch:=omega)[bC,FL,n,o,p,a (by simp[wO,g])]
  have p:(x.op==5)=false:=aM g;simp(disch:=omega)[bC,FL,n,o,p];refine ax q ?_;cases j:br x.op
  ·simp;refine ax r ?_;cases s:iy x.op
   ·have A:∀ y∈w.take (i+1),wO y=true:=by
     intro y e;rw[aan,aac f,d] at e;simp only[abb,aau,aax] at e
     rcases e with e|rfl
     ·exact m y e
     ·simp[wO,g,j,s]
    simp(disch:=omega)[f,bE,aq,ai,-aaa];exact A
   ·simp[a (by simp[wO,s])]
  ·simp[a (by simp[wO,j])]
 ·have B:i=w.length:=an
  subst B;rw[aav] at m
  have b:=JG (G:=G) (w++[s_]) (by rw[aaD];have:maxLen=9223372036854775807:=(by decide);simp;omega) (fun x C=>by
   rcases aau.1 C with h|h
   ·exact u x h
   ·simp only[aax] at h;subst h;decide)
  rw[zwL m c] at b
  have D:w.all qD=bn w:=by simp[bn,c]
  rw[D] at b;have E:IL w++[[V.int .i64 22,.int .i64 0,.int .i64 0,.int .u32 0]]=IL (w++[s_]):=NQ w s_;have H:[[V.int .i64 22,.int .i64 0,.int .i64 0,.int .u32 0]]=IL ([]++[s_]):=rfl;simp only[FL] at b
  by_cases t:w=[]
  ·subst t;simp only[abU] at b;simp[FL];refine ax b ?_;simp
  ·simp(disch:=omega)[FL,NR,t,az,E];refine ax b ?_;simp
@[simp] theorem zIU (x:af):x.cs.take 4=x.cs:=rfl
theorem Rz(f:List af)(n:Nat):(IL f).drop n=IL (f.drop n):=by simp[IL]
def RA(f:List af)(n:Nat):(IL f).take n=IL (f.take n):=by simp[IL]
def yI(x y:af):bZ [.int,.int,.int,.int] x.cs y.cs=some (decide (x=y)):=by obtain⟨a,b,c,d⟩:=x;obtain⟨e,f,c',d'⟩:=y;simp only[af.cs,bZ,oV,if_true,abk,abi.injEq,af.mk.injEq];rw[abe];simp only[aaf,beq_iff_eq,decide_eq_true_eq];omega
def zwM[vR G](f g:List af)(r:f.length<=1000000):FP G 201 [FL f,FL g] (.bool (decide (f=g))):=by
 refine bF vR.acp (aae rfl) ?_
 by_cases e:f.length=g.length
 ·have j:((f.length:Int) !=(g.length:Int))=false:=by simp[e]
  simp[FL,j];refine aP f.length (fun i=>[(0,FL f),(1,FL g),(5,.int .i64 i)]) (fun _=>[]) (fun i=>f.take i=g.take i) ?_ ?_
  ·simp[aq,ai,FL]
  intro i hi k
  by_cases l:i<f.length
  ·obtain⟨x,a⟩:∃ x,x=f[i]:=⟨_,rfl⟩
   have p:i<g.length:=an
   obtain⟨y,b⟩:∃ y,y=g[i]:=⟨_,rfl⟩;have m:=qT l;have n:=qT p;rw[<-a] at m;rw[<-b] at n;have a:=a.symm;have b:=b.symm;have c:=yI x y
   by_cases d:x=y
   ·rw[decide_eq_true d] at c
    have q:f.take (i+1)=g.take (i+1):=by rw[aan,aan,k,aac l,aac p,a,b,d]
    simp(disch:=omega)[bC,FL,m,n,c,l,bE,aq,ai,q,-aaa]
   ·rw[decide_eq_false d] at c
    have o:¬f=g:=by rintro rfl;exact d (a.symm.trans b)
    simp(disch:=omega)[bC,FL,m,n,c,o,-aaa]
  ·have o:i=f.length:=an
   subst o;rw[aav,e,aav] at k;simp[FL,k]
 ·have j:((f.length:Int) !=(g.length:Int))=true:=by simp;omega
  have:¬f=g:=fun h=>e (by rw[h]);simp[FL,j,this]
variable {H:ae} {b z m:Nat} {L:List Nd}
structure VS where
 L:List Nd
 p:List Int
 st:List Int
def vcs(p st:List Int)(tk:Tk):List V:=kT .i64 p++[.vs (ints .i64 st) tk]
section
variable {p st:List Int} {tk:Tk}
def CY(a:p.length=18):(vcs p st tk).length=19:=by simp[vcs,a]
def EE{i:Nat}(a:p.length=18)(hi:i<18):((vcs p st tk).drop i).take 1=[.int .i64 (p[i]' an)]:=by rw[vcs,aaW (by simp;omega),ZI,aaz an];rfl
def NS{i:Nat}(x:Int)(a:p.length=18)(hi:i<18):(vcs p st tk).take i++(.int .i64 x::(vcs p st tk).drop (i+1))=vcs (p.set i x) st tk:=by rw[vcs,vcs,List.take_append_of_le_length (by simp;omega),aaW (by simp;omega),<-zxL .i64 p i x an];simp
def ZJ(a:p.length=18):(vcs p st tk).take 1=[.int .i64 (p[0]' an)]:=EE (i:=0) a an
def zy5(a:p.length=18):(vcs p st tk).tail.take 1=[.int .i64 (p[1]' an)]:=by rw[<-abl];exact EE a an
def zy6(x:Int)(a:p.length=18):.int .i64 x::(vcs p st tk).tail=vcs (p.set 0 x) st tk:=by rw[<-abl];exact NS (i:=0) x a an
def zy7(x:Int)(a:p.length=18):(vcs p st tk).take 1++(.int .i64 x::(vcs p st tk).drop 2)=vcs (p.set 1 x) st tk:=NS (i:=1) x a an
def RB(a:p.length=18):((vcs p st tk).drop 18).take 1=[.vs (ints .i64 st) tk]:=by rw[vcs,abV (by simp[a])];rfl
def zwN(st':List Int)(a:Tk)(b:p.length=18):(vcs p st tk).take 18++(.vs (ints .i64 st') a::(vcs p st tk).drop 19)=vcs p st' a:=by rw[vcs,vcs,abv (by simp[b]),aah (by simp[b])]
def ZL(a:p.length=18):(vcs p st tk).take 19=vcs p st tk:=aag (by rw[CY a];omega)
def ZM(n a:Nat)(h:a<n):aX n (vcs p st (.own a))=vcs p st (.own a):=by rw[ie,vcs];simp[kT,aaj,V.cl,Tk.cl,h]
end
noncomputable def yh(s:VS)(x:af):Int×List Nd:=if(cH x.op).2.1=true then(s.p.getD 1 0,s.L) else bt s.L (eZ (x.k::aQ 34))
noncomputable def iE(s:VS)(x:af):VS :=
 if(cH x.op).2.2=true then
  ⟨(ig (yh s x).2 (cH x.op).1 (s.p.getD 0 0) (yh s x).1).2,s.p.set 0 (ig (yh s x).2 (cH x.op).1 (s.p.getD 0 0) (yh s x).1).1,
   if(cH x.op).2.1=true/\(cH x.op).1=52 then s.st++[s.p.getD 1 0] else s.st⟩
 else if x.op=0 then⟨(bt s.L (eZ (x.k::aQ 34))).2,s.p.set 0 (bt s.L (eZ (x.k::aQ 34))).1,s.st⟩
 else if x.op=1 then⟨(bt s.L (eZ (x.k::aQ 34))).2,s.p.set 1 (bt s.L (eZ (x.k::aQ 34))).1,s.st⟩
 else if x.op=32 then⟨(kU s.L (18+(x.k/4:Nat))).2,s.p.set 0 (kU s.L (18+(x.k/4:Nat))).1,s.st⟩
 else if x.op=96 then⟨s.L,s.p.set 0 (s.p.getD (2+x.k) 0),s.st⟩
 else if x.op=97 then⟨s.L,s.p.set 1 (s.p.getD (2+x.k) 0),s.st⟩
 else if x.op=2 then⟨s.L,s.p.set (2+x.k) (s.p.getD 0 0),s.st⟩
 else if x.op=3 then⟨s.L,s.p.set (2+x.k) (s.p.getD 1 0),s.st⟩
 else if x.op=132 then⟨(ou s.L (s.p.getD 0 0)).2,s.p.set 0 (ou s.L (s.p.getD 0 0)).1,s.st⟩
 else if x.op=7 then⟨s.L,(s.p.set 1 (s.p.getD 0 0)).set 0 (s.p.getD 0 0),s.st⟩
 else if x.op=135 then⟨s.L,s.p.set 0 (s.p.getD 1 0),s.st⟩
 else s
def Bk.kq{a k n:Nat}(h:Bk H b z m L)(c:H[a]?=some (some (.zone k)))(f:a≠z):Bk (H.set a (some (.zone n))) b z m L:=by
 have g:a≠b:=fun e=>by rw[e,h.hb] at c;simp[wQ] at c
 have i:a≠m:=fun e=>by rw[e,h.hm] at c;simp at c
 refine⟨by rw[aam g];exact h.hb,by rw[aam f];exact h.hz,by rw[aam i];exact h.hm,fun n d=>?_,h.ok,h.small⟩;rw[aal] at d;rw[Bo,h.shut n d];rfl
def zy8{a k:Nat}(h:Bk H b z m L)(c:H[a]?=some (some (.zone k)))(d:a≠z)(x:Option aw)(L':List Nd):da (H.set a x) b z m L'=(da H b z m L').set a x:=by
 have f:a≠b:=fun e=>by rw[e,h.hb] at c;simp[wQ] at c
 have g:a≠m:=fun e=>by rw[e,h.hm] at c;simp at c
 unfold da;rw[abc _ _ f,abc _ _ d,abc _ _ g]
def zy9{a k:Nat}(h:Bk H b z m L)(c:H[a]?=some (some (.zone k)))(d:a≠z)(L':List Nd):(da H b z m L')[a]?=some (some (.zone k)):=by
 have f:b≠a:=fun e=>by rw[<-e,h.hb] at c;simp[wQ] at c
 have g:m≠a:=fun e=>by rw[<-e,h.hm] at c;simp at c
 unfold da;rw[aam g,aam (Ne.symm d),aam f];exact c
section
variable {α:Type} {H l:List α} {n:Nat} (h:H.length=n)
include h
def lW:(H++l)[n]?=l[0]?:=by subst h;exact jW H l
def pb(k:Nat):(H++l)[n+k]?=l[k]?:=by subst h;exact fW H l k
def qW(x:α):(H++l).set n x=H++l.set 0 x:=by subst h;exact wT H l x
def vS(k:Nat)(x:α):(H++l).set (n+k) x=H++l.set k x:=by subst h;exact uS H l k x
end
def zwP[dK G][dp G][aB G][au G][bw G][aI G][b_ G](s:VS)(x:af)(g:Nat)(h:Bk H b z m s.L)(qX:H[g]?=some (some (.zone s.st.length)))(ay:g≠z)(hi:Inv s.L)(hs:s.L.length<900000)
  (a:s.p.length=18) (hg:s.st.length<=1000) (hk:x.k<4294967296) (hx:qD x=true) :
  SF G 295 [.ptr b 0,.agg (vcs s.p s.st (.own g)),IV x] H (.agg (vcs (iE s x).p (iE s x).st (.own g))) ((da H b z m (iE s x).L).set g (some (.zone (iE s x).st.length))):=by
 refine jx b_.acq (aae rfl) ?_;have C:=(aab.1 qX).1;have nR:=h.lb;obtain⟨Z,hZ⟩:∃ Z:List V,Z=vcs (aaA 18 0) [] .full:=⟨_,rfl⟩
 have D:Z.length=19:=by rw[hZ];rfl
 have E:Z.drop 19=[]:=aah an
 have kZ:∀ n,aX n Z=Z:=fun n=>by rw[hZ];simp[vcs,kT,aX,V.cl]
 have fX:=Hx (G:=G) x;have eT:x.cs.length=4:=rfl;have j5:x.cs.take 4=x.cs:=rfl
 have kx:∀ n,aX n x.cs=x.cs:=fun n=>by simp[af.cs,aX,V.cl]
 have x0:x.cs.take 1=[.int .i64 x.op]:=rfl;have x3:(x.cs.drop 3).take 1=[.int .u32 (x.k:Int)]:=rfl
 have EF:[V.int .i64 0,.int .i64 0,.int .i64 0,.int .i64 0,.int .i64 0,.int .i64 0,.int .i64 0,.int .i64 0,.int .i64 0,.int .i64 0,.int .i64 0,.int .i64 0,.int .i64 0,.int .i64 0,.int .i64 0,.int .i64 0,.int .i64 0,.int .i64 0,.vs [] .full]=Z:=by rw[hZ];rfl
 obtain⟨W,B⟩:∃ W:List Int->List Int->List V,∀ p st,W p st=vcs p st (.own g):=⟨_,fun _ _=>rfl⟩
 have f:∀ p st,p.length=18->(W p st).length=19:=fun p st a=>by rw[B];exact CY a
 have F:∀ p st,p.length=18->(W p st).take 19=W p st:=fun p st a=>by rw[B];exact ZL a
 have A:∀ p st n,g<n->aX n (W p st)=W p st:=fun p st n J=>by rw[B];exact ZM n g J
 have S:∀ p st,(a:p.length=18)->(W p st).take 1=[.int .i64 (p[0]' an)]:=fun p st a=>by rw[B];exact ZJ a
 have W1:∀ p st,(a:p.length=18)->(W p st).tail.take 1=[.int .i64 (p[1]' an)]:=fun p st a=>by rw[B];exact zy5 a
 have Ws:∀ p st,p.length=18->((W p st).drop 18).take 1=[.vs (ints .i64 st) (.own g)]:=fun p st a=>by rw[B];exact RB a
 have T:∀ p st (v:Int),p.length=18->.int .i64 v::(W p st).tail=W (p.set 0 v) st:=fun p st v a=>by rw[B,B];exact zy6 v a
 have S1:∀ p st (v:Int),p.length=18->(W p st).take 1++(.int .i64 v::(W p st).drop 2)=W (p.set 1 v) st:=fun p st v a=>by rw[B,B];exact zy7 v a
 have Ss:∀ p st U,p.length=18->(W p st).take 18++(.vs (ints .i64 U) (.own g)::(W p st).drop 19)=W p U:=fun p st U a=>by rw[B,B];exact zwN U _ a
 have Wg:∀ p st (k:Nat),(a:p.length=18)->(hk:k<16)->((W p st).drop (2+k)).take 1=[.int .i64 (p[2+k]' an)]:=fun p st k a hk=>by rw[B];exact EE a an
 have Wk:∀ p st (k:Nat) (v:Int),p.length=18->k<16->(W p st).take (2+k)++(.int .i64 v::(W p st).drop (2+k+1))=W (p.set (2+k) v) st:=fun p st k v a hk=>by rw[B,B];exact NS v a an
 have RC:∀ v:Int,V.int .i64 (s.p[0]' an)::.int .i64 v::(W s.p s.st).drop 2=W (s.p.set 1 v) s.st:=fun v=>by
  have:=S1 s.p s.st v a;rw[S _ _ a] at this;exact this
 have g0:s.p.getD 0 0=s.p[0]'(by omega):=by rw[aar,jX an];rfl
 have g1:s.p.getD 1 0=s.p[1]'(by omega):=by rw[aar,jX an];rfl
 have u:∀(i:Nat) (v:Int),(s.p.set i v).length=18:=fun i v=>by rw[aal];exact a
 have bR:∀(H':ae) (L':List Nd) (C':List V),H'.length=H.length->Bk H' b z m L'->(∀ n,g<n->aX n C'=C')->Bk (H'++[some (.cells C'),some (.cells x.cs),some (.cells Z)]) b z m L':=fun H' L' C' hl hB hc =>
  hB.pd fun n J=>by simp at J;simp[aw.cl,kx,kZ,hc n an]
 have Hy:∀(L':List Nd),(da H b z m L').set g (some (.zone s.st.length))=da H b z m L':=fun L'=>Bp (zy9 h qX ay L');rw[<-B,<-B];simp[IV,eT,j5,EF,az,leFn];refine ax fX ?_
 cases I:(cH x.op).2.2 with
 | true =>
  cases pg:(cH x.op).2.1 with
  | false =>
   obtain⟨q,j⟩:∃ q,q=bt s.L (eZ (x.k::aQ 34)):=⟨_,rfl⟩
   have jl:yh s x=q:=by rw[yh,pg,j];rfl
   obtain⟨r,hr⟩:∃ r,r=ig q.2 (cH x.op).1 s.p[0] q.1:=⟨_,rfl⟩
   have l:iE s x=⟨r.2,s.p.set 0 r.1,s.st⟩:=by rw[iE,if_pos I,jl,g0,<-hr,pg];rfl
   have O:Ext s.L q.2 1:=by rw[j];exact(vT hi (yJ ir (EG hk) _)).1
   have l1:=O.len;obtain⟨H1,HA⟩:∃ H1,H1=da H b z m q.2:=⟨_,rfl⟩
   have n1:H1.length=H.length:=by rw[HA,qF]
   have B1:Bk H1 b z m q.2:=by rw[HA];exact h.to O.inv an
   have c1:=HB (G:=G) x.k (bR H s.L (W s.p s.st) rfl h (fun n J=>A _ _ n J)) an;rw[BF,<-j,h.bP,<-HA] at c1;obtain⟨H2,c⟩:∃ H2,H2=da H b z m r.2:=⟨_,rfl⟩
   have o:H2.length=H.length:=by rw[c,qF]
   have w:=NT (G:=G) (cH x.op).1 s.p[0] q.1 (bR H1 q.2 (W s.p s.st) n1 B1 (fun n J=>A _ _ n J)) O.inv an;rw[BF,<-hr,B1.bP,show da H1 b z m r.2=H2 by rw[HA,c,h.km]] at w
   have t:∀ d,ai H.length (H2++d)=H2:=fun d=>by rw[c];exact h.back _ d
   have K:H2.set g (some (.zone s.st.length))=H2:=by rw[c];exact Hy _
   rw[l];simp only[<-c];simp[f _ _ a,W1 _ _ a,eT,x3,az,leFn];refine cC c1 ?_;simp[f _ _ a,S _ _ a,az,leFn,n1];refine cC w ?_
   simp[f _ _ a,f _ _ (u _ _),F _ _ (u _ _),T _ _ _ a,D,E,az,leFn,o,qW o,vS o,t,A _ _ _ C,K]
  | true =>
   obtain⟨r,hr⟩:∃ r,r=ig s.L (cH x.op).1 s.p[0] s.p[1]:=⟨_,rfl⟩
   by_cases JH:(cH x.op).1=52
   ·have jC:=hr;rw[JH] at jC
    have l:iE s x=⟨r.2,s.p.set 0 r.1,s.st++[s.p[1]]⟩:=by rw[iE,if_pos I];simp only[yh,pg,if_true,g0,g1,JH,<-jC,and_self]
    obtain⟨Hz,NU⟩:∃ Hz,Hz=H.set g (some (.zone (s.st.length+1))):=⟨_,rfl⟩
    have NW:Hz.length=H.length:=by rw[NU,aal]
    have Bz:Bk Hz b z m s.L:=by rw[NU];exact h.kq qX ay
    obtain⟨H2,c⟩:∃ H2,H2=da Hz b z m r.2:=⟨_,rfl⟩
    have o:H2.length=H.length:=by rw[c,qF,NW]
    have B4:Bk (Hz++[some (.cells (W s.p (s.st++[s.p[1]]))),some (.cells x.cs),some (.cells Z),none]) b z m s.L:=Bz.pd fun n J=>by simp at J;simp[aw.cl,kx,kZ,A _ _ n (show g<n by omega)]
    have w:=NT (G:=G) (cH x.op).1 s.p[0] s.p[1] B4 hi an;rw[BF,<-hr,Bz.bP,<-c] at w;have h8:((s.st.length+1)*8<=140737488355328)=True:=eq_true an
    have t:∀ d,ai H.length (H2++d)=H2:=fun d=>by rw[c,<-NW];exact Bz.back _ d
    have K:(da H b z m r.2).set g (some (.zone (s.st.length+1)))=H2:=by rw[c,NU,zy8 h qX ay]
    have gz:∀ d,(H++d)[g]?=some (some (.zone s.st.length)):=fun d=>by rw[aai C];exact qX
    have sz:∀(y:Option aw) (d:ae),(H++d).set g y=H.set g y++d:=fun y d=>aao _ _ C;have RD:((cH x.op).1==52)=true:=Bq JH;have Au:∀ st:List Int,True:=fun _=>trivial;rw[l];simp[f _ _ a,S _ _ a,W1 _ _ a,Ws _ _ a,Ss _ _ _ a,az,leFn,RD,gz,sz,<-NU,h8,NW,qW NW];refine cC w ?_;simp[f _ _ a,f _ _ (u _ _),F _ _ (u _ _),T _ _ _ a,D,E,az,leFn,o,qW o,vS o,t,A _ _ _ C,K]
   ·have l:iE s x=⟨r.2,s.p.set 0 r.1,s.st⟩:=by rw[iE,if_pos I];simp only[yh,pg,if_true,g0,g1,<-hr,JH,and_false,if_false]
    have RD:((cH x.op).1==52)=false:=aM JH;obtain⟨H2,c⟩:∃ H2,H2=da H b z m r.2:=⟨_,rfl⟩
    have o:H2.length=H.length:=by rw[c,qF]
    have w:=NT (G:=G) (cH x.op).1 s.p[0] s.p[1] (bR H s.L (W s.p s.st) rfl h (fun n J=>A _ _ n J)) hi an;rw[BF,<-hr,h.bP,<-c] at w
    have t:∀ d,ai H.length (H2++d)=H2:=fun d=>by rw[c];exact h.back _ d
    have K:H2.set g (some (.zone s.st.length))=H2:=by rw[c];exact Hy _
    rw[l];simp only[<-c];simp[f _ _ a,S _ _ a,W1 _ _ a,az,leFn,RD];refine cC w ?_
    simp[f _ _ a,f _ _ (u _ _),F _ _ (u _ _),T _ _ _ a,D,E,az,leFn,o,qW o,vS o,t,A _ _ _ C,K]
 | false =>
  have jq:x.op=96\/x.op=97\/x.op=2\/x.op=3->x.k<16:=fun ho=>by
   simp only[qD,aaf] at hx;have h2:=hx.2
   rcases ho with ho|ho|ho|ho<;>simp[m_,ho] at h2<;>exact h2
  have de:=h.shut.back;have HD:fB .i64 (x.k:Int)=(x.k:Int):=EH an;have kV:=h.fc;have CZ:H.set g (some (.zone s.st.length))=H:=Bp qX;have NY:=bR H s.L (W s.p s.st) rfl h (fun n J=>A _ _ n J);simp[eT,x0,x3,az,leFn]
  by_cases M:x.op=0
  ·have l:∀ q,q=bt s.L (eZ (x.k::aQ 34))->iE s x=⟨q.2,s.p.set 0 q.1,s.st⟩:=fun q j=>by rw[iE,if_neg (by simp[I]),if_pos M,<-j]
   obtain⟨q,j⟩:∃ q,q=bt s.L (eZ (x.k::aQ 34)):=⟨_,rfl⟩
   have O:Ext s.L q.2 3:=by rw[j];exact(vT hi (yJ ir (EG hk) _)).1.mono an
   have l1:=O.len;obtain⟨H2,c⟩:∃ H2,H2=da H b z m q.2:=⟨_,rfl⟩
   have o:H2.length=H.length:=by rw[c,qF]
   have w:=HB (G:=G) x.k NY an;rw[BF,<-j,h.bP,<-c] at w
   have t:∀ d,ai H.length (H2++d)=H2:=fun d=>by rw[c];exact h.back _ d
   have K:H2.set g (some (.zone s.st.length))=H2:=by rw[c];exact Hy _
   rw[l q j];simp only[<-c];simp(disch:=omega)[eT,x3,leFn,fW,M];refine cC w ?_;simp[f _ _ a,f _ _ (u _ _),F _ _ (u _ _),T _ _ _ a,D,E,az,leFn,o,qW o,vS o,t,A _ _ _ C,K]
  have b0:(x.op==0)=false:=aM M
  by_cases N:x.op=1
  ·have l:∀ q,q=bt s.L (eZ (x.k::aQ 34))->iE s x=⟨q.2,s.p.set 1 q.1,s.st⟩:=fun q j=>by rw[iE,if_neg (by simp[I]),if_neg M,if_pos N,<-j]
   obtain⟨q,j⟩:∃ q,q=bt s.L (eZ (x.k::aQ 34)):=⟨_,rfl⟩
   have O:Ext s.L q.2 3:=by rw[j];exact(vT hi (yJ ir (EG hk) _)).1.mono an
   have l1:=O.len;obtain⟨H2,c⟩:∃ H2,H2=da H b z m q.2:=⟨_,rfl⟩
   have o:H2.length=H.length:=by rw[c,qF]
   have w:=HB (G:=G) x.k NY an;rw[BF,<-j,h.bP,<-c] at w
   have t:∀ d,ai H.length (H2++d)=H2:=fun d=>by rw[c];exact h.back _ d
   have K:H2.set g (some (.zone s.st.length))=H2:=by rw[c];exact Hy _
   rw[l q j];simp only[<-c];simp(disch:=omega)[eT,x3,leFn,fW,N];refine cC w ?_;simp[f _ _ a,f _ _ (u _ _),F _ _ (u _ _),S _ _ a,RC,D,E,az,leFn,o,qW o,vS o,t,A _ _ _ C,K]
  have b1:(x.op==1)=false:=aM N
  by_cases P:x.op=32
  ·have l:∀ q,q=kU s.L (18+(x.k/4:Nat))->iE s x=⟨q.2,s.p.set 0 q.1,s.st⟩:=fun q j=>by rw[iE,if_neg (by simp[I]),if_neg M,if_neg N,if_pos P,<-j]
   have qd:lY .i64 (x.k:Int) 4=((x.k/4:Nat):Int):=zIb (b:=4) an;have X:aD .i64 18 ((x.k/4:Nat):Int)=18+((x.k/4:Nat):Int):=dW an an;obtain⟨q,j⟩:∃ q,q=kU s.L (18+(x.k/4:Nat)):=⟨_,rfl⟩
   have O:Ext s.L q.2 3:=by rw[j];exact(NZ hi).mono an
   have l1:=O.len;obtain⟨H2,c⟩:∃ H2,H2=da H b z m q.2:=⟨_,rfl⟩
   have o:H2.length=H.length:=by rw[c,qF]
   have w:=ZN (G:=G) (18+((x.k/4:Nat):Int)) NY an;rw[BF,<-j,h.bP,<-c] at w
   have t:∀ d,ai H.length (H2++d)=H2:=fun d=>by rw[c];exact h.back _ d
   have K:H2.set g (some (.zone s.st.length))=H2:=by rw[c];exact Hy _
   rw[l q j];simp only[<-c];simp(disch:=omega)[P,HD,qd,X,-abq];refine cC w ?_;simp[f _ _ a,f _ _ (u _ _),F _ _ (u _ _),T _ _ _ a,D,E,az,leFn,o,qW o,vS o,t,A _ _ _ C,K]
  have ha:(x.op==32)=false:=aM P
  have hb:∀(p':List Int),p'.length=18->iE s x=⟨s.L,p',s.st⟩->V.agg (W p' s.st)=V.agg (vcs (iE s x).p (iE s x).st (.own g))/\(da H b z m (iE s x).L).set g (some (.zone (iE s x).st.length))=H:=fun p' gY e=>by
   rw[e];refine⟨by rw[B],?_⟩;show(da H b z m s.L).set g (some (.zone s.st.length))=H;rw[kV,CZ]
  by_cases R:x.op=96
  ·have Q:=jq an
   have X:aD .i64 2 (x.k:Int)=((2+x.k:Nat):Int):=by rw[dW an an];omega
   have gk:s.p.getD (2+x.k) 0=s.p[2+x.k]'(by omega):=by rw[aar,jX an];rfl
   have l:iE s x=⟨s.L,s.p.set 0 (s.p[2+x.k]'(by have:=jq an;omega)),s.st⟩:=by rw[iE,if_neg (by simp[I]),if_neg M,if_neg N,if_neg P,if_pos R,gk]
   have C4:=Wg s.p s.st x.k a Q;have uT:=fun v=>Wk s.p s.st x.k v a Q;rw[l];simp(disch:=omega)[f _ _ a,f _ _ (u _ _),F _ _ (u _ _),T _ _ _ a,D,E,az,leFn,jW,fW,R,HD,X,bC,na,C4,-aaa,kV,CZ,de,A _ _ _ C]
  have he:(x.op==96)=false:=aM R
  by_cases Y:x.op=97
  ·have Q:=jq an
   have X:aD .i64 2 (x.k:Int)=((2+x.k:Nat):Int):=by rw[dW an an];omega
   have gk:s.p.getD (2+x.k) 0=s.p[2+x.k]'(by omega):=by rw[aar,jX an];rfl
   have l:iE s x=⟨s.L,s.p.set 1 (s.p[2+x.k]'(by have:=jq an;omega)),s.st⟩:=by rw[iE,if_neg (by simp[I]),if_neg M,if_neg N,if_neg P,if_neg R,if_pos Y,gk]
   have C4:=Wg s.p s.st x.k a Q;have uT:=fun v=>Wk s.p s.st x.k v a Q;rw[l];simp(disch:=omega)[f _ _ a,f _ _ (u _ _),F _ _ (u _ _),S _ _ a,RC,D,E,az,leFn,jW,fW,Y,HD,X,bC,na,C4,-aaa,kV,CZ,de,A _ _ _ C]
  have hf:(x.op==97)=false:=aM Y
  by_cases o2:x.op=2
  ·have Q:=jq an
   have X:aD .i64 2 (x.k:Int)=((2+x.k:Nat):Int):=by rw[dW an an];omega
   have gk:s.p.getD (2+x.k) 0=s.p[2+x.k]'(by omega):=by rw[aar,jX an];rfl
   have l:iE s x=⟨s.L,s.p.set (2+x.k) s.p[0],s.st⟩:=by rw[iE,if_neg (by simp[I]),if_neg M,if_neg N,if_neg P,if_neg R,if_neg Y,if_pos o2,g0]
   have C4:=Wg s.p s.st x.k a Q;have uT:=fun v=>Wk s.p s.st x.k v a Q;rw[l];simp(disch:=omega)[f _ _ a,f _ _ (u _ _),F _ _ (u _ _),S _ _ a,D,E,az,leFn,jW,fW,o2,HD,X,bC,na,uT,-aaa,kV,CZ,de,A _ _ _ C]
  have b2:(x.op==2)=false:=aM o2
  by_cases o3:x.op=3
  ·have Q:=jq an
   have X:aD .i64 2 (x.k:Int)=((2+x.k:Nat):Int):=by rw[dW an an];omega
   have gk:s.p.getD (2+x.k) 0=s.p[2+x.k]'(by omega):=by rw[aar,jX an];rfl
   have l:iE s x=⟨s.L,s.p.set (2+x.k) s.p[1],s.st⟩:=by rw[iE,if_neg (by simp[I]),if_neg M,if_neg N,if_neg P,if_neg R,if_neg Y,if_neg o2,if_pos o3,g1]
   have C4:=Wg s.p s.st x.k a Q;have uT:=fun v=>Wk s.p s.st x.k v a Q;rw[l];simp(disch:=omega)[f _ _ a,f _ _ (u _ _),F _ _ (u _ _),W1 _ _ a,D,E,az,leFn,jW,fW,o3,HD,X,bC,na,uT,-aaa,kV,CZ,de,A _ _ _ C]
  have b3:(x.op==3)=false:=aM o3
  by_cases wU:x.op=132
  ·have l:∀ q,q=ou s.L s.p[0]->iE s x=⟨q.2,s.p.set 0 q.1,s.st⟩:=fun q j=>by rw[iE,if_neg (by simp[I]),if_neg M,if_neg N,if_neg P,if_neg R,if_neg Y,if_neg o2,if_neg o3,if_pos wU,g0,<-j]
   obtain⟨q,j⟩:∃ q,q=ou s.L s.p[0]:=⟨_,rfl⟩
   have O:Ext s.L q.2 3:=by rw[j];exact ZO hi
   have l1:=O.len;obtain⟨H2,c⟩:∃ H2,H2=da H b z m q.2:=⟨_,rfl⟩
   have o:H2.length=H.length:=by rw[c,qF]
   have w:=zCy (G:=G) s.p[0] NY hi an;rw[BF,<-j,h.bP,<-c] at w
   have t:∀ d,ai H.length (H2++d)=H2:=fun d=>by rw[c];exact h.back _ d
   have K:H2.set g (some (.zone s.st.length))=H2:=by rw[c];exact Hy _
   rw[l q j];simp only[<-c];simp(disch:=omega)[f _ _ a,S _ _ a,az,leFn,jW,wU];refine cC w ?_;simp[f _ _ a,f _ _ (u _ _),F _ _ (u _ _),T _ _ _ a,D,E,az,leFn,o,qW o,vS o,t,A _ _ _ C,K]
  have RE:(x.op==132)=false:=aM wU
  by_cases o7:x.op=7
  ·have l:iE s x=⟨s.L,(s.p.set 1 s.p[0]).set 0 s.p[0],s.st⟩:=by rw[iE,if_neg (by simp[I]),if_neg M,if_neg N,if_neg P,if_neg R,if_neg Y,if_neg o2,if_neg o3,if_neg wU,if_pos o7,g0]
   have uU:(s.p.set 1 s.p[0]).length=18:=u _ _;have w1:=W1 (s.p.set 1 s.p[0]) s.st uU;have w0:=T (s.p.set 1 s.p[0]) s.st s.p[0] uU
   have uz:((s.p.set 1 s.p[0]).set 0 s.p[0]).length=18:=by rw[aal];exact uU
   have w2:=f ((s.p.set 1 s.p[0]).set 0 s.p[0]) s.st uz;have w3:=F ((s.p.set 1 s.p[0]).set 0 s.p[0]) s.st uz;simp at w1;rw[l];simp(disch:=omega)[f _ _ a,f _ _ (u _ _),S _ _ a,RC,D,E,az,leFn,jW,fW,o7,kV,CZ,de,A _ _ _ C,w0,w1,w2,w3]
  have b7:(x.op==7)=false:=aM o7
  by_cases Bs:x.op=135
  ·have l:iE s x=⟨s.L,s.p.set 0 s.p[1],s.st⟩:=by rw[iE,if_neg (by simp[I]),if_neg M,if_neg N,if_neg P,if_neg R,if_neg Y,if_neg o2,if_neg o3,if_neg wU,if_neg o7,if_pos Bs,g1]
   rw[l];simp(disch:=omega)[f _ _ a,f _ _ (u _ _),F _ _ (u _ _),W1 _ _ a,T _ _ _ a,D,E,az,leFn,jW,fW,Bs,kV,CZ,de,A _ _ _ C]
  have RF:(x.op==135)=false:=aM Bs
  have l:iE s x=s:=by rw[iE,if_neg (by simp[I]),if_neg M,if_neg N,if_neg P,if_neg R,if_neg Y,if_neg o2,if_neg o3,if_neg wU,if_neg o7,if_neg Bs]
  rw[l];simp(disch:=omega)[f _ _ a,F _ _ a,D,E,leFn,jW,fW,b0,b1,ha,he,hf,b2,b3,RE,b7,RF,HD,kV,CZ,de,A _ _ _ C]
open Go Go.RowKit
variable {G:aN}
variable {H:ae} {b z m:Nat} {L:List Nd}
noncomputable def EI(s:VS)(i:Nat):VS:=⟨(kU s.L i).2,s.p.set i (kU s.L i).1,s.st⟩
noncomputable def kJ(L:List Nd)(n:Nat):VS:=(aaw n).foldl EI ⟨L,aaA 18 0,[]⟩
def ZP(L:List Nd)(n:Nat):kJ L (n+1)=EI (kJ L n) n:=by simp[kJ,aaK]
noncomputable def aR(L:List Nd)(w:List af):VS:=w.foldl iE (kJ L 18)
def zwQ(L:List Nd)(w:List af)(x:af):aR L (w++[x])=iE (aR L w) x:=by simp[aR]
structure Bt (L:List Nd) (s:VS) (k n:Nat):Prop where
 ext:Ext L s.L k
 len:s.p.length=18
 st:s.st.length<=n
def zza{s:VS}{k n:Nat}(h:Bt L s k n){x:af}(g:x.k<4294967296):Bt L (iE s x) (k+3) (n+1):=by
 have hi:=h.ext.inv;have a:∀ p:List Int,p.length=18->Bt L ⟨s.L,p,s.st⟩ (k+3) (n+1):=fun p c=>⟨h.ext.mono an,c,by have:=h.st;show s.st.length<=_;omega⟩;have b:∀(q:Int×List Nd) (p:List Int) (st:List Int),Ext s.L q.2 3->p.length=18->st.length<=n+1->Bt L ⟨q.2,p,st⟩ (k+3) (n+1):=fun q p st e c i=>⟨h.ext.trans e,c,i⟩;have j:=h.st;have d:Ext s.L (bt s.L (eZ (x.k::aQ 34))).2 1:=(vT hi (yJ ir (EG g) _)).1
 rw[iE];split
 ·have f:Ext s.L (yh s x).2 1:=by
   rw[yh];split
   ·exact .refl hi 1
   ·exact d
  refine b (ig (yh s x).2 (cH x.op).1 (s.p.getD 0 0) (yh s x).1) _ _ (f.trans (ZQ f.inv)) (by rw[aal];exact h.len) ?_;split
  ·simp;omega
  ·omega
 ·split
  ·exact b _ _ _ (d.mono an) (by rw[aal];exact h.len) an
  ·split
   ·exact b _ _ _ (d.mono an) (by rw[aal];exact h.len) an
   ·split
    ·exact b _ _ _ ((NZ hi).mono an) (by rw[aal];exact h.len) an
    ·split
     ·exact a _ (by rw[aal];exact h.len)
     ·split
      ·exact a _ (by rw[aal];exact h.len)
      ·split
       ·exact a _ (by rw[aal];exact h.len)
       ·split
        ·exact a _ (by rw[aal];exact h.len)
        ·split
         ·exact b _ _ _ (ZO hi) (by rw[aal];exact h.len) an
         ·split
          ·exact a _ (by rw[aal,aal];exact h.len)
          ·split
           ·exact a _ (by rw[aal];exact h.len)
           ·exact a _ h.len
def RG(h:Inv L):∀ n,Bt L (kJ L n) n 0
 | 0=>⟨.refl h 0,by simp[kJ],by simp[kJ]⟩
 | n+1=>by
  have a:=RG h n;rw[ZP];exact⟨a.ext.trans (NZ a.ext.inv),by show(List.set _ _ _).length=18;rw[aal];exact a.len,a.st⟩
def C5(h:Inv L):∀(w:List af),(∀ x∈w,x.k<4294967296)->Bt L (aR L w) (18+3*w.length) w.length:=fun w=>by
 have:∀(w:List af) (s:VS) (k n:Nat),Bt L s k n->(∀ x∈w,x.k<4294967296)->Bt L (w.foldl iE s) (k+3*w.length) (n+w.length):=fun w=>by
  induction w with
  | nil=>intro s k n h _;exact h
  | cons x w b =>
   intro s k n h a;have:=b (iE s x) (k+3) (n+1) (zza h (a x ir)) fun y c=>a y (by simp[c])
   have d:k+3+3*w.length=k+3*(x::w).length:=by simp;omega
   have e:n+1+w.length=n+(x::w).length:=by simp;omega
   rw[d,e] at this;exact this
 intro a;have:=this w (kJ L 18) 18 0 (RG h 18) a;rwa[abY] at this
def zEn[aB G][aA G][aL G][b_ G](w:List af)(h:Bk H b z m L)(c:w.length<=maxLen)(d:∀ x∈w,x.k<4294967296)(e:bn w=false) :
  SF G 296 [.ptr b 0,FL w] H (.bc [.agg (vcs (aaA 18 0) [] .full),.bool false]) H:=by
 refine jx b_.acr (aae rfl) ?_;have f:=h.shut.back;have a:=yH (G:=G) w c d;simp[FL] at a |-;refine ax a ?_;simp[e,f,vcs,kT]
def zEo[dK G][dp G][aB G][aA G][aL G][au G][bw G][aI G][b_ G](w:List af)(h:Bk H b z m L)(hi:Inv L)(hs:L.length<=800000)(hf:w.length<=maxLen)(O:∀ x∈w,x.k<4294967296)(y:bn w=true) :
  SF G 296 [.ptr b 0,FL w] H (.bc [.agg (vcs (aR L w).p (aR L w).st .no),.bool true]) (da H b z m (aR L w).L):=by
 refine jx b_.acr (aae rfl) ?_;have rE:=h.lz;have nR:=h.lb;have kV:=h.fc;have I:=yH (G:=G) w hf O
 have ow:w.length<=32:=by simp only[bn,aaf,decide_eq_true_eq] at y;exact y.1
 have P:∀ x∈w,qD x=true:=by simp only[bn,aaf,aaL] at y;exact y.2
 obtain⟨Z,A⟩:∃ Z:List V,Z=vcs (aaA 18 0) [] .full:=⟨_,rfl⟩
 have lZ:Z.length=19:=by rw[A];rfl
 have dG:Z.drop 19=[]:=aah an
 have kZ:∀ n,aX n Z=Z:=fun n=>by rw[A];simp[vcs,kT,aX,V.cl]
 have Q:Z[18]?=some (.vs [] .full):=by rw[A];rfl
 have RI:=(aab.1 Q).2
 have EF:[V.int .i64 0,.int .i64 0,.int .i64 0,.int .i64 0,.int .i64 0,.int .i64 0,.int .i64 0,.int .i64 0,.int .i64 0,.int .i64 0,.int .i64 0,.int .i64 0,.int .i64 0,.int .i64 0,.int .i64 0,.int .i64 0,.int .i64 0,.int .i64 0,.vs [] .full]=Z:=by rw[A];rfl
 obtain⟨d,J⟩:∃ d,d=H.length+2:=⟨_,rfl⟩;obtain⟨W,e⟩:∃ W:List Int->List Int->List V,∀ p st,W p st=vcs p st (.own d):=⟨_,fun _ _=>rfl⟩
 have l:∀ p st,p.length=18->(W p st).length=19:=fun p st B=>by rw[e];exact CY B
 have R:∀ p st,p.length=18->(W p st).take 19=W p st:=fun p st B=>by rw[e];exact ZL B
 have Wc:∀ p st n,d<n->aX n (W p st)=W p st:=fun p st n S=>by rw[e];exact ZM n d S
 have Wd:∀ p st,p.length=18->(W p st).drop 19=[]:=fun p st B=>aah (by rw[l _ _ B];omega)
 have Wn:∀ p st,aX H.length (W p st)=vcs p st .no:=fun p st=>by
  rw[e,ie,vcs,vcs,J];simp[kT,aaj,V.cl,Tk.cl]
 have RJ:Z.set 18 (.vs [] (.own d))=W (aaA 18 0) []:=by rw[A,e];rfl
 obtain⟨t,u⟩:∃ t:VS->ae,∀ s,t s=da H b z m s.L++[some (.cells Z),some (.cells (W s.p s.st)),some (.zone s.st.length)]:=⟨_,fun _=>rfl⟩
 have bl:∀ s,(t s).length=H.length+3:=fun s=>by rw[u];simp[qF]
 have U:∀(s:VS) (r:ae),Inv s.L->s.L.length<=1000000->(∀ n,r.map (aaN (aw.cl n))=r)->Bk (da H b z m s.L++some (.cells Z)::some (.cells (W s.p s.st))::some (.zone s.st.length)::r) b z m s.L:=fun s r X v I =>
  (h.to X v).pd fun n S=>by
   simp[qF] at S;simp only[abm,aa5,aw.cl,kZ,Wc s.p s.st n an,I n]
 have C:∀(s:VS) (r:ae),Inv s.L->s.L.length<=1000000->ai (H.length+3) (da H b z m s.L++some (.cells Z)::some (.cells (W s.p s.st))::some (.zone s.st.length)::r)=t s:=fun s r X v=>by
  have:=(U s [] X v fun n=>rfl).shut.back r;simp[qF] at this;rw[u];exact this
 have f:∀ L',(da H b z m L').length=H.length:=fun L'=>qF _ _ _ _ _;have g0:∀(L':List Nd) (r:ae),(da H b z m L'++r)[H.length]?=r[0]?:=fun L' r=>lW (f L');have D:∀(L':List Nd) (r:ae) (k:Nat),(da H b z m L'++r)[H.length+k]?=r[k]?:=fun L' r k=>pb (f L') k;have K:∀(L':List Nd) (r:ae) (k:Nat) (x:Option aw),(da H b z m L'++r).set (H.length+k) x=da H b z m L'++r.set k x:=fun L' r k x=>vS (f L') k x;have s0:∀(L':List Nd) (r:ae) (x:Option aw),(da H b z m L'++r).set H.length x=da H b z m L'++r.set 0 x:=fun L' r x=>qW (f L') x
 have Y:∀ L' r,ai H.length (da H b z m L'++r)=da H b z m L':=fun L' r=>h.back L' r;have M:(b<H.length+3)=True:=eq_true an;simp[FL] at I |-;refine ax I ?_;simp[y,EF,lZ,fW,RI,<-J,RJ];have V1:=RG hi;refine aP 18 (fun i=>[(0,.ptr b 0),(1,.vs (IL w) .no),(4,.ptr H.length 0),(6,.ptr (H.length+1) 0),(18,.int .i64 i)]) (fun i=>t (kJ L i)) (fun _=>True) ?_ ?_
 ·have:=C (kJ L 0) [] hi (by show L.length<=_;omega);simp[kJ,kV] at this;simp[aq,kJ,M,this]
 ·intro i hb _;have a:=V1 i;have hc:=a.ext.len
  by_cases ar:i<18
  ·have hB:=U (kJ L i) [] a.ext.inv an fun n=>rfl;obtain⟨q,hq⟩:∃ q,q=kU (kJ L i).L i:=⟨_,rfl⟩
   have qo:kJ L (i+1)=⟨q.2,(kJ L i).p.set i q.1,(kJ L i).st⟩:=by rw[ZP,EI,<-hq]
   have E:=ZN (G:=G) (i:Int) hB an;rw[BF,<-hq,(h.to a.ext.inv an).bP,h.km] at E
   have e1:Ext (kJ L i).L q.2 1:=by rw[hq];exact NZ a.ext.inv
   have l1:=e1.len;have N:=C ⟨q.2,(kJ L i).p.set i q.1,(kJ L i).st⟩ [] e1.inv (by show q.2.length<=_;omega);simp only at N;have wl:=l (kJ L i).p (kJ L i).st a.len;have ws:=NS (i:=i) (p:=(kJ L i).p) (st:=(kJ L i).st) (tk:=.own d) q.1 a.len ar;rw[<-e,<-e] at ws;have JI:((i:Int)<18)=True:=eq_true an;have tb:=C (kJ L i) [] a.ext.inv an;rw[u];simp(disch:=omega)[JI];refine cC E ?_
   simp(disch:=omega)[D,K,f,ar,JI,az,wl,ws,aq,M,N,qo,bE,-aaa]
  ·obtain rfl:i=18:=by omega
   have wt:=R (kJ L 18).p (kJ L 18).st a.len
   have ha:(W (kJ L 18).p (kJ L 18).st)[18]?=some (.vs (ints .i64 (kJ L 18).st) (.own d)):=by rw[e,vcs,aaP (by simp[a.len])];simp[a.len]
   have RK:=(aab.1 ha).2;rw[u];simp[f,RK,l _ _ a.len];obtain⟨T,F⟩:∃ T:Nat->VS,∀ j,T j=aR L (w.take j):=⟨_,fun _=>rfl⟩
   have T0:T 0=kJ L 18:=by rw[F,List.take_zero,aR,List.foldl_nil]
   have TN:T w.length=aR L w:=by rw[F,aav]
   have Tok:∀ j,Bt L (T j) (18+3*32) 32:=fun j=>by
    rw[F];have:=C5 hi (w.take j) fun x o=>O x (aa0 o);exact⟨this.ext.mono (by simp;omega),this.len,Nat.le_trans this.st (by simp;omega)⟩
   have Ts:∀(j:Nat) (x:af),w[j]?=some x->T (j+1)=iE (T j) x:=fun j x o=>by rw[F,F,aan,o];exact zwQ _ _ _
   refine aP w.length (fun j=>[(0,.ptr b 0),(4,.ptr H.length 0),(6,.ptr (H.length+1) 0),(28,.vs (IL w) .no),(29,.int .i64 w.length),(30,.int .i64 j)]) (fun j=>t (T j)) (fun _=>True) ?_ ?_
   ·have:=C (kJ L 18) [] a.ext.inv an;simp[aq,f,M,this,T0]
   intro j hj _;have c:=Tok j;have lT:=c.ext.len;have sT:=c.st
   by_cases wV:j<w.length
   ·obtain⟨x,o⟩:∃ x,w[j]?=some x:=⟨_,jX wV⟩;have nQ:=aas o;have HE:x.cs.length=4:=rfl;have j5:x.cs.take 4=x.cs:=rfl
    have gx:(IL w)[j]?=some x.cs:=by simp[o]
    have he:=(aab.1 gx).2;have ic:((j:Int)<(w.length:Int))=True:=eq_true an
    have hB:=U (T j) [some (.cells x.cs)] c.ext.inv an fun n=>by simp[aw.cl,af.cs,aX,V.cl]
    have lI:(da H b z m (T j).L++[some (.cells Z),some (.cells (W (T j).p (T j).st)),some (.zone (T j).st.length),some (.cells x.cs)])[d]?=some (some (.zone (T j).st.length)):=by rw[J,D];rfl
    have E:=zwP (G:=G) (T j) x d hB lI an c.ext.inv an c.len an (O x nQ) (P x nQ);obtain⟨s',v⟩:∃ s',s'=iE (T j) x:=⟨_,rfl⟩;rw[<-v,<-e,<-e,(h.to c.ext.inv an).bP,h.km,J,K] at E
    have iG:T (j+1)=s':=by rw[v];exact Ts j x o
    have g:=Tok (j+1);rw[iG] at g;have hg:=g.ext.len;have N:=C s' [some (.cells x.cs)] g.ext.inv an;rw[u];simp(disch:=omega)[ic,gx,HE,j5,D,K,f,leFn,l _ _ c.len,R _ _ c.len];refine cC E ?_;simp(disch:=omega)[D,K,f,l _ _ c.len,l _ _ g.len,Wd _ _ c.len,aq,M,N,iG,bE,wV,-aaa]
   ·obtain rfl:j=w.length:=by omega
    rw[u];have g:=c;rw[TN] at g;simp(disch:=omega)[TN,g0,D,s0,f,leFn,l _ _ g.len,R _ _ g.len,lZ,dG,Y,Wn]
def EJ(s:St)(k:Nat):Nat:=if k<16 then s.m.getD k 0 else 0
def Bu(s:St)(k v:Nat):St:=if k<16 then{ s with m:=s.m.set k v } else s
def uA(s:St)(x:af)(d:Da):St :=
 if x.op=0 then{ s with a:=x.k } else if x.op=1 then{ s with x:=x.k } else if x.op=32 then{ s with a:=(Bv d x.k).1 }
 else if x.op=96 then{ s with a:=EJ s x.k } else if x.op=97 then{ s with x:=EJ s x.k } else if x.op=2 then Bu s x.k s.a else if x.op=3 then Bu s x.k s.x
 else if x.op=7 then{ s with x:=s.a } else if x.op=135 then{ s with a:=s.x } else if x.op=132 then{ s with a:=wW s.a } else s
def th(s:St)(x:af):Nat:=if(cH x.op).2.1 then s.x else x.k
def ti(s:St)(x:af):Nat×Bool:=fL (cH x.op).1 s.a (th s x)
def nb(s:St)(x:af)(d:Da):St×Bool :=
 if(cH x.op).2.2 then(if(ti s x).2 then{ s with a:=(ti s x).1 } else s,(ti s x).2) else(uA s x d,true)
def zzb[cW G](s:St)(k:Nat)(a:s.ok)(g:k<4294967296):FP G 162 [SV s,.int .u32 k] (.int .u32 (EJ s k:Nat)):=by
 refine bF cW.acs (aae rfl) ?_;have b:=a.2.2.1
 by_cases h:16<=k
 ·have:(16:Int)<=(k:Int):=an
  simp[SV,St.cs,this,EJ,show¬k<16 from an]
 ·have d:k<16:=an
  have c:=q6 .u32 s.m k an
  have i:s.m.getD k 0=s.m[k]'(by omega):=by simp[aaq,aac (show k<s.m.length by omega)]
  have e:((16:Int)<=(k:Int))=False:=C6 an;have f:((k:Int)<16)=True:=bC an;have j:(2+k+1<=16+1+1)=True:=az an;simp[SV,St.cs,e,f,b,ZR,c,EJ,d,show 2+k<=17 from an]
def ZS[cW G](s:St)(k v:Nat)(d:s.ok)(i:k<4294967296):FP G 163 [SV s,.int .u32 k,.int .u32 v] (SV (Bu s k v)):=by
 refine bF cW.acu (aae rfl) ?_;have a:=d.2.2.1;have e:=eG (k:=.u32) a
 by_cases b:k<16
 ·have c:=vU .u32 s.m k v an;have f:((k:Int)<16)=True:=bC an;have g:(av .u32 (s.m.set k v)).take 16=av .u32 (s.m.set k v):=eG (by simp[a]);simp[SV,St.cs,f,a,ZR,zIh,c,Bu,b,g,show 2+k<=17 from an]
 ·have h:((k:Int)<16)=False:=jN an;simp[SV,St.cs,h,Bu,b,a,e]
def zC7[dp G](a:Nat)(b:a<4294967296):FP G 138 [.int .u32 a] (.int .u32 (wW a:Nat)):=by
 refine bF dp.acv (aae rfl) ?_
 have:yM .u32 (a:Int)=((wW a:Nat):Int):=by unfold yM wW;rw[C7];omega
 simp[this]
def ZT{s:St}(a:s.ok){k v:Nat}(b:v<4294967296):(Bu s k v).ok:=by
 unfold Bu;split
 ·refine⟨a.1,a.2.1,by simp[a.2.2.1],fun w c=>?_⟩
  rcases aa6 c with h|h
  ·exact a.2.2.2 w h
  ·rw[h];exact b
 ·exact a
def zzc{s:St}(a:s.ok)(k:Nat):EJ s k<4294967296:=by
 unfold EJ;split
 ·rename_i h;rw[aaq,aac (show k<s.m.length by rw[a.2.2.1];exact h),abS];exact a.2.2.2 _ (aak _)
 ·decide
def zzd{d:Da}(hd:d.ok)(k:Nat):(Bv d k).1<4294967296:=by
 unfold Bv;split
 ·rename_i h;have a:=yN hd.2.2.2.1;simp only[aaq,aac (show k/4<(j6 d).length by omega),abS];exact ZU hd _ (aak _)
 ·decide
def ZV{s:St}(a:s.ok){x:af}(b:x.k<4294967296):th s x<4294967296:=by
 unfold th;split
 ·exact a.2.1
 ·exact b
def zze{s:St}(i:s.ok){x:af}(g:x.k<4294967296){d:Da}(hd:d.ok):(uA s x d).ok:=by
 obtain⟨f,e,b,c⟩:=i;have j:wW s.a<4294967296:=Nat.mod_lt _ (by decide);have h:=zzc ⟨f,e,b,c⟩ x.k;have l:=zzd hd x.k;unfold uA
 repeat' split
 all_goals first
  | exact⟨g,e,b,c⟩
  | exact⟨f,g,b,c⟩
  | exact⟨l,e,b,c⟩
  | exact⟨h,e,b,c⟩
  | exact⟨f,h,b,c⟩
  | exact ZT ⟨f,e,b,c⟩ f
  | exact ZT ⟨f,e,b,c⟩ e
  | exact⟨f,f,b,c⟩
  | exact⟨e,e,b,c⟩
  | exact⟨j,e,b,c⟩
  | exact⟨f,e,b,c⟩
def ZW{s:St}(a:s.ok){x:af}(b:x.k<4294967296){d:Da}(hd:d.ok):(nb s x d).1.ok:=by
 unfold nb;split
 ·simp only;split
  ·exact⟨RM _ a.1 (ZV a b),a.2⟩
  ·exact a
 ·exact zze a b hd
def zBx[dK G][dp G][aB G][bJ G][cW G](s:St)(x:af)(d:Da)(f:s.ok)(g:x.k<4294967296)(hd:d.ok) :
  FP G 164 [SV s,IV x,DV d] (.bc [SV (nb s x d).1,.bool (nb s x d).2]):=by
 refine bF cW.acw (aae rfl) ?_;have b:=f.2.2.1;have c:=eG (k:=.u32) b;have n:=hd.2.2.2.1;have J:=eG (k:=.u64) n;have o:=Hx (G:=G) x;have h:=HF (G:=G) inferInstance (cH x.op).1 s.a (th s x) f.1 (ZV f g);have p:=ZX (G:=G) d x.k hd g;have i:=zzb (G:=G) s x.k f g;have q:=ZS (G:=G) s x.k s.a f g;have r:=ZS (G:=G) s x.k s.x f g;have K:=zC7 (G:=G) s.a f.1
 have j:∀ v,(Bu s x.k v).m.length=16:=fun v=>by unfold Bu;split<;>simp[b]
 have t:=fun v=>eG (k:=.u32) (j v);simp[SV,IV,DV,af.cs,St.cs,Da.cs] at o p i q r |-;refine ax o ?_;cases u:(cH x.op).2.2
 case true =>
  simp
  have e:nb s x d=(if(ti s x).2 then{ s with a:=(ti s x).1 } else s,(ti s x).2):=by simp[nb,u]
  cases w:(cH x.op).2.1
  ·have:th s x=x.k:=by simp[th,w]
   rw[this] at h;simp;refine ax h ?_
   cases l:(fL (cH x.op).1 s.a x.k).2<;>simp[l,e,ti,this,b,c]
  ·have:th s x=s.x:=by simp[th,w]
   rw[this] at h;simp;refine ax h ?_
   cases l:(fL (cH x.op).1 s.a s.x).2<;>simp[l,e,ti,this,b,c]
 simp
 have e:nb s x d=(uA s x d,true):=by simp[nb,u]
 rw[e]
 by_cases y:x.op=0
 ·simp[y,uA,b,c]
 by_cases z:x.op=1
 ·simp[z,aM,uA,b,c]
 by_cases A:x.op=32
 ·simp[A,aM,uA,n,J];refine ax p ?_;simp[b,c]
 by_cases B:x.op=96
 ·simp[B,aM,uA,b,c];refine ax i ?_;simp[b,c]
 by_cases C:x.op=97
 ·simp[C,aM,uA,b,c];refine ax i ?_;simp[b,c]
 by_cases D:x.op=2
 ·simp[D,aM,uA,b,c];refine ax q ?_;simp[b,j,t]
 by_cases E:x.op=3
 ·simp[E,aM,uA,b,c];refine ax r ?_;simp[b,j,t]
 by_cases F:x.op=7
 ·simp[F,aM,uA,b,c]
 by_cases H:x.op=135
 ·simp[H,aM,uA,b,c]
 by_cases I:x.op=132
 ·simp[I,aM,uA];refine ax K ?_;simp[b,c]
 simp[y,z,A,B,C,D,E,F,H,I,aM,uA,b,c]
def zBy{a b:Nat}(d:a<18446744073709551616):lY .u64 (a:Int) (b:Int)=((a/b:Nat):Int):=by have h:a/b<=a:=abW _ _;unfold lY;have c:((a:Int).tdiv (b:Int))=((a/b:Nat):Int):=rfl;rw[c];exact IntWalk.u64_in _ ⟨Int.natCast_nonneg _,by rw[Int.ofNat_le.symm] at h;omega⟩
def Z1{a:Nat}(b:a<256):fB .u8 (a:Int)=(a:Int):=by unfold fB;exact IntWalk.u8_in _ ⟨an,an⟩
def fE(v n:Nat):List Nat:=(aaw n).map fun j=>v/256^j%256
def zwS(v n:Nat):fE v (n+1)=fE v n++[v/256^n%256]:=by simp[fE,aaK]
def Z2(v n:Nat):(fE v n).length=n:=by simp[fE]
def num:List Nat->Nat
 | []=>0
 | b::l=>b+256*num l
def part(s:St):Nat->Nat
 | 0=>s.a
 | 1=>s.x
 | i+2=>s.m.getD i 0
def aZ(x:af):List Nat:=if iy x.op then [] else if x.op=5 then [x.k] else if br x.op then [x.jt.toNat,x.jf.toNat] else [0]
def Bw(p:Nat):List af->List Bool
 | []=>[]
 | x::f=>(oA x p||((aZ x).any (fun o=>(Bw p f).getD o false)&&!qp x p))::Bw p f
def nd(f:List af)(p:Nat):Bool:=(Bw p f).headD false
def Z3(p:Nat):∀(f:List af) (i:Nat),Bw p (f.drop i)=(Bw p f).drop i
 | f,0=>rfl
 | [],i+1=>by simp[Bw]
 | x::f,i+1=>by simp only[aaS,Bw];exact Z3 p f i
def zC8(p:Nat)(f:List af)(o:Nat):(Bw p f).getD o false=nd (f.drop o) p:=by unfold nd;rw[Z3,List.headD_eq_head?_getD,List.head?_drop];rfl
def zBz(x:af)(f:List af)(p:Nat):nd (x::f) p=(oA x p||((aZ x).any (fun o=>nd (f.drop o) p)&&!qp x p)):=by
 simp only[nd,Bw,List.headD_cons]
 congr 2
 congr 1
 funext o
 exact zC8 p f o
def wd(f:List af):Nat:=gK (nd f) 18
def zdA:List af->List Nat
 | []=>[]
 | x::f=>wd (x::f)::zdA f
def N0:∀ f:List af,(zdA f).length=f.length
 | []=>rfl
 | x::f=>by simp[zdA,N0 f]
def RO:∀(f:List af) (i:Nat),i<f.length->(zdA f)[i]?=some (wd (f.drop i))
 | x::f,0,_=>rfl
 | x::f,i+1,h=>by
  simp only[zdA,List.getElem?_cons_succ,aaS];exact RO f i (by simpa using h)
def bh(g:List af)(os:List Nat)(p:Nat):Bool:=os.any fun o=>nd (g.drop o) p
def Z4(a b:Nat->Bool):∀ n,gK a n ||| gK b n=gK (fun p=>a p||b p) n:=by
 intro n;refine abD fun i=>?_;rw[Nat.testBit_or,C8,C8,C8]
 cases decide (i<n)<;>simp
def RP:∀ n,gK (fun _=>false) n=0
 | 0=>rfl
 | n+1=>by simp[gK,RP n]
def Z5(g:List af)(os:List Nat)(o:Nat):gK (bh g os) 18 ||| wd (g.drop o)=gK (bh g (os++[o])) 18:=by
 rw[wd,Z4]
 congr 1
 funext p
 simp[bh]
def zBA(x:af)(g:List af):gK (fun p=>oA x p||(bh g (aZ x) p&&!qp x p)) 18=wd (x::g):=by
 unfold wd
 congr 1
 funext p
 rw[zBz];rfl
def zwT(a b:Nat->Bool)(n:Nat)(c:n<=32):HI .u32 ((gK a n:Nat):Int) ((gK b n:Nat):Int)=((gK (fun p=>a p&&!b p) n:Nat):Int):=by
 have d:gK a n<2^32:=aaE (uV a n) (abf (by decide) c);have e:gK b n<2^32:=aaE (uV b n) (abf (by decide) c);unfold HI;rw[qq,qq]
 have:(abZ 32 (gK a n) &&& ~~~abZ 32 (gK b n)).toNat=gK (fun p=>a p&&!b p) n:=by
  refine abD fun i=>?_;rw[BitVec.testBit_toNat,BitVec.getLsbD_and,BitVec.getLsbD_not,abE,abE,C8,C8,C8]
  by_cases hi:i<n
  ·have:i<32:=an
   simp[hi,this]
  ·simp[hi]
 show IntKind.u32.wrap _=_;rw[show IntKind.u32.bits=32 from rfl,this];exact uB (aaE (uV _ n) (abf (by decide) c))
def Z6(f:List af):wd f<2^32:=aaE (uV _ 18) (by decide)
def wX(x:af)(i:Nat):List Int:=(aZ x).map fun(o:Nat)=>((i+1+o:Nat):Int)
def Z7[aB G][fe G](x:af)(i:Nat)(h:x.k<4294967296)(j:x.Bx)(hi:i<=5000):FP G 170 [IV x,.int .i64 i] (.vs (ints .i64 (wX x i)) .no):=by
 refine bF fe.acx (aae rfl) ?_;have f:=JF (G:=G) x;have g:=yg (G:=G) x
 have b:aD .i64 (i:Int) 1=(i:Int)+1:=by rw[dW]<;>omega
 simp[IV,af.cs,b] at f g |-;refine ax f ?_;cases c:iy x.op
 ·simp
  by_cases a:x.op=5
  ·have l:aD .i64 ((i:Int)+1) (x.k:Int)=((i+1+x.k:Nat):Int):=by rw[dW]<;>omega
   have d:(x.op==5)=true:=by simp[a]
   simp[d,EM x.k h,b,l];simp[wX,aZ,c,a,ints,iy]
  ·have d:(x.op==5)=false:=aM a;simp[d];refine ax g ?_;cases e:br x.op
   ·simp[wX,aZ,c,a,e,ints,b]
   ·obtain⟨o,p,q,r⟩:=j e
    have m:aD .i64 ((i:Int)+1) x.jt=((i+1+x.jt.toNat:Nat):Int):=by rw[dW]<;>omega
    have n:aD .i64 ((i:Int)+1) x.jf=((i+1+x.jf.toNat:Nat):Int):=by rw[dW]<;>omega
    simp[b,m,n];simp[wX,aZ,c,a,e,ints]
 ·simp[wX,aZ,c,ints]
def Z8:∀{f:List af} {i:Nat} {x:af},jo f=true->f[i]?=some x->ez x (f.length-1-i)=true
 | y::f,0,x,h,a=>by
  simp only[abt,abi.injEq] at a;subst a;simp only[jo,aaf] at h
  simpa using h.1
 | y::f,i+1,x,h,a=>by
  simp only[jo,aaf] at h;have:=Z8 h.2 (by simpa using a);rw[<-this]
  congr 1
  simp only[aaM];omega
def EP{f:List af}{i:Nat}{x:af}(h:dJ f=true)(a:f[i]?=some x):ez x (f.length-1-i)=true/\(iy x.op=false->i+1<f.length)/\f.length<=4096:=by
 simp only[dJ,aaf,decide_eq_true_eq] at h;refine⟨Z8 h.1.2 a,fun b=>?_,h.1.1⟩;obtain⟨hi,e⟩:=aab.1 a
 by_cases d:i+1<f.length
 ·exact d
 ·have:i=f.length-1:=an
  have c:=h.2
  have:f.getLast?=some x:=by rw[aa4,<-this];exact a
  simp only[jA,this] at c;rw[c] at b;cases b
def HJ{f:List af}{i:Nat}{x:af}(h:dJ f=true)(e:f[i]?=some x){o:Nat}(a:o∈aZ x):i+1+o<f.length:=by
 obtain⟨b,c,k⟩:=EP h e;simp only[ez,aaf] at b;unfold aZ at a;split at a
 ·cases a
 rename_i g;have c:=c (by simpa using g);split at a
 ·rename_i j;simp only[aax] at a;subst a;have:=b.1.2;rw[if_pos j,decide_eq_true_eq] at this;omega
 split at a
 ·rename_i d;have l:=yF b.1.1.1 d;have:=b.2;rw[if_pos d,decide_eq_true_eq] at this;simp only[aba,aaZ,or_false] at a
  rcases a with rfl|rfl<;>omega
 ·simp only[aax] at a;omega
def Z9(x:af):(aZ x).length<=2:=by unfold aZ;split;simp;split;simp;split<;>simp
def vV(f:List af)(k:Nat):List Nat:=aaA k 0++zdA (f.drop k)
def RQ(f:List af)(k:Nat)(h:k<=f.length):(vV f k).length=f.length:=by simp[vV,N0];omega
def zt6(f:List af)(k j:Nat)(h:k<=j)(a:j<f.length):(vV f k)[j]?=some (wd (f.drop j)):=by
 rw[vV,aaP (by simpa using h)];rw[abz,RO _ _ (by simp;omega),abA]
 congr 3;omega
def zt7(f:List af)(k:Nat)(a:k<f.length):(vV f (k+1)).set k (wd (f.drop k))=vV f k:=by unfold vV;rw[List.replicate_succ',aaJ,aaO _ _ ir];rw[aaz a];simp only[abz,abL,List.singleton_append,List.set_cons_zero];rfl
def zEp[aB G][aA G][cS G][fe G](f:List af)(r:∀ x∈f,x.k<4294967296)(b:dJ f=true):FP G 171 [FL f] (.bc [.vs (aj .u32 (zdA f)) .no,.int .i64 0]):=by
 have X:f.length<=4096:=by simp only[dJ,aaf,decide_eq_true_eq] at b;exact b.1.1
 have Y:maxLen=9223372036854775807:=by decide
 refine bF fe.acy (aae rfl) ?_;have J:=JG (G:=G) f an r;simp;refine ax J ?_
 have K:cM .i64 (f.length:Int) 1=(f.length:Int)-1:=by rw[oB]<;>omega
 simp(disch:=omega)[b,FL,K,az];refine aP f.length (fun i=>[(0,FL f),(4,.rs 0 0 f.length 1),(5,.int .i64 ((f.length:Int)-1-i))]) (fun i=>[some (.cells (av .u32 (vV f (f.length-i))))]) (fun _=>True) ?_ ?_
 ·simp[aq,ai,FL,vV,zdA,aQ]
 intro i hi _
 by_cases L:i<f.length
 ·have s:∃ t,t=f.length-1-i:=⟨_,rfl⟩;obtain⟨t,s⟩:=s
  have M:(f.length:Int)-1-i=(t:Int):=an
  have N:f.length-i=t+1:=an
  have O:f.length-(i+1)=t:=an
  have a:t<f.length:=an
  have h:f[t]?=some f[t]:=aac a;have d:=qT a;have u:f[t]∈f:=aak a;have v:=aaz a;generalize f[t]=x at h d u v;have P:=r x u;obtain⟨w,_,_⟩:=EP b h;simp only[ez,aaf] at w;have y:=Z7 (G:=G) x t P (yF w.1.1.1) an;have z:=zCb (G:=G) x;have A:=zCc (G:=G) x;have e:x.cs=[.int .i64 x.op,.int .i64 x.jt,.int .i64 x.jf,.int .u32 (x.k:Int)]:=rfl;simp[IV,e] at y z A;simp(disch:=omega)[M,N,bC,FL,d,e,na]
  refine ax y ?_;simp
  refine aP (aZ x).length (fun j=>[(0,FL f),(4,.rs 0 0 f.length 1),(5,.int .i64 t),(6,.int .u32 (gK (bh (f.drop (t+1)) ((aZ x).take j)) 18:Nat)),(27,.vs (ints .i64 (wX x t)) .no),(28,.int .i64 (aZ x).length),(29,.int .i64 j)])
   (fun _=>[some (.cells (av .u32 (vV f (t+1))))]) (fun _=>True) ?_ ?_
  ·have Q:gK (bh (f.drop (t+1)) []) 18=0:=RP 18;simp[aq,ai,FL,Q,wX]
  intro j Z _;have C9:=Z9 x
  by_cases l:j<(aZ x).length
  ·have m:(aZ x)[j]?=some (aZ x)[j]:=aac l;have B:(aZ x)[j]∈aZ x:=aak l;have C:=HJ b h B
   have D:(aZ x).take (j+1)=(aZ x).take j++[(aZ x)[j]]:=by rw[aan,m];rfl
   have E:(wX x t)[j]?=some ((t+1+(aZ x)[j]:Nat):Int):=by simp[wX,m]
   generalize(aZ x)[j]=o at m B C D E
   have R:((av .u32 (vV f (t+1))).drop (t+1+o)).take 1=[.int .u32 (wd (f.drop (t+1+o)):Nat)]:=by have g:=RQ f (t+1) an;have c:=zt6 f (t+1) (t+1+o) an C;rw[q6 _ _ _ an];rw[aac an,abi.injEq] at c;rw[c]
   have n:tj .u32 ((gK (bh (f.drop (t+1)) ((aZ x).take j)) 18:Nat):Int) ((wd (f.drop (t+1+o)):Nat):Int)=((gK (bh (f.drop (t+1)) ((aZ x).take (j+1))) 18:Nat):Int):=by rw[wY (aaE (uV _ 18) (by decide)) (Z6 _),D,<-Z5,abA]
   have g:=RQ f (t+1) an;simp(disch:=omega)[bC,E,R,g,n,az,FL,aq,ai,bE,l,-aaa]
  ·have p:j=(aZ x).length:=an
   subst p;rw[aav];have g:=RQ f (t+1) an;have F:=zBA x (f.drop (t+1));rw[<-v] at F;have S:=zt7 f t a;have q:C_ x<2^32:=aaE (uV _ 18) (by decide)
   have n:tj .u32 ((C_ x:Nat):Int) (HI .u32 ((gK (bh (f.drop (t+1)) (aZ x)) 18:Nat):Int) ((By x:Nat):Int))=((wd (f.drop t):Nat):Int):=by rw[By,zwT _ _ 18 (by decide),wY q (aaE (uV _ 18) (by decide)),C_,Z4,F]
   have H:=vU .u32 (vV f (t+1)) t (wd (f.drop t)) an;rw[S] at H;simp(disch:=omega)[FL,d,e,bC,na,-aaa];refine ax z ?_;simp(disch:=omega)[FL,d,e,bC,na,-aaa];refine ax A ?_
   have T:cM .i64 (t:Int) 1=(f.length:Int)-1-((i+1:Nat):Int):=by rw[oB]<;>omega
   simp(disch:=omega)[n,g,az,H,a,T,aq,ai,L,O,-aaa]
 ·have p:i=f.length:=an
  subst p;have U:((f.length:Int)<=(f.length:Int)-1)=False:=eq_false an
  have V:vV f 0=zdA f:=by simp[vV]
  have W:nS 1 f.length (av .u32 (zdA f))=aj .u32 (zdA f):=by rw[<-N0 f];exact zmN .u32 (zdA f)
  have I:=N0 f;simp[U,V,I,eG I,W,az]
def zwU[aB G][aA G][cS G][fe G](f:List af)(t:Nat)(x:af)(a:f[t]?=some x)(e:∀ x∈f,x.k<4294967296)(b:dJ f=true) :
  FP G 172 [FL f,.int .i64 t] (.bc [.int .u32 (gK (bh (f.drop (t+1)) (aZ x)) 18:Nat),.int .i64 0]):=by
 refine bF fe.acz (aae rfl) ?_;obtain⟨g,v⟩:=aab.1 a;have h:=qT g;have i:f[t]∈f:=aak g;rw[v] at h i;have w:=e x i;obtain⟨l,_,m⟩:=EP b a;simp only[ez,aaf] at l;have n:=Z7 (G:=G) x t w (yF l.1.1.1) an;have p:x.cs=[.int .i64 x.op,.int .i64 x.jt,.int .i64 x.jf,.int .u32 (x.k:Int)]:=rfl;simp[IV,p] at n;simp;refine ax (zEp f e b) ?_;have y:((f.length:Int)<=(t:Int))=False:=eq_false an
 simp(disch:=omega)[y,jN,FL,h,p];refine ax n ?_;simp
 refine aP (aZ x).length (fun j=>[(6,.vs (aj .u32 (zdA f)) .no),(8,.int .u32 (gK (bh (f.drop (t+1)) ((aZ x).take j)) 18:Nat)),(33,.vs (ints .i64 (wX x t)) .no),(34,.int .i64 (aZ x).length),(35,.int .i64 j)])
  (fun _=>[]) (fun _=>True) ?_ ?_
 ·have z:gK (bh (f.drop (t+1)) []) 18=0:=RP 18;simp[aq,ai,FL,z,wX]
 intro j D _;have E:=Z9 x
 by_cases c:j<(aZ x).length
 ·have d:(aZ x)[j]?=some (aZ x)[j]:=aac c;have q:(aZ x)[j]∈aZ x:=aak c;have r:=HJ b a q
  have s:(aZ x).take (j+1)=(aZ x).take j++[(aZ x)[j]]:=by rw[aan,d];rfl
  have u:(wX x t)[j]?=some ((t+1+(aZ x)[j]:Nat):Int):=by simp[wX,d]
  generalize(aZ x)[j]=o at d q r s u;have A:=RO f (t+1+o) r
  have B:tj .u32 ((gK (bh (f.drop (t+1)) ((aZ x).take j)) 18:Nat):Int) ((wd (f.drop (t+1+o)):Nat):Int)=((gK (bh (f.drop (t+1)) ((aZ x).take (j+1))) 18:Nat):Int):=by rw[wY (aaE (uV _ 18) (by decide)) (Z6 _),s,<-Z5,abA]
  simp(disch:=omega)[bC,u,A,B,az,FL,aq,ai,bE,c,-aaa]
 ·have C:j=(aZ x).length:=an
  subst C;simp
def zsx{f:List af}(h:dJ f=true):f≠[]:=by rintro rfl;simp[dJ,jA] at h
def cb(l:List Bool):List V:=l.map V.bool
@[simp] theorem zIv (l:List Bool):(cb l).length=l.length:=by simp[cb]
@[simp] theorem aad (n:Nat) (l:List Bool):aX n (cb l)=cb l:=by rw[ie];simp[cb,aaj]
theorem zC9(l:List Bool)(i:Nat)(b:Bool)(h:l[i]?=some b):((cb l).drop i).take 1=[.bool b]:=by obtain⟨a,rfl⟩:=aab.1 h;rw[cb,<-abF,aaz a];rfl
def N4(l:List Bool)(i:Nat)(x:Bool)(h:i<l.length):(cb l).take i++(V.bool x::(cb l).drop (i+1))=cb (l.set i x):=by rw[cb,<-abF,<-abG,List.set_eq_take_append_cons_drop,if_pos h];simp[cb]
@[simp] theorem zI9 (l:List Bool):(cb l).all V.pure=true:=by simp[cb]
@[simp high] theorem zIw (base:Nat) (e:Env) (H:ae) (s bytes:Nat) (n:X):aU base e H (.oC s bytes [.bool false] n)=(match n.ev e with
  | .int _ m=>if j7 H (base+s)=true/\0<=m/\m.toNat*bytes<=140737488355328 then some (.rs (base+s) 0 m.toNat 1,H.set (base+s) (some (.cells (cb (aaA m.toNat false))))) else none
  | _=>none):=by
 have h:∀ m:Nat,(aaA m [V.bool false]).flatten=cb (aaA m false):=fun m=>by
  induction m with
  | zero=>rfl
  | succ m a=>rw[abI,List.flatten_cons,a];simp[cb,abI]
 rw[aU.eq_27]
 cases n.ev e<;>simp only[h,List.length_singleton]
def N5{f:List af}{i:Nat}{x:af}(h:dJ f=true)(a:f[i]?=some x):x.Bx:=by have:=(EP h a).1;simp only[ez,aaf] at this;exact yF this.1.1.1
def goes(s:St)(x:af):Nat:=if x.op=5 then x.k else if br x.op then(if rF s x then x.jt.toNat else x.jf.toNat) else 0
def run(d:Da)(g:List af)(s:St):Nat×Nat :=
 match g with
 | []=>(0,0)
 | x::g=>if x.op=6 then(x.k,1) else if x.op=22 then(s.a,1) else if(nb s x d).2 then((run d (g.drop (goes s x)) (nb s x d).1).1,(run d (g.drop (goes s x)) (nb s x d).1).2+1) else(0,1)
termination_by g.length
decreasing_by all_goals (simp only[aaQ,aaM];omega)
def zsy(d:Da)(x:af)(g:List af)(s:St):run d (x::g) s=if x.op=6 then(x.k,1) else if x.op=22 then(s.a,1) else if(nb s x d).2 then((run d (g.drop (goes s x)) (nb s x d).1).1,(run d (g.drop (goes s x)) (nb s x d).1).2+1) else(0,1):=by rw[run]
def zwV{x:af}(h:iy x.op=false)(s:St):goes s x∈aZ x:=by
 unfold goes aZ;rw[h];simp only[aap,if_false]
 by_cases a:x.op=5
 ·simp[a]
 ·rw[if_neg a,if_neg a];split
  ·split<;>simp
  ·simp
def two(w:List Nat)(i:Nat):Nat:=w.getD i 0+w.getD (i+1) 0*4294967296
def kM(w:List Nat):Da:=⟨w.getD 0 0,w.getD 1 0,two w 2,(aaw 6).map fun i=>two w (4+2*i)⟩
def JN(d:Da)(a v:Nat):Da:=if a%4=0/\a<64 then kM ((j6 d).set (a/4) v) else d
def zzf{w:List Nat}(a:w.length=16)(b:∀ x∈w,x<4294967296):j6 (kM w)=w:=by
 match w,a with
 | [h,i,j,k,l,m,n,o,p,q,c,r,d,e,f,g],_ =>
  simp only[aba,aaZ,or_false,forall_eq_or_imp,forall_eq] at b;simp only[j6,kM,two,lo,hi,aaK,List.range_zero,abU,abm,ab0,abR,List.flatMap_cons,List.flatMap_nil,List.getD_cons_zero,aa2,Nat.mul_zero,Nat.mul_one,Nat.reduceMul,Nat.reduceAdd,List.cons.injEq,and_true,true_and]
  and_intros<;>omega
def JO{w:List Nat}(e:w.length=16)(d:∀ x∈w,x<4294967296):(kM w).ok:=by
 have a:∀ i,w.getD i 0<4294967296:=by
  intro i;rw[aaq]
  cases h:w[i]? with
  | none=>decide
  | some z=>exact d z (aas h)
 have b:∀ i,two w i<18446744073709551616:=fun i=>by
  have:=a i;have:=a (i+1);unfold two;omega
 refine⟨a 0,a 1,b 2,by simp[kM],fun x c=>?_⟩;simp only[kM,aa7] at c;obtain⟨i,_,rfl⟩:=c;exact b _
def zDa{l:List Nat}{i v n:Nat}(h:∀ x∈l,x<n)(b:v<n):∀ x∈l.set i v,x<n:=fun x c=>by
 rcases aa6 c with a|a
 ·exact h x a
 ·rw[a];exact b
def De:St:=⟨0,0,aQ 16⟩
def zEq(a b c:V)(l:List V)(n:Nat):(a::b::c::l).take (3+n)=a::b::c::l.take n:=by rw[abr];rfl
def zDb(b c:V)(l:List V)(n:Nat):(b::c::l).drop (3+n)=l.drop (n+1):=by rw[show 3+n=(n+1)+2 by omega];rfl
def zwW{w:List Nat}(b:∀ x∈w,x<4294967296)(i:Nat):tj .u64 ((w.getD i 0:Nat):Int) (iH .u64 ((w.getD (i+1) 0:Nat):Int) 32)=((two w i:Nat):Int):=by
 have a:∀ i,w.getD i 0<4294967296:=by
  intro i;rw[aaq]
  cases h:w[i]? with
  | none=>decide
  | some z=>exact b z (aas h)
 exact zx2 _ _ (a i) (a (i+1))
def ZD:List V:=[.int .u32 0,.int .u32 0,.int .u64 0,.int .u64 0,.int .u64 0,.int .u64 0,.int .u64 0,.int .u64 0,.int .u64 0]
def HG(w:List Nat)(n:Nat)(a b c:Nat)(l:List Nat):ae:=[some (.cells (av .u32 w)),some (.cells ZD),some (.cells [.int .i64 n]),some (.cells (.int .u32 (a:Int)::.int .u32 (b:Int)::.int .u64 (c:Int)::av .u64 l))]
def zDc[df G](w:List Nat)(n a b c:Nat)(l:List Nat)(f:w.length=16)(d:∀ x∈w,x<4294967296)(u:n+1<16) :
  bp G (.F 231 [.ptr 0 0,.ptr 2 0] (HG w n a b c l) (.int .u64 (two w n:Nat)) (HG w (n+2) a b c l)):=by
 have g:=q6 .u32 w n an;have h:=q6 .u32 w (n+1) an
 have i:w.getD n 0=w[n]:=by simp[aaq,aac (show n<w.length by omega)]
 have j:w.getD (n+1) 0=w[n+1]:=by simp[aaq,aac (show n+1<w.length by omega)]
 have e:=zwW d n;rw[i,j] at e;have v:=d _ (aak (show n<w.length by omega));have y:=d _ (aak (show n+1<w.length by omega));have k:=JP w[n] an;have m:=JP w[n+1] an;have o:aD .i64 (n:Int) 1=((n+1:Nat):Int):=bE an;have p:aD .i64 (n:Int) 2=((n+2:Nat):Int):=JQ (n:=2) an;have q:((n:Int)<16)=True:=bC an;have r:(((n+1:Nat):Int)<16)=True:=bC an;have s:(n+1<=16)=True:=az an
 have t:(n+1+1<=16)=True:=az an;have z:(n<=14)=True:=az an;refine eB df.acA (aae rfl) ?_;simp[HG,ZD,o,p,q,r,s,t,g,h,k,m,e,f,-aaa]
def vW(w:List Nat)(i:Nat):List Nat:=(aaw 6).map fun j=>if j<i then two w (4+2*j) else 0
def RT(w:List Nat)(i:Nat):(vW w i).length=6:=by simp[vW]
def zvL(w:List Nat){i:Nat}(hi:i<6):(vW w i).set i (two w (4+2*i))=vW w (i+1):=by
 apply aa9;intro j;rw[aaX,RT]
 by_cases h:i=j
 ·subst h;simp[vW,hi]
 ·rw[if_neg h]
  by_cases a:j<6
  ·simp only[vW,abn,abJ a,aa5]
   by_cases b:j<i
   ·simp[b,show j<i+1 by omega]
   ·simp[b,show¬j<i+1 by omega]
  ·simp[vW,a]
def zBB(w:List Nat):vW w 6=(kM w).args:=by simp only[vW,kM];apply aa3;intro j a;simp[aat.1 a]
def zBC(w:List Nat):vW w 0=aQ 6:=by simp[vW,aQ,aaK]
def zDd[df G](w:List Nat)(b:w.length=16)(c:∀ x∈w,x<4294967296):FP G 232 [.agg (av .u32 w)] (DV (kM w)):=by
 refine bF df.acB (aae rfl) ?_;have l:=eG (k:=.u32) b
 have m:(av .u32 w).take 1=[.int .u32 (w[0]:Nat)]:=by have:=q6 .u32 w 0 an;rwa[abX] at this
 have n:(av .u32 w).tail.take 1=[.int .u32 (w[1]:Nat)]:=by have:=q6 .u32 w 1 an;rwa[abl] at this
 have o:=q6 .u32 w 2 an;have p:=q6 .u32 w 3 an
 have d:∀ i (h:i<16),w.getD i 0=w[i]:=fun i h=>by simp[aaq,aac (show i<w.length by omega)]
 have e:=zwW c 2;rw[d 2 an,d 3 an] at e;have z:=c _ (aak (show 2<w.length by omega));have A:=c _ (aak (show 3<w.length by omega));have q:=JP w[2] an;have r:=JP w[3] an;simp[m,n,o,p,q,r,e,b]
 refine aP 6 (fun i=>[(2,.ptr 1 0),(4,.fn 231 [.ptr 0 0,.ptr 2 0]),(5,.ptr 3 0),(21,.int .i64 i)])
  (fun i=>HG w (4+2*i) w[0] w[1] (two w 2) (vW w i)) (fun _=>True) ?_ ?_
 ·have s:av .u64 (aQ 6)=[.int .u64 0,.int .u64 0,.int .u64 0,.int .u64 0,.int .u64 0,.int .u64 0]:=rfl;simp[aq,ai,HG,ZD,zBC,s]
 intro i hi _
 by_cases f:i<6
 ·have g:=zDc (G:=G) w (4+2*i) w[0] w[1] (two w 2) (vW w i) b c an;have t:=RT w i;have j:=vU .u64 (vW w i) i (two w (4+2*i)) an;rw[zvL w f] at j;simp[HG,ZD,-aaa,-aaB] at g;simp(disch:=omega)[bC,HG,ZD,-aaa,-aaB];refine jL g ir ?_;simp(disch:=omega)[ai,zEq,zDb,t,j,bC,az,bE,f,aq,show 4+2*(i+1)=4+2*i+2 from an,-aaa,-aaB]
 ·have u:i=6:=an
  subst u;have v:=zBB w;have a:=RT w 6;have y:=eG (k:=.u64) a;have B:=d 0 an;have C:=d 1 an;simp[HG,ZD,DV,Da.cs,a,y];rw[<-v];simp[kM,b]
def zBD[bJ G][df G](d:Da)(n v:Nat)(hd:d.ok)(g:n<4294967296)(m:v<4294967296):FP G 233 [DV d,.int .u32 n,.int .u32 v] (DV (JN d n v)):=by
 refine bF df.acC (aae rfl) ?_;have i:=ztj (G:=G) d hd;have j:=eG (k:=.u64) hd.2.2.2.1;have c:=hd.2.2.2.1;simp[DV,Da.cs] at i |-;refine ax (ztk n g) ?_
 by_cases h:n%4=0/\n<64
 ·have o:lY .u32 (n:Int) 4=((n/4:Nat):Int):=RV (b:=4) g (by decide);have e:=yN c;have p:=eG (k:=.u32) e;have q:=vU .u32 (j6 d) (n/4) v an
  have f:((j6 d).set (n/4) v).length=16:=by rw[aal];exact e
  have r:=eG (k:=.u32) f;have l:=zDd (G:=G) ((j6 d).set (n/4) v) f (zDa (ZU hd) m)
  have a:(kM ((j6 d).set (n/4) v)).args.length=6:=by simp[kM]
  have s:=eG (k:=.u64) a;simp[DV,Da.cs] at l;simp[h,c,j,JN];refine ax i ?_;simp(disch:=omega)[o,bC,az,e,q,f,r,-abq];refine ax l ?_;simp[a,s]
 ·simp[h,JN,c,j]
def fq(d:Da):List af->St->St×Nat
 | [],s=>(s,0)
 | x::w,s=>if(nb s x d).2 then((fq d w (nb s x d).1).1,(fq d w (nb s x d).1).2+1) else(s,0)
def N6(d:Da):∀(w:List af) (s:St),(fq d w s).2<=w.length
 | [],s=>ab2 _
 | x::w,s=>by
  have:=N6 d w (nb s x d).1;simp only[fq,aaM];split
  ·simp only;omega
  ·simp
def N7{d:Da}(hd:d.ok):∀(w:List af) (s:St),s.ok->(∀ x∈w,x.k<4294967296)->(fq d w s).1.ok
 | [],s,a,_=>a
 | x::w,s,a,b=>by
  have:=N7 hd w (nb s x d).1 (ZW a (b x ir) hd) (fun y c=>b y (by simp[c]));simp only[fq];split
  ·exact this
  ·exact a
def pj(s:St)(d:Da):List Nat:=s.a::s.x::(s.m++j6 d)
def tq(v:List Nat):St:=⟨v.getD 0 0,v.getD 1 0,(v.drop 2).take 16⟩
def zzg{s:St}{d:Da}(a:s.ok)(hd:d.ok):(pj s d).length=34:=by simp[pj,a.2.2.1,yN hd.2.2.2.1]
def rG(v:List Nat)(i:Nat):List Nat:=(v.drop 18).take i++aQ (16-i)
def N8{v:List Nat}(a:v.length=34){i:Nat}(hi:i<=16):(rG v i).length=16:=by simp[rG,a];omega
def RX{v:List Nat}(b:∀ x∈v,x<4294967296)(i:Nat):∀ x∈rG v i,x<4294967296:=by
 intro x a;simp only[rG,aau,aQ,List.mem_replicate] at a
 rcases a with a|a
 ·exact b x (aaH (aa0 a))
 ·omega
def zBE{v:List Nat}(c:v.length=34){i:Nat}(hi:i<16):(rG v i).set i (v[18+i]' an)=rG v (i+1):=by
 apply aa9;intro j
 have d:∀ i,i<=16->∀ j,(rG v i)[j]?=if j<i then v[18+j]? else if j<16 then some 0 else none:=by
  intro i hi j;rw[rG,List.getElem?_append,aay,aaQ,c,abM,aa8]
  by_cases a:j<i
  ·rw[if_pos an,if_pos a,if_pos a]
  ·rw[if_neg an,if_neg a]
   by_cases b:j<16
   ·rw[if_pos b];simp[aQ,abu];omega
   ·rw[if_neg b];simp[aQ,abu];omega
 rw[aaX,N8 c an,d i an,d (i+1) an]
 by_cases e:i=j
 ·subst e;rw[if_pos rfl,if_pos hi,if_pos an,aac an]
 ·rw[if_neg e]
  by_cases a:j<i
  ·rw[if_pos a,if_pos an]
  ·rw[if_neg a]
   by_cases b:j<i+1
   ·omega
   ·rw[if_neg b]
def zzh{v:List Nat}(a:v.length=34)(b:∀ x∈v,x<4294967296){i:Nat}(hi:i<16):JN (kM (rG v i)) (4*i) (v[18+i]' an)=kM (rG v (i+1)):=by rw[JN,if_pos ⟨an,an⟩,zzf (N8 a an) (RX b i),show 4*i/4=i by omega,zBE a hi]
def zDe{v:List Nat}(a:v.length=34):rG v 16=v.drop 18:=by rw[rG,show aQ (16-16)=[] from rfl,abw,aag (by simp[a])]
def zEr(v:List Nat):rG v 0=aQ 16:=by simp[rG]
def RY{v:List Nat}(c:v.length=34)(a:∀ x∈v,x<4294967296):(tq v).ok:=by
 have b:∀ i,v.getD i 0<4294967296:=by
  intro i;rw[aaq]
  cases h:v[i]? with
  | none=>decide
  | some z=>exact a z (aas h)
 exact⟨b 0,b 1,by simp[tq,c],fun x d=>a x (aaH (aa0 d))⟩
def zq0[dK G][dp G][aB G][aA G][bJ G][cW G][aL G][cO G](w:List af)(s:St)(d:Da)(F:w.length<=maxLen)(g:∀ x∈w,x.k<4294967296)(h:s.ok)(hd:d.ok)(j:bn w=true) :
  FP G 292 [FL w,SV s,DV d] (.bc [SV (fq d w s).1,.int .i64 ((fq d w s).2:Nat)]):=by
 refine bF cO.acD (aae rfl) ?_;have l:=yH (G:=G) w F g;rw[j] at l
 have N:w.length<=32:=by simp only[bn,aaf,decide_eq_true_eq] at j;exact j.1
 have H:=h.2.2.1;have O:=eG (k:=.u32) H;have v:=hd.2.2.2.1;have I:=eG (k:=.u64) v;obtain⟨R,m⟩:∃ R,R=fq d w s:=⟨_,rfl⟩;have J:=N6 d w s;have n:=N7 hd w s h g;rw[<-m] at J n |-;simp[FL] at l;simp[FL,SV,DV,St.cs,Da.cs];refine ax l ?_;simp
 refine uW (fun z:St×Nat=>w.length-z.2) (fun z=>[(0,FL w),(4,.ptr 0 0),(5,.ptr 1 0),(6,.ptr 2 0),(16,FL w),(17,.int .i64 w.length),(18,.int .i64 z.2)])
  (fun z=>[some (.cells z.1.cs),some (.cells d.cs),some (.cells (av .u32 (aQ 18)))])
  (fun z=>z.2<=w.length/\z.1.ok/\(fq d (w.drop z.2) z.1).1=R.1/\z.2+(fq d (w.drop z.2) z.1).2=R.2) (s,0) ?_ ?_
 ·refine⟨⟨ab2 _,h,by simp[m],by simp[m]⟩,?_,?_⟩
  ·simp[aq,FL]
  ·simp[ai,Da.cs,St.cs]
 rintro⟨t,i⟩ ⟨hi,f,a,b⟩;simp only at hi f a b;have c:=f.2.2.1;have o:=eG (k:=.u32) c
 by_cases p:i<w.length
 ·obtain⟨x,y⟩:∃ x,x=w[i]:=⟨_,rfl⟩
  have P:w[i]?=some x:=by rw[aac p,y]
  have q:=y.symm;have A:=aaz p;rw[q] at A;have B:=g x (q▸aak p);have C:x.cs=[.int .i64 x.op,.int .i64 x.jt,.int .i64 x.jf,.int .u32 (x.k:Int)]:=rfl;have e:=zBx (G:=G) t x d f B hd;have D:=ZW f B hd;have r:=D.2.2.1;have K:=eG (k:=.u32) r;have L:=RZ (k:=.u32) c;have u:av .u32 (aQ 18)=.int .u32 0::.int .u32 0::av .u32 (aQ 16):=rfl;rw[A] at a b;simp only[fq] at a b;simp[SV,IV,DV,C,St.cs,Da.cs] at e
  simp(disch:=omega)[bC,FL,q,C,St.cs,Da.cs,c,o,v,I,-aaa];refine ax e ?_;cases E:(nb t x d).2
  ·rw[E] at a b;simp only[aap,if_false] at a b;simp[c,o,r,u,-aaa];rw[<-a,<-b];simp
  ·rw[E] at a b;simp only[if_true] at a b;simp(disch:=omega)[c,r,K,L,bE,-aaa];refine⟨((nb t x d).1,i+1),by simp only;omega,⟨by simp only;omega,D,a,by simp only;omega⟩,?_,?_⟩
   ·simp[aq,-aaa]
   ·simp[ai]
 ·have M:i=w.length:=an
  subst M;rw[abQ] at a b;simp only[fq] at a b;have u:av .u32 (aQ 18)=.int .u32 0::.int .u32 0::av .u32 (aQ 16):=rfl;simp[FL,St.cs,Da.cs,c,o,u];rw[<-a,<-b];simp
def zuH(l:List af):(IL l=[])=(l=[]):=propext (NR l)
def pk(s:St)(d:Da)(i:Nat):List Nat:=s.a::s.x::(s.m++((j6 d).take i++aQ (16-i)))
def R4{s:St}{d:Da}(a:s.ok)(hd:d.ok){i:Nat}(hi:i<=16):(pk s d i).length=34:=by simp[pk,a.2.2.1,yN hd.2.2.2.1];omega
def R5{s:St}{d:Da}(hd:d.ok):pk s d 16=pj s d:=by rw[pk,show aQ (16-16)=[] from rfl,abw,aag (by rw[yN hd.2.2.2.1];exact aby _),pj]
def zzi{s:St}{d:Da}(a:s.ok)(hd:d.ok){i:Nat}(hi:i<16):(pk s d i).set (18+i) ((j6 d).getD i 0)=pk s d (i+1):=by
 have f:=yN hd.2.2.2.1;have b:=a.2.2.1
 have c:(j6 d).getD i 0=(j6 d)[i]'(by omega):=by simp[aaq,aac (show i<(j6 d).length by omega)]
 rw[c]
 have e:18+i=(16+i)+1+1:=an
 simp only[pk,e,List.set_cons_succ]
 congr 2
 rw[aaO _ _ an,b,show 16+i-16=i by omega]
 congr 1
 rw[aaO _ _ (by rw[aay];omega),aay,abx an,abL,abd an,aaJ]
 congr 1
 rw[show 16-i=(16-(i+1))+1 by omega];rfl
def zmh[bJ G][cP G](s:St)(d:Da)(b:s.ok)(hd:d.ok):FP G 293 [SV s,DV d] (.agg (av .u32 (pj s d))):=by
 refine bF cP.acE (aae rfl) ?_;have h:=b.2.2.1;have p:=eG (k:=.u32) h;have j:=hd.2.2.2.1;have q:=eG (k:=.u64) j;have n:av .u32 (aQ 34)=.int .u32 0::.int .u32 0::av .u32 (aQ 32):=rfl;have r:(av .u32 (aQ 32)).drop 16=av .u32 (aQ 16):=rfl
 have t:pk s d 0=s.a::s.x::(s.m++aQ 16):=by simp[pk]
 have u:∀ l m:List Nat,av .u32 (l++m)=av .u32 l++av .u32 m:=fun l m=>by simp[av]
 simp[SV,DV,St.cs,Da.cs,n,h,p,r]
 refine aP 16 (fun i=>[(3,.ptr 1 0),(4,.ptr 2 0),(5,.ptr 3 0),(17,.int .i64 i)])
  (fun i=>[some (.cells s.cs),some (.cells d.cs),some (.cells (av .u32 (aQ 34))),some (.cells (av .u32 (pk s d i)))]) (fun _=>True) ?_ ?_
 ·have v:aX 4 (av .u32 s.m++av .u32 (aQ 16))=av .u32 (s.m++aQ 16):=by rw[<-u];simp
  simp[aq,ai,St.cs,Da.cs,t,n,v];rfl
 intro i hi _
 by_cases o:i<16
 ·have c:=ZX (G:=G) d (4*i) hd an
  have w:Bv d (4*i)=((j6 d).getD i 0,true):=by rw[Bv,if_pos ⟨an,an⟩,show 4*i/4=i by omega]
  rw[w] at c;have e:=R4 b hd hi;have f:=vU .u32 (pk s d i) (18+i) ((j6 d).getD i 0) an;rw[zzi b hd o] at f;obtain⟨x,y⟩:∃ x,x=(j6 d).getD i 0:=⟨_,rfl⟩;rw[<-y] at f c
  have z:aD .i64 18 (i:Int)=((18+i:Nat):Int):=by rw[show(18:Int)=((18:Nat):Int) from rfl];exact qH an
  have A:eI .i64 4 (i:Int)=((4*i:Nat):Int):=by unfold eI;rw[show(4:Int)*(i:Int)=((4*i:Nat):Int) by omega];exact IntWalk.i64_in _ ⟨an,an⟩
  have B:fB .u32 ((4*i:Nat):Int)=((4*i:Nat):Int):=by unfold fB;exact IntWalk.u32_in _ ⟨an,an⟩
  simp[DV,Da.cs,-aaB] at c;simp(disch:=omega)[bC,z,A,B,Da.cs,j,q,-aaa,-aaB];refine ax c ?_;simp(disch:=omega)[bC,az,e,f,o,bE,aq,ai,St.cs,-aaa,-aaB]
 ·have C:i=16:=an
  subst C;have e:=zzg b hd;have D:=eG (k:=.u32) e;have g:=R5 (s:=s) hd;simp[g,e,D]
def zt8[bJ G][df G][bT G](v:List Nat)(b:v.length=34)(g:∀ x∈v,x<4294967296):FP G 294 [.agg (av .u32 v)] (.bc [SV (tq v),DV (kM (v.drop 18))]):=by
 refine bF bT.acF (aae rfl) ?_;have O:=eG (k:=.u32) b;obtain⟨a,e⟩:∃ a,a=v[0]:=⟨_,rfl⟩;obtain⟨x,f⟩:∃ x,x=v[1]:=⟨_,rfl⟩
 have A:(av .u32 v).take 1=[.int .u32 (a:Nat)]:=by have:=q6 .u32 v 0 an;rwa[abX,<-e] at this
 have B:(av .u32 v).tail.take 1=[.int .u32 (x:Nat)]:=by have:=q6 .u32 v 1 an;rwa[abl,<-f] at this
 obtain⟨m,j⟩:∃ m,m=(v.drop 2).take 16:=⟨_,rfl⟩
 have l:m.length=16:=by rw[j];simp[b]
 have C:((av .u32 v).drop 2).take 16=av .u32 m:=by rw[j];simp[av,abF,abG]
 have r:=eG (k:=.u32) l
 have n:tq v=⟨a,x,m⟩:=by rw[e,f,j];simp[tq,aaq,aac (show 0<v.length by omega),aac (show 1<v.length by omega)]
 have o:av .u32 (aQ 18)=.int .u32 0::.int .u32 0::av .u32 (aQ 16):=rfl;have E:(av .u32 (aQ 16)).drop 16=[]:=rfl
 have F:kM (rG v 0)=⟨0,0,0,aQ 6⟩:=by rw[zEr];rfl
 have H:av .u64 (aQ 6)=[.int .u64 0,.int .u64 0,.int .u64 0,.int .u64 0,.int .u64 0,.int .u64 0]:=rfl;simp[b,A,B,C,o,E,l,r]
 refine aP 16 (fun i=>[(1,.ptr 0 0),(2,.ptr 1 0),(3,.ptr 2 0),(4,.ptr 3 0),(5,.ptr 4 0),(16,.int .i64 i)])
  (fun i=>[some (.cells (av .u32 v)),some (.cells (av .u32 (aQ 18))),some (.cells ZD),some (.cells (St.cs ⟨a,x,m⟩)),some (.cells (kM (rG v i)).cs)]) (fun _=>True) ?_ ?_
 ·simp[aq,ai,St.cs,Da.cs,F,o,H,ZD]
 intro i hi _;have s:=JO (N8 b hi) (RX g i);have c:=s.2.2.2.1;have h:=eG (k:=.u64) c
 by_cases t:i<16
 ·have d:=zBD (G:=G) (kM (rG v i)) (4*i) (v[18+i]' an) s an (g _ (aak _));rw[zzh b g t] at d;have I:=JO (N8 b (show i+1<=16 by omega)) (RX g (i+1));have p:=I.2.2.2.1;have q:=eG (k:=.u64) p;have u:=q6 .u32 v (18+i) an;generalize kM (rG v i)=D at d c h;obtain⟨w,z⟩:∃ w,w=kM (rG v (i+1)):=⟨_,rfl⟩;rw[<-z] at d p q;obtain⟨y,J⟩:∃ y,y=v[18+i]'(by omega):=⟨_,rfl⟩
  rw[<-J] at d u
  have K:aD .i64 18 (i:Int)=((18+i:Nat):Int):=by rw[show(18:Int)=((18:Nat):Int) from rfl];exact qH an
  have L:eI .i64 4 (i:Int)=((4*i:Nat):Int):=by unfold eI;rw[show(4:Int)*(i:Int)=((4*i:Nat):Int) by omega];exact IntWalk.i64_in _ ⟨an,an⟩
  have M:fB .u32 ((4*i:Nat):Int)=((4*i:Nat):Int):=by unfold fB;exact IntWalk.u32_in _ ⟨an,an⟩
  simp[DV,Da.cs,-aaB] at d;simp(disch:=omega)[bC,az,K,L,M,Da.cs,c,h,b,u,-aaa,-aaB];refine ax d ?_;simp(disch:=omega)[t,bE,aq,ai,St.cs,ZD,c,p,<-z,RZ (k:=.u64) c,-aaa,-aaB]
 ·have N:i=16:=an
  subst N;rw[zDe b] at c h |-;simp[St.cs,Da.cs,ZD,c,h,l,r,o,n,SV,DV]
variable {L L':List Nd} {v:List Nat}
def pt(t:St):List Nat:=t.a::t.x::t.m
structure PV (v:List Nat) (L:List Nd) (p:List Int) (t:St):Prop where
 len:p.length=18
 val:∀ i,i<18->dL L (p.getD i 0)=true/\gL v L (p.getD i 0)=some ((pt t).getD i 0)
def EU(w:List af)(n:Nat):Nat:=(w.take n).countP fun x=>decide (x.op=60)
structure WV (v:List Nat) (L:List Nd) (p st:List Int) (w:List af) (d:Da) (t:St):Prop where
 num:st.length=EU w w.length
 ahead:∀ i,i<EU w (fq d w t).2->∃ x n,st[i]?=some x/\dL L x=true/\gL v L x=some n/\n≠0
 stop:(fq d w t).2<w.length->∃ x,st[EU w (fq d w t).2]?=some x/\dL L x=true/\gL v L x=some 0
 done:(fq d w t).2=w.length->PV v L p (fq d w t).1
def j8(s:St)(n:Nat):aX n s.cs=s.cs:=by simp[St.cs,V.cl,ie,av,aaj]
def Df(d:Da)(n:Nat):aX n d.cs=d.cs:=by simp[Da.cs,V.cl,ie,av,aaj]
def JS(s:St):s.cs.map V.j9=s.cs:=by simp[St.cs,av,aaj,V.j9]
def JT(d:Da):d.cs.map V.j9=d.cs:=by simp[Da.cs,av,aaj,V.j9]
def HL{s:St}(h:s.ok):s.cs.length=18:=by simp[St.cs,h.2.2.1]
def N_{d:Da}(h:d.ok):d.cs.length=9:=by simp[Da.cs,h.2.2.2.1]
def Aw(live p:Nat):Bool:=live/2^p%2==1
def yR(live:Nat)(x y:List Nat)(p:Nat):Bool:=Aw live p&&(x.getD p 0 !=y.getD p 0)
def Oa(live:Nat)(x y:List Nat):Bool:=(aaw 18).any (yR live x y)
def yS(v w:List af)(live:Nat)(s:St)(d:Da):Bool :=
 if(fq d v s).2<v.length\/(fq d w s).2<w.length then !(decide ((fq d v s).2<v.length)&&decide ((fq d w s).2<w.length))
 else Oa live (pj (fq d v s).1 d) (pj (fq d w s).1 d)
def R7[cJ G](live p:Nat)(a:live<4294967296)(e:p<=31):FP G 307 [.int .u32 live,.int .i64 p] (.bool (Aw live p)):=by
 refine bF cJ.acG (aae rfl) ?_;have b:live/2^p<4294967296:=Nat.lt_of_le_of_lt (abW _ _) a
 have c:(((live/2^p%2:Nat):Int)==1)=Aw live p:=by unfold Aw;rw[abe,beq_iff_eq,beq_iff_eq];omega
 have d:((p:Int)<0)=False:=eq_false an;simp(disch:=omega)[yT,zBk b,c,d,-abq,-abT,-Int.natCast_pow]
def zvN{live:Nat}{x y:List Nat}{i:Nat}(hi:i<18)(h:yR live x y i=true):Oa live x y=true :=
 aa1.2 ⟨i,aat.2 hi,h⟩
def zwX{live:Nat}{x y:List Nat}(h:∀ j<18,yR live x y j=false):Oa live x y=false:=by rw[Oa,List.any_eq_false];intro j a;rw[h j (aat.1 a)];decide
def zvO[dK G][dp G][aB G][aA G][bJ G][cW G][aL G][cO G][cP G][cJ G](v w:List af)(live:Nat)(s:St)(d:Da)(W:v.length<=maxLen)(Z:w.length<=maxLen)
  (z:∀ x∈v,x.k<4294967296) (C:∀ x∈w,x.k<4294967296) (g7:live<4294967296) (c:s.ok) (hd:d.ok) :
  FP G 308 [FL v,FL w,.int .u32 live,SV s,DV d] (.bool (bn v&&bn w&&yS v w live s d)):=by
 refine bF cJ.acH (aae rfl) ?_;have EV:=yH (G:=G) v W z;have Ob:=yH (G:=G) w Z C;have sl:=HL c;have g:=N_ hd;have st:=aag (i:=18) (l:=s.cs) an;have dt:=aag (i:=9) (l:=d.cs) an;have sd:s.cs.drop 18=[]:=aah an;have dd:d.cs.drop 9=[]:=aah an;simp only[FL] at EV Ob;simp[FL,SV,DV];refine ax EV ?_
 cases hv:bn v with
 | false=>simp
 | true =>
  simp;refine ax Ob ?_
  cases hw:bn w with
  | false=>simp
  | true =>
   have D:=zq0 (G:=G) v s d W z c hd hv;have b:=zq0 (G:=G) w s d Z C c hd hw;have o:=N7 hd v s c z;have r:=N7 hd w s c C;have Dg:=N6 d v s;have Dh:=N6 d w s;have E:yS v w live s d=yS v w live s d:=rfl
   conv at E=>rhs;unfold yS
   obtain⟨A,F⟩:∃ A,A=(fq d v s).1:=⟨_,rfl⟩;obtain⟨n,H⟩:∃ n,n=(fq d v s).2:=⟨_,rfl⟩;obtain⟨B,I⟩:∃ B,B=(fq d w s).1:=⟨_,rfl⟩;obtain⟨m,J⟩:∃ m,m=(fq d w s).2:=⟨_,rfl⟩;rw[<-F,<-H] at D;rw[<-I,<-J] at b;rw[<-F,<-I,<-H,<-J] at E;rw[<-F] at o;rw[<-I] at r;rw[<-H] at Dg;rw[<-J] at Dh;rw[E];have al:=HL o;have bl:=HL r;have K:=aag (i:=18) (l:=A.cs) an;have L:=aag (i:=18) (l:=B.cs) an
   have x1:=zmh (G:=G) A d o hd;have x2:=zmh (G:=G) B d r hd
   have t:(pj A d).length=34:=by rw[<-R5 hd];exact R4 o hd an
   have u:(pj B d).length=34:=by rw[<-R5 hd];exact R4 r hd an
   obtain⟨X,M⟩:∃ X,X=pj A d:=⟨_,rfl⟩;obtain⟨Y,N⟩:∃ Y,Y=pj B d:=⟨_,rfl⟩;rw[<-M] at x1 t;rw[<-N] at x2 u;simp only[FL,SV,DV] at D b x1 x2;simp[sl,g,st,dt,j8,Df,JS,JT];refine ax D ?_;simp[sl,g,st,dt,al,j8,Df,JS,JT];refine ax b ?_;have c1:((n:Int)<(v.length:Int))=(n<v.length):=propext an;have c2:((m:Int)<(w.length:Int))=(m<w.length):=propext an;simp[bl,c1,c2]
   by_cases y:n<v.length
   ·by_cases e:m<w.length
    ·simp[y,e]
    ·simp[y,e]
   by_cases e:m<w.length
   ·simp[y,e]
   simp[y,e,g,dt,al,K,j8,Df,JS,JT];refine ax x1 ?_;simp[g,dt,bl,L,j8,Df,JS,JT];refine ax x2 ?_;have xt:=aag (i:=34) (l:=av .u32 X) (by simp;omega);have yt:=aag (i:=34) (l:=av .u32 Y) (by simp;omega);have xd:(av .u32 X).drop 34=[]:=aah (by simp;omega);have yd:(av .u32 Y).drop 34=[]:=aah (by simp;omega);simp[t,u]
   refine aP 18 (fun i=>[(2,.int .u32 live),(17,.ptr 4 0),(18,.ptr 5 0),(63,.int .i64 i)])
    (fun i=>[some (.cells s.cs),some (.cells d.cs),some (.cells A.cs),some (.cells B.cs),some (.cells (av .u32 X)),some (.cells (av .u32 Y))]) (fun i=>∀ j<i,yR live X Y j=false) ?_ ?_
   ·simp[aq,ai,j8,Df]
   intro i hi O
   by_cases P:i<18
   ·have iT:=R7 (G:=G) live i g7 an;have Q:=q6 .u32 X i an;have R:=q6 .u32 Y i an
    have gx:X.getD i 0=X[i]'(by omega):=by simp[aaq,aac (show i<X.length by omega)]
    have gy:Y.getD i 0=Y[i]'(by omega):=by simp[aaq,aac (show i<Y.length by omega)]
    have a:yR live X Y i=yR live X Y i:=rfl
    conv at a=>rhs;rw[yR,gx,gy]
    obtain⟨p,HN⟩:∃ p,p=X[i]'(by omega):=⟨_,rfl⟩;obtain⟨q,f⟩:∃ q,q=Y[i]'(by omega):=⟨_,rfl⟩;rw[<-HN,<-f] at a;rw[<-HN] at Q;rw[<-f] at R;simp(disch:=omega)[bC];refine ax iT ?_
    cases b:Aw live i with
    | false =>
     rw[b,abh] at a
     have S:∀ j<i+1,yR live X Y j=false:=fun j T=>by
      rcases aaF.1 T with h|rfl
      ·exact O j h
      ·exact a
     simp(disch:=omega)[P,bE,aq,ai,j8,Df,-aaa]
     exact S
    | true =>
     rw[b,aaG] at a
     by_cases U:p=q
     ·have V:yR live X Y i=false:=by rw[a,U];simp
      have S:∀ j<i+1,yR live X Y j=false:=fun j T=>by
       rcases aaF.1 T with h|rfl
       ·exact O j h
       ·exact V
      simp(disch:=omega)[bC,az,P,t,u,Q,R,U,bE,aq,ai,j8,Df,-aaa];exact S
     ·have V:yR live X Y i=true:=by rw[a];simp[U]
      have:=zvN P V;simp(disch:=omega)[bC,az,t,u,Q,R,jM (show(p:Int)≠q by omega),this,<-M,<-N]
   ·have ay:i=18:=an
    subst ay;simp[zwX O,<-M,<-N]
structure MI (v:List Nat) (s:MS):Prop where
 inv:Inv s.L
 len:s.ids.length=s.made.length
 ok:R9 s.made
 rel:∀(i:Nat) (x:Int) (a:Md) (o:Option Nat),s.ids[i]?=some x->s.made[i]?=some a->(refs v s.made)[i]?=some o ->
  a.kind=4/\x=-1/\o=none\/a.kind≠4/\∃ n:Nat,x=n/\n<s.L.length/\gL v s.L n=o
def JU(f g:List Nat):Option Nat:=(aaw 34).find? fun i=>decide (f.getD (i+1) 0≠g.getD (i+1) 0)
def vY(f g:List Nat):List Nat×Bool:=if f.headD 0≠g.headD 0 then(aQ 34,true) else match JU f g with
 | some i=>((aQ 34).set i 1,true)
 | none=>(aQ 34,false)
def zvP(f g:List Nat):(vY f g).1.length=34:=by
 rw[vY];split
 ·simp
 ·split<;>simp
def zwY(f g:List Nat):∀ x∈(vY f g).1,x<4294967296:=by
 rw[vY];split
 ·exact uX 34
 ·split
  ·intro x a
   rcases aa6 a with h|rfl
   ·exact uX 34 x h
   ·decide
  ·exact uX 34
def zwZ[bI G](f g:List Nat)(y:f.length=35)(z:g.length=35):FP G 255 [.agg (av .u32 f),.agg (av .u32 g)] (.bc [.agg (av .u32 (vY f g).1),.bool (vY f g).2]):=by
 refine bF bI.acI (aae rfl) ?_
 obtain⟨c,t,rfl⟩:∃ c t,f=c::t:=by cases f with|nil=>simp at y|cons c t=>exact⟨c,t,rfl⟩
 obtain⟨d,u,rfl⟩:∃ c t,g=c::t:=by cases g with|nil=>simp at z|cons c t=>exact⟨c,t,rfl⟩
 have a:t.length=34:=by simpa using y
 have b:u.length=34:=by simpa using z
 have A:av .u32 (c::t)=.int .u32 (c:Int)::av .u32 t:=rfl;have hd:av .u32 (d::u)=.int .u32 (d:Int)::av .u32 u:=rfl;have F:=eG (k:=.u32) a;have H:=eG (k:=.u32) b
 have h:∀(i:Nat) (x:V) (l:List V),(x::l).drop (1+i)=l.drop i:=fun i x l=>by rw[abr,aaS]
 have o:(av .u32 (aQ 34)).drop 34=[]:=rfl
 by_cases p:c=d
 case neg =>
  have K:((c:Int)==(d:Int))=false:=aM an
  have m:vY (c::t) (d::u)=(aQ 34,true):=by simp[vY,p]
  simp[-aaI,A,hd,a,b,o,m,jM,p]
 subst p
 have bne:((c:Int) !=(c:Int))=false:=by simp
 simp[-aaI,A,hd,a,b,F]
 refine aP 34 (fun i=>[(3,.ptr 1 0),(4,.ptr 2 0),(6,.ptr 3 0),(16,.agg (av .u32 t)),(17,.int .i64 i)])
  (fun i=>[some (.cells (.int .u32 (c:Int)::av .u32 t)),some (.cells (.int .u32 (c:Int)::av .u32 u)),some (.cells (av .u32 (aQ 34))),some (.cells (av .u32 (aQ 34)))]) (fun i=>∀ j,j<i->t.getD j 0=u.getD j 0) ?_ ?_
 ·simp[aq,ai,aX,V.cl]
 intro i hi q
 by_cases r:i<34
 ·have q1:=BC .u32 (jX (show i<t.length by omega));have B:=BC .u32 (jX (show i<u.length by omega))
  have C:t.getD i 0=t[i]'(by omega):=by rw[aar,jX an];rfl
  have D:u.getD i 0=u[i]'(by omega):=by rw[aar,jX an];rfl
  by_cases s:t[i]' an=u[i]' an
  ·have I:∀ j,j<i+1->t.getD j 0=u.getD j 0:=fun j n=>by
    by_cases e:j=i
    ·subst e;rw[C,D,s]
    ·exact q j an
   simp(disch:=omega)[bC,leFn,az,r,a,b,q1,B,h,s,bE,-aaa,aq,ai,aX,V.cl];simpa using I
  ·have J:((t[i]'(by omega):Nat):Int)≠((u[i]'(by omega):Nat):Int):=an
   have v:JU (c::t) (c::u)=some i:=by
    rw[JU,List.find?_range_eq_some];refine⟨?_,aat.2 r,fun j n=>?_⟩
    ·simp only[aa2,C,D];simpa using s
    ·have:=q j n;simp only[aa2];simpa using this
   have m:vY (c::t) (c::u)=((aQ 34).set i 1,true):=by simp[vY,v]
   have E:=vU .u32 (aQ 34) i 1 (by simpa using r);have w:(av .u32 ((aQ 34).set i 1)).take 34=av .u32 ((aQ 34).set i 1):=eG ir;simp(disch:=omega)[-aaI,bC,leFn,az,a,b,q1,B,h,jM J,m,o];simp at E;simp(disch:=omega)[-aaI,E,w]
 ·obtain rfl:i=34:=by omega
  have v:JU (c::t) (c::u)=none:=by rw[JU,abj];intro j n;have:=q j (aat.1 n);simp only[aa2];simpa using this
  have m:vY (c::t) (c::u)=(aQ 34,false):=by simp[vY,v]
  simp[-aaI,m,o]
def zw0(M:List Int)(p:Int->Bool):∀ w∈ik M p,w<4294967296:=by
 intro w a;simp only[ik,aa7] at a;obtain⟨i,_,rfl⟩:=a
 split<;>omega
def zvQ(a gv:List Int)(b c:List Nat):(vZ a gv b c).1.length=34:=by
 simp only[vZ];split
 ·split<;>simp[ik]
 ·simp
def zw1(a gv:List Int)(b c:List Nat):∀ x∈(vZ a gv b c).1,x<4294967296:=by
 simp only[vZ];split
 ·split
  ·exact zw0 _ _
  ·exact uX 34
 ·exact uX 34
noncomputable def BD(a c:Nd):List Nat×Bool:=if a.kind=0/\c.kind=0 then vY a.f c.f else match gD a,gD c with
 | some p,some q=>vZ p.1 q.1 p.2 q.2
 | _,_=>(aQ 34,false)
noncomputable def q7(L:List Nd)(x y:Int):List Nat×Bool:=if dL L x=true/\dL L y=true/\x≠y then(match L[x.toNat]?,L[y.toNat]? with
 | some a,some c=>BD a c
 | _,_=>(aQ 34,false)) else(aQ 34,false)
def zuI(a c:Nd):(BD a c).1.length=34/\∀ x∈(BD a c).1,x<4294967296:=by
 rw[BD];split
 ·exact⟨zvP _ _,zwY _ _⟩
 ·split
  ·exact⟨zvQ _ _ _ _,zw1 _ _ _ _⟩
  ·exact⟨ir,uX 34⟩
def zuJ(L:List Nd)(x y:Int):(q7 L x y).1.length=34/\∀ c∈(q7 L x y).1,c<4294967296:=by
 rw[q7];split
 ·split
  ·exact zuI _ _
  ·exact⟨ir,uX 34⟩
 ·exact⟨ir,uX 34⟩
def zDf{x y:Nat}{a c:Nd}(b:L[x]?=some a)(d:L[y]?=some c)(g:x≠y):q7 L x y=BD a c:=by have e:=(aab.1 b).1;have f:=(aab.1 d).1;rw[q7,if_pos ⟨by simp[dL];exact e,by simp[dL];exact f,an⟩,abo,abo,b,d]
def zBF[bI G][au G][T:dM G][aI G][bV G](x y:Int)(h:Bk H b z m L)(hi:Inv L):SF G 277 [.ptr b 0,.int .i64 x,.int .i64 y] H (.bc [.agg (av .u32 (q7 L x y).1),.bool (q7 L x y).2]) H:=by
 haveI:bw G:=T.tobw
 refine jx bV.acJ (aae rfl) ?_;obtain⟨Z,i⟩:∃ Z,Z=av .u32 (aQ 34):=⟨_,rfl⟩
 have j:Z.length=34:=by rw[i];simp
 have l:Z.drop 34=[]:=aah an;have B:Z.take 34=Z:=aag an
 have o:∀ n,aX n Z=Z:=fun n=>by rw[i];simp
 have hb:∀ n,aaN (aw.cl n) (some (.cells Z))=some (.cells Z):=fun n=>by simp[aw.cl,o]
 have t:Bk (H++[some (.cells Z),some (.cells Z)]) b z m L:=h.app fun n=>by simp[aw.cl,o]
 have s9:=t.shut.self;have s:=h.shut.back;simp at s9;simp[<-i,-aaI];refine cC (EZ x t) ?_
 cases hx:dL L x with
 | false =>
  have C:q7 L x y=(aQ 34,false):=by rw[q7,if_neg (by simp[hx])]
  simp[C,<-i,j,l,B,s,o]
 | true =>
  simp;refine cC (EZ y t) ?_
  cases hy:dL L y with
  | false =>
   have C:q7 L x y=(aQ 34,false):=by rw[q7,if_neg (by simp[hy])]
   simp[C,<-i,j,l,B,s,o]
  | true =>
   by_cases U:x=y
   ·subst U
    have C:q7 L x x=(aQ 34,false):=by rw[q7,if_neg ir]
    simp[C,<-i,j,l,B,s,o]
   have uC:(x==y)=false:=aM U
   obtain⟨uD,yk⟩:0<=x/\x<L.length:=by simpa[dL] using hx
   obtain⟨E0,Ax⟩:0<=y/\y<L.length:=by simpa[dL] using hy
   obtain⟨J,rfl⟩:=aaT uD;obtain⟨K,rfl⟩:=aaT E0;obtain⟨a,M⟩:∃ a,L[J]?=some a:=⟨_,jX an⟩;obtain⟨c,N⟩:∃ c,L[K]?=some c:=⟨_,jX an⟩;have v:=hi.cQ _ _ M;have w:=hi.cQ _ _ N;have C:q7 L J K=BD a c:=zDf M N (fun e=>U (by rw[e]));have O:=zuI a c;rw[C];have pq:(av .u32 (aQ 35)).drop 35=[]:=rfl;have ta:=eG (k:=.u32) v.1.1;have tc:=eG (k:=.u32) w.1.1
   have P:∀ r:ae,(∀ n,r.map (aaN (aw.cl n))=r)->Bk (H++some (.cells Z)::some (.cells Z)::r) b z m L:=fun r V=>h.app fun n=>by simp[aw.cl,o,V n]
   have S:∀ r:ae,(∀ n,r.map (aaN (aw.cl n))=r)->ai (H.length+(r.length+1+1)) (H++some (.cells Z)::some (.cells Z)::r)=H++some (.cells Z)::some (.cells Z)::r:=fun r V=>by
    have:=(P r V).shut.self;simpa using this
   simp[uC,-aaI];refine cC (JV J a (P [none] fun n=>by simp) M) ?_
   have s1:=S [some (.cells (av .u32 a.f))] fun n=>by simp[aw.cl]
   simp at s1;simp[v.1.1,pq];refine cC (JV K c (P [some (.cells (av .u32 a.f)),none] fun n=>by simp[aw.cl]) N) ?_
   have s2:=S [some (.cells (av .u32 a.f)),some (.cells (av .u32 c.f))] fun n=>by simp[aw.cl]
   simp at s2;simp[w.1.1,pq];obtain⟨A,W⟩:∃ A,A=BD a c:=⟨_,rfl⟩;rw[<-W] at O |-;have X:=eG (k:=.u32) O.1
   by_cases F:a.kind=0/\c.kind=0
   ·have d:A=vY a.f c.f:=by rw[W,BD,if_pos F]
    have hf:=zwZ (G:=G) a.f c.f v.1.1 w.1.1;rw[<-d] at hf;simp[F.1,F.2,v.1.1,ta,w.1.1,tc];refine ax hf ?_;simp[O.1,X,j,l,s]
   ·have he:(decide (a.kind=0)&&decide (c.kind=0))=false:=by
     rw[Bool.and_eq_false_iff]
     by_cases I:a.kind=0
     ·right;simpa using fun t=>F ⟨I,t⟩
     ·left;simpa using I
    have b1:=P [some (.cells (av .u32 a.f)),some (.cells (av .u32 c.f)),none] fun n=>by simp[aw.cl]
    have b2:=P [some (.cells (av .u32 a.f)),some (.cells (av .u32 c.f)),some (.cells (kA (gD a))),none] fun n=>by simp[aw.cl,HO]
    have s3:=S [some (.cells (av .u32 a.f)),some (.cells (av .u32 c.f)),some (.cells (kA (gD a)))] fun n=>by simp[aw.cl,HO]
    have s4:=S [some (.cells (av .u32 a.f)),some (.cells (av .u32 c.f)),some (.cells (kA (gD a))),some (.cells (kA (gD c)))] fun n=>by simp[aw.cl,HO]
    simp at s3 s4
    have g:∀(p q:Option (List Int×List Nat)),gD a=p->gD c=q->(p.isSome=true->q.isSome=true->∃ Y q',p=some Y/\q=some q'/\A=vZ Y.1 q'.1 Y.2 q'.2)/\((p.isSome&&q.isSome)=false->A=(aQ 34,false)):=fun p q ep eq=>by
     have d:=W;rw[BD,if_neg F,ep,eq] at d
     cases p<;>cases q<;>simp at d |-<;>exact d
    by_cases I:a.kind=0
    ·have t:¬c.kind=0:=fun t=>F ⟨I,t⟩;simp[I];simp[t];refine cC (E1 J a b1 M v.2.1) ?_;simp[HP,HQ];refine cC (E1 K c b2 N w.2.1) ?_;simp[HP,HQ]
     cases u:gD a with
     | none =>
      have d:=(g _ _ u rfl).2 rfl
      simp[d,<-i,j,l,B,s,o]
     | some p =>
      cases D:gD c with
      | none =>
       have d:=(g _ _ u D).2 rfl
       simp[d,<-i,j,l,B,s,o]
      | some q =>
       obtain⟨_,_,e1,e2,d⟩:=(g _ _ u D).1 rfl rfl;cases e1;cases e2;obtain⟨Q,v5⟩:=E2 v.2.1 u;obtain⟨R,E3⟩:=E2 w.2.1 D;have l1:=Q.1;have l2:=R.1;have l3:=Ay l1 Q.2.1;have l4:=Ay l2 R.2.1;have E:=ztg T p.1 q.1 p.2 q.2 an an an an v5 E3;rw[<-d] at E;simp only[FV] at E;simp[kA];refine ax E ?_;simp[O.1,X,j,l,s]
    ·simp[I];refine cC (E1 J a b1 M v.2.1) ?_;simp[HP,HQ];refine cC (E1 K c b2 N w.2.1) ?_;simp[HP,HQ]
     cases u:gD a with
     | none =>
      have d:=(g _ _ u rfl).2 rfl
      simp[d,<-i,j,l,B,s,o]
     | some p =>
      cases D:gD c with
      | none =>
       have d:=(g _ _ u D).2 rfl
       simp[d,<-i,j,l,B,s,o]
      | some q =>
       obtain⟨_,_,e1,e2,d⟩:=(g _ _ u D).1 rfl rfl;cases e1;cases e2;obtain⟨Q,v5⟩:=E2 v.2.1 u;obtain⟨R,E3⟩:=E2 w.2.1 D;have l1:=Q.1;have l2:=R.1;have l3:=Ay l1 Q.2.1;have l4:=Ay l2 R.2.1;have E:=ztg T p.1 q.1 p.2 q.2 an an an an v5 E3;rw[<-d] at E;simp only[FV] at E;simp[kA];refine ax E ?_;simp[O.1,X,j,l,s]
variable {L L' Sa:List Nd}
def Nd.pl(a:Nd):Prop:=(a.kind=0->a=eZ a.f)/\(a.kind=1->∃ b c,a=tw b c/\Right b c/\b≠[]/\∀ i,b=[i]->c≠[0,ones]/\c≠[ones,0])
def yU(x:af)(j i:Nat):Bool:=if x.op=5 then decide (j+1+x.k=i) else br x.op&&(decide (j+1+x.jt.toNat=i)||decide (j+1+x.jf.toNat=i))
def pv(f:List af)(m i:Nat):Bool:=(aaw m).any fun j=>yU (f.getD j s_) j i
def gO(f:List af)(m:Nat):List Bool:=(aaw f.length).map (pv f m)
def Oe(f:List af)(m:Nat):(gO f m).length=f.length:=by simp[gO]
def Sb(f:List af)(m i:Nat):pv f (m+1) i=(pv f m i||yU (f.getD m s_) m i):=by simp[pv,aaK,List.any_append]
def HR(f:List af)(m i:Nat)(h:i<f.length):(gO f m)[i]?=some (pv f m i):=by simp[gO,h]
def Sc(f:List af)(m:Nat)(l:List Bool)(a:l.length=f.length)(h:∀ i,i<f.length->l[i]?=some (pv f (m+1) i)):l=gO f (m+1):=by
 refine aa9 fun i=>?_
 by_cases hi:i<f.length
 ·rw[h i hi,HR _ _ _ hi]
 ·rw[aaY an,aaY (by rw[Oe];omega)]
def Se:∀ l:List Bool,nS 1 l.length (cb l)=l8 l
 | []=>rfl
 | x::l=>by
  have:=Se l;simp only[cb] at this;simp[nS,cb,l8,this]
def zo7[aB G][eg G](f:List af)(l:dJ f=true)(D:∀ x∈f,x.k<4294967296):FP G 204 [FL f] (.vs (l8 (gO f f.length)) .no):=by
 refine bF eg.acK (aae rfl) ?_
 have O:f.length<=4096:=by simp only[dJ,aaf,decide_eq_true_eq] at l;exact l.1.1
 simp(disch:=omega)[FL,az];refine aP f.length (fun m=>[(3,.rs 0 0 f.length 1),(9,FL f),(10,.int .i64 f.length),(11,.int .i64 m)]) (fun m=>[some (.cells (cb (gO f m)))]) (fun _=>True) ?_ ?_
 ·have:gO f 0=aaA f.length false:=by
   refine aa9 fun i=>?_
   by_cases hi:i<f.length
   ·rw[HR _ _ _ hi,List.getElem?_replicate_of_lt hi];rfl
   ·rw[aaY (by rw[Oe];omega),aaY (by simp;omega)]
  simp[aq,ai,FL,this]
 intro m P _;have a:=Oe f m
 by_cases d:m<f.length
 ·obtain⟨x,g⟩:∃ x,x=f[m]:=⟨_,rfl⟩;have z:=qT d;rw[<-g] at z;have g:=g.symm
  have s:f[m]?=some x:=by rw[aac d,g]
  have t:f.getD m s_=x:=by rw[aaq,s];rfl
  have E:=D x (g▸aak d);have n:=yg (G:=G) x;have A:x.cs=[.int .i64 x.op,.int .i64 x.jt,.int .i64 x.jf,.int .u32 (x.k:Int)]:=rfl;simp[IV,A] at n;have F:=N5 l s;have u:=fun o=>HJ (o:=o) l s;have B:aD .i64 (m:Int) 1=((m+1:Nat):Int):=bE an;have H:=EM x.k E;simp(disch:=omega)[FL,bC,z,A]
  by_cases b:x.op=5
  ·have v:(x.op==5)=true:=by simp[b]
   have I:br x.op=false:=by rw[b];decide
   have Q:=u x.k (by simp[aZ,b,show iy 5=false by decide]);have w:aD .i64 ((m+1:Nat):Int) (x.k:Int)=((m+1+x.k:Nat):Int):=qH an;have c:=N4 (gO f m) (m+1+x.k) true an
   have j:(gO f m).set (m+1+x.k) true=gO f (m+1):=by
    refine Sc f m _ (by simp[a]) fun i hi=>?_;rw[aaX,HR _ _ _ hi,Sb,t]
    by_cases q:m+1+x.k=i
    ·subst q;simp[yU,b,a,hi]
    ·simp[yU,b,q]
   rw[I] at n;rw[j] at c;simp(disch:=omega)[v,B,w,H,a,fF,az,c,-aaa];refine ax n ?_;simp(disch:=omega)[d,bE,aq,ai,-aaa]
  ·have v:(x.op==5)=false:=aM b;simp(disch:=omega)[v,-aaa];refine ax n ?_;cases e:br x.op
   ·have j:gO f m=gO f (m+1):=by refine Sc f m _ a fun i hi=>?_;rw[HR _ _ _ hi,Sb,t];simp[yU,b,e]
    rw[j];simp(disch:=omega)[d,bE,aq,ai,-aaa]
   ·obtain⟨R,S,T,U⟩:=F e
    have r:iy x.op=false:=by
     have y:∀ p∈[21,37,53,69,29,45,61,(77:Int)],iy p=false:=by decide
     exact y _ (by simpa[br] using e)
    have J:=u x.jt.toNat (by simp[aZ,r,b,e]);have K:=u x.jf.toNat (by simp[aZ,r,b,e])
    have w:aD .i64 ((m+1:Nat):Int) x.jt=((m+1+x.jt.toNat:Nat):Int):=by rw[dW]<;>omega
    have L:aD .i64 ((m+1:Nat):Int) x.jf=((m+1+x.jf.toNat:Nat):Int):=by rw[dW]<;>omega
    have c:=N4 (gO f m) (m+1+x.jt.toNat) true an;have C:=N4 ((gO f m).set (m+1+x.jt.toNat) true) (m+1+x.jf.toNat) true (by rw[aal];omega)
    have j:((gO f m).set (m+1+x.jt.toNat) true).set (m+1+x.jf.toNat) true=gO f (m+1):=by
     refine Sc f m _ (by simp[a]) fun i hi=>?_;rw[aaX,aaX,HR _ _ _ hi,Sb,t]
     by_cases q:m+1+x.jt.toNat=i<;>by_cases M:m+1+x.jf.toNat=i<;>simp[yU,b,e,q,M,a,hi]
    rw[j] at C;simp(maxSteps:=20000) (disch:=omega)[B,w,L,-aaa];simp[J,a,-aaa];simp(disch:=omega)[az,c,-aaa];simp[K,-aaa];simp(disch:=omega)[a,az,C,-aaa];simp(disch:=omega)[d,bE,aq,ai,-aaa]
 ·have r:m=f.length:=an
  subst r
  have N:nS 1 f.length (cb (gO f f.length))=l8 (gO f f.length):=by have h:=Se (gO f f.length);rw[a] at h;exact h
  simp(disch:=omega)[a,N]
end Go.Ev
namespace Go.Ev
open Go Go.RowKit
variable {G:aN}
variable {L L':List Nd} {l:List Md}
inductive JW (s:MS) (a:Md):Md->Int×List Nd->Prop
 | none {b p}:b.kind=4->JW s a b p
 | con {b}:b.kind=0->b.c=a.c->JW s a b (bt s.L (eZ (a.c::aQ 34)))
 | var {b}:b.kind=1->0<=b.i->b.i<34->JW s a b (kU s.L b.i)
 | alu {b}:b.kind=2->(fL b.op 0 1).2=true->Sh s.made b.x=true->Sh s.made b.y=true->JW s a b (ig s.L b.op (Si s.ids b.x) (Si s.ids b.y))
 | neg {b}:b.kind=3->Sh s.made b.x=true->JW s a b (ou s.L (Si s.ids b.x))
def v7(i:Nat):List Nat:=[0,4294967295,1,2147483648,3+7*i,16843009*(i+1),2,65535,1431655765,2863311530*2^(i%3)%4294967296,i%2,i*2654435769%4294967296]
def kC(k:Nat):List Nat:=(aaw 34).map fun i=>(v7 i).getD k 0
def E5(k:Nat):(kC k).length=34:=by simp[kC]
def zw2{i:Nat}(hi:i<34):∀ x∈v7 i,x<4294967296:=by
 intro x a;simp only[v7,aba,aaZ,or_false] at a
 rcases a with rfl|rfl|rfl|rfl|rfl|rfl|rfl|rfl|rfl|rfl|rfl|rfl<;>omega
def zBG(k:Nat):∀ x∈kC k,x<4294967296:=by
 intro x a;simp only[kC,aa7,aat] at a;obtain⟨i,hi,rfl⟩:=a;rw[aaq]
 cases b:(v7 i)[k]? with
 | none=>decide
 | some y=>exact zw2 hi y (aas b)
def uE(k i:Nat):List Nat:=(kC k).take i++aQ (34-i)
def Sj{k i:Nat}(hi:i<=34):(uE k i).length=34:=by simp[uE,E5];omega
def zzj(k:Nat):uE k 34=kC k:=by rw[uE,aag (by rw[E5];exact aby _)];simp[aQ]
def zw3{k i:Nat}(hi:i<34):(uE k i).set i ((v7 i).getD k 0)=uE k (i+1):=by
 have a:(kC k)[i]'(by rw[E5];omega)=(v7 i).getD k 0:=by simp[kC]
 rw[uE,uE,aaO _ _ (by rw[aay];omega),aay,abx (by rw[E5];omega),abL,abd (by rw[E5];omega),a,aaJ]
 congr 1
 rw[show 34-i=(34-(i+1))+1 by omega];rfl
def zDg{a b:Nat}:eI .u32 (a:Int) (b:Int)=((a*b%4294967296:Nat):Int):=by unfold eI;rw[<-aaB];simp only[IntKind.wrap,IntKind.bits,IntKind.signed];simp
section
variable {α:Type} {f:Nat->Option α} {hit:α->Bool} {n i:Nat}
def Sl(h:∀ j<n,∀ r,f j=some r->hit r=false):((aaw n).filterMap f).find? hit=none:=by rw[abj];intro r a;obtain⟨j,b,c⟩:=aaU.1 a;rw[h j (aat.1 b) r c];decide
def zsB(hi:i<n)(h:∀ j<i,∀ r,f j=some r->hit r=false){r:α}(a:f i=some r)(b:hit r=true):((aaw n).filterMap f).find? hit=some r:=by obtain⟨m,rfl⟩:∃ m,n=i+(m+1):=⟨n-i-1,an⟩;rw[List.range_add,List.filterMap_append,aa_,Sl h,Option.none_or];rw[List.range_succ_eq_map,abm,List.filterMap_cons];simp only[abN,a,List.find?_cons,b]
end
noncomputable def BE(L:List Nd)(p q:List Int)(live i:Nat):Option (List Nat):=if Aw live i=true/\(q7 L (p.getD i 0) (q.getD i 0)).2=true then some (q7 L (p.getD i 0) (q.getD i 0)).1 else none
noncomputable def qI(L:List Nd)(p q:List Int)(live:Nat):List (List Nat):=(aaw 18).filterMap (BE L p q live)++(aaw 12).filterMap fun k=>some (kC k)
def Og{L:List Nd}{p q:List Int}{live:Nat}{r:List Nat}(h:r∈qI L p q live):r.length=34/\∀ x∈r,x<4294967296:=by
 rw[qI,aau] at h
 rcases h with h|h
 ·obtain⟨j,b,a⟩:=aaU.1 h;unfold BE at a;split at a
  ·cases a;exact zuJ _ _ _
  ·cases a
 ·obtain⟨j,b,a⟩:=aaU.1 h;cases a;exact⟨E5 _,zBG _⟩
section
variable {H:ae} {b z m:Nat} {L:List Nd}
def JX{A X:ae}{n:Nat}(h:ai n A=A)(a:A.length=n):ai n (A++X)=A:=by unfold ai at h |-;rw[abv a];rwa[aag (Nat.le_of_eq a)] at h
def zw4[bI G][au G][S:dM G][aI G][bV G][cJ G][eC G](h:Bk H b z m L)(hi:Inv L){id i1 i2 i3 i4 live:Nat}{p q s t:List Int}(g7:live<4294967296)
  (T:H[i1]?=some (some (.cells [.int .u32 live]))) (U:H[i2]?=some (some (.cells [.ptr b 0]))) (W:H[i3]?=some (some (.cells (vcs p s .no)))) (Y:H[i4]?=some (some (.cells (vcs q t .no))))
  (hp:p.length=18) (hq:q.length=18) (o:id<H.length) {hit:List Nat->Bool} {H':List Nat->ae}
  (uZ:∀ r∈qI L p q live,hit r=false->∀ X:ae,(∀ n,X.map (aaN (aw.cl n))=X)->YS G id [.agg (av .u32 r)] (H++X) true (H++X))
  (iz:∀ r∈qI L p q live,hit r=true->∀ X:ae,(∀ n,X.map (aaN (aw.cl n))=X)->YS G id [.agg (av .u32 r)] (H++X) false (H' r++X))
  (l9:∀ r∈qI L p q live,hit r=true->ai H.length (H' r)=H' r/\(H' r).length=H.length) :
  SF G 310 [.yld id,.ptr i1 0,.ptr i2 0,.ptr i3 0,.ptr i4 0] H (.bc []) (match(qI L p q live).find? hit with|some r=>H' r|none=>H):=by
 refine jx eC.acL (aae rfl) ?_;have w:i1<H.length:=(aab.1 T).1;have A:i2<H.length:=(aab.1 U).1;have B:i3<H.length:=(aab.1 W).1;have C:i4<H.length:=(aab.1 Y).1;have D:=h.shut.self;have Z:=h.shut.back;have iI:=h.lb;have g1:=(aab.1 T).2;have g2:=(aab.1 U).2;have g3:=(aab.1 W).2;have g4:=(aab.1 Y).2
 have e1:∀ X:ae,(H++X)[i1]?=some (some (.cells [.int .u32 live])):=fun X=>by rw[aai w];exact T
 have e2:∀ X:ae,(H++X)[i2]?=some (some (.cells [.ptr b 0])):=fun X=>by rw[aai A];exact U
 have e3:∀ X:ae,(H++X)[i3]?=some (some (.cells (vcs p s .no))):=fun X=>by rw[aai B];exact W
 have e4:∀ X:ae,(H++X)[i4]?=some (some (.cells (vcs q t .no))):=fun X=>by rw[aai C];exact Y
 have E6:∀(X:ae) h,(H++X)[i1]'h=some (.cells [.int .u32 live]):=fun X h=>(aab.1 (e1 X)).2;have Az:∀(X:ae) h,(H++X)[i2]'h=some (.cells [.ptr b 0]):=fun X h=>(aab.1 (e2 X)).2;have hm:∀(X:ae) h,(H++X)[i3]'h=some (.cells (vcs p s .no)):=fun X h=>(aab.1 (e3 X)).2;have hn:∀(X:ae) h,(H++X)[i4]'h=some (.cells (vcs q t .no)):=fun X h=>(aab.1 (e4 X)).2;have k0:∀(r:ae) x,(H++r).set H.length x=H++r.set 0 x:=fun r x=>qW rfl x
 have kk:∀ r:ae,(H++r)[H.length]?=r[0]?:=fun r=>lW rfl;have lp:=CY (st:=s) (tk:=.no) hp;have lq:=CY (st:=t) (tk:=.no) hq
 have Sm:Bk (H++[none]) b z m L:=h.app fun n=>by simp
 have oD:H.map (aaN (aw.cl H.length))=H:=by have:=D;unfold ai at this;rwa[aag (aby _)] at this
 simp;refine aP 18 (fun i=>[(0,.yld id),(1,.ptr i1 0),(2,.ptr i2 0),(3,.ptr i3 0),(4,.ptr i4 0),(12,.int .i64 i)]) (fun _=>H) (fun i=>∀ j<i,∀ r,BE L p q live j=some r->hit r=false) ?_ ?_
 ·simp[aq,D,o,w,A,B,C]
 intro i qY O
 by_cases e:i<18
 ·have iT:=R7 (G:=G) live i g7 an;simp(disch:=omega)[bC,g1];refine ax iT ?_
  cases hb:Aw live i with
  | false =>
   have ha:∀ j<i+1,∀ r,BE L p q live j=some r->hit r=false:=fun j E r c=>by
    rcases aaF.1 E with h|rfl
    ·exact O j h r c
    ·simp[BE,hb] at c
   simp(disch:=omega)[e,bE,aq,D,o,w,A,B,C,-aaa]
   exact ha
  | true =>
   obtain⟨x,hx⟩:∃ x,x=p.getD i 0:=⟨_,rfl⟩;obtain⟨y,hy⟩:∃ y,y=q.getD i 0:=⟨_,rfl⟩
   have gx:x=p[i]'(by omega):=by rw[hx];simp[aaq,aac (show i<p.length by omega)]
   have gy:y=q[i]'(by omega):=by rw[hy];simp[aaq,aac (show i<q.length by omega)]
   have vx:=EE (p:=p) (st:=s) (tk:=.no) hp e;have vy:=EE (p:=q) (st:=t) (tk:=.no) hq e;rw[<-gx] at vx;rw[<-gy] at vy;have eS:=zBF (G:=G) x y Sm hi;have F:=zuJ L x y
   have I:BE L p q live i=if(q7 L x y).2=true then some (q7 L x y).1 else none:=by rw[hx,hy];simp[BE,hb]
   obtain⟨r,c⟩:∃ r,r=(q7 L x y).1:=⟨_,rfl⟩;obtain⟨P,jJ⟩:∃ P,P=(q7 L x y).2:=⟨_,rfl⟩;rw[<-c,<-jJ] at eS I;rw[<-c] at F;have rt:=eG (k:=.u32) F.1;have rd:(av .u32 r).drop 34=[]:=aah (by simp[F.1]);simp(disch:=omega)[bC,az,leFn,e2,e3,e4,lp,lq,vx,vy];refine zx5 eS ⟨?_,?_,rfl⟩ ?_
   ·intro v hv;simp only[aba,aaZ,or_false] at hv
    rcases hv with rfl|rfl|rfl<;>simp[V.cl,iI]
   ·simp only[List.map_append,oD,abm,ab0,Option.map_none]
   simp(disch:=omega)[k0,kk,F.1]
   have wZ:P=true->r∈qI L p q live:=fun h=>by
    rw[qI,aau];exact .inl (aaU.2 ⟨i,aat.2 e,by rw[I,if_pos h]⟩)
   have J0:(∀ Q,BE L p q live i=some Q->hit Q=false)->∀ j<i+1,∀ r,BE L p q live j=some r->hit r=false:=fun h0 j E r c=>by
    rcases aaF.1 E with h|rfl
    ·exact O j h r c
    ·exact h0 r c
   cases P with
   | false =>
    have:=J0 fun Q h=>by rw[I] at h;cases h
    simp(disch:=omega)[e,bE,aq,Z,o,w,A,B,C,-aaa]
    exact this
   | true =>
    have J:∀ n,([some (aw.cells (av .u32 r))]:ae).map (aaN (aw.cl n))=[some (aw.cells (av .u32 r))]:=fun n=>by simp[aw.cl]
    simp(disch:=omega)[kk,F.1,rt]
    cases d:hit r with
    | false =>
     refine AA (uZ r (wZ rfl) d _ J) ?_
     have:=J0 fun Q h=>by rw[I,if_pos rfl] at h;cases h;exact d
     simp(disch:=omega)[e,bE,aq,Z,o,w,A,B,C,-aaa]
     exact this
    | true =>
     refine AA (iz r (wZ rfl) d _ J) ?_;obtain⟨ku,gZ⟩:=l9 r (wZ rfl) d;have hf:=zsB e O (by rw[I,if_pos rfl]) d
     have K:(qI L p q live).find? hit=some r:=by rw[qI,aa_,hf];rfl
     simp[K,JX ku gZ]
 ·have M:i=18:=an
  subst M;have S:=Sl O;simp;refine aP 12 (fun k=>[(0,.yld id),(40,.int .u32 k)]) (fun _=>H) (fun k=>∀ j<k,∀ r,(some (kC j):Option (List Nat))=some r->hit r=false) ?_ ?_
  ·simp[aq,D,o]
  intro k hk sI
  by_cases u:k<12
  ·have ho:[V.int .u32 0,.int .u32 0]=[V.int .u32 0,.int .u32 0]:=rfl
   have hs:∀ i,ai (H.length+1) (H++[some (.cells (av .u32 (uE k i)))])=H++[some (.cells (av .u32 (uE k i)))]:=fun i=>by
    have:=(h.app (r:=[some (.cells (av .u32 (uE k i)))]) fun n=>by simp[aw.cl]).shut.self;simpa using this
   simp(disch:=omega)[bC,kk,k0];refine aP 34 (fun i=>[(0,.yld id),(9,.int .u32 k),(10,.ptr H.length 0),(40,.int .u32 k),(43,.int .i64 i)]) (fun i=>H++[some (.cells (av .u32 (uE k i)))]) (fun _=>True) ?_ ?_
   ·have:=hs 0;rw[show uE k 0=aQ 34 by simp[uE]] at this;simp[aq,this,uE,show id<H.length+1 by omega]
   intro i hi _
   by_cases R:i<34
   ·have r3:oE (i:Int) 3=((i%3:Nat):Int):=E7 (b:=3);have r2:oE (i:Int) 2=((i%2:Nat):Int):=E7 (b:=2);have he:(((i%3:Nat):Int)<0)=False:=eq_false an;have s3:iH .u32 2863311530 ((i%3:Nat):Int)=((2863311530*2^(i%3)%4294967296:Nat):Int):=J2 (a:=2863311530) an;have c1:fB .u32 (i:Int)=(i:Int):=uB an;have c2:fB .u32 ((i+1:Nat):Int)=((i+1:Nat):Int):=uB an;have c3:fB .u32 ((i%2:Nat):Int)=((i%2:Nat):Int):=uB an
    have m1:eI .u32 7 (i:Int)=((7*i:Nat):Int):=zx0 (a:=7) an
    have a1:aD .u32 3 ((7*i:Nat):Int)=((3+7*i:Nat):Int):=by unfold aD;rw[show(3:Int)+((7*i:Nat):Int)=((3+7*i:Nat):Int) by omega];exact uB an
    have m2:eI .u32 16843009 ((i+1:Nat):Int)=((16843009*(i+1):Nat):Int):=zx0 (a:=16843009) an;have m3:eI .u32 (i:Int) 2654435769=((i*2654435769%4294967296:Nat):Int):=zDg (b:=2654435769)
    have hc:∀ f:Nat,f=2863311530*2^(i%3)%4294967296->∀ g:Nat,g=i*2654435769%4294967296->[V.int .u32 0,.int .u32 4294967295,.int .u32 1,.int .u32 2147483648,.int .u32 ((3+7*i:Nat):Int),.int .u32 ((16843009*(i+1):Nat):Int),.int .u32 2,.int .u32 65535,.int .u32 1431655765,.int .u32 (f:Int),.int .u32 ((i%2:Nat):Int),.int .u32 (g:Int)]=av .u32 (v7 i):=by rintro f rfl g rfl;rfl
    obtain⟨f,N⟩:∃ f,f=2863311530*2^(i%3)%4294967296:=⟨_,rfl⟩;obtain⟨g,J3⟩:∃ g,g=i*2654435769%4294967296:=⟨_,rfl⟩;have hc:=hc f N g J3;rw[<-N] at s3;rw[<-J3] at m3;have So:av .u32 (aQ 12)=[V.int .u32 0,.int .u32 0,.int .u32 0,.int .u32 0,.int .u32 0,.int .u32 0,.int .u32 0,.int .u32 0,.int .u32 0,.int .u32 0,.int .u32 0,.int .u32 0]:=rfl;have lc:(v7 i).length=12:=rfl;have cg:=q6 .u32 (v7 i) k (by rw[lc];exact u)
    have hg:(v7 i)[k]'(by rw[lc];exact u)=(v7 i).getD k 0:=by simp[aaq,aac (show k<(v7 i).length from u)]
    rw[hg] at cg;have l:=vU .u32 (uE k i) i ((v7 i).getD k 0) (by rw[Sj hi];exact R);rw[zw3 R] at l;obtain⟨cv,E9⟩:∃ cv,cv=(v7 i).getD k 0:=⟨_,rfl⟩;rw[<-E9] at cg l;simp(disch:=omega)[bC,r3,r2,he,s3,c1,bE,c2,c3,m1,a1,m2,m3,So,-aaa,-aaB,-abT];have lr:=Sj hi (k:=k);have ht:=Sj (show i+1<=34 from R) (k:=k);rw[hc,cg];simp(disch:=omega)[bC,az,R,show k<=11 by omega,kk,k0,lr,l,hs,aq,bE,show id<H.length+1 by omega,-aaa]
   ·have M:i=34:=an
    subst M
    have J:∀ n,([some (aw.cells (av .u32 (kC k)))]:ae).map (aaN (aw.cl n))=[some (aw.cells (av .u32 (kC k)))]:=fun n=>by simp[aw.cl]
    have jq:kC k∈qI L p q live:=by rw[qI,aau];exact .inr (aaU.2 ⟨k,aat.2 u,rfl⟩)
    have rl:=E5 k;have rt:=eG (k:=.u32) rl
    have ck:aD .u32 (k:Int) 1=((k+1:Nat):Int):=by unfold aD;rw[show(k:Int)+1=((k+1:Nat):Int) by omega];exact uB an
    simp[zzj,rl,rt]
    cases d:hit (kC k) with
    | false =>
     refine AA (uZ _ jq d _ J) ?_
     have hl:∀ j<k+1,∀ r,(some (kC j):Option (List Nat))=some r->hit r=false:=fun j E r c=>by
      rcases aaF.1 E with h|rfl
      ·exact sI j h r c
      ·cases c;exact d
     simp(disch:=omega)[u,ck,aq,Z,o,-aaa]
     simpa using hl
    | true =>
     refine AA (iz _ jq d _ J) ?_;obtain⟨ku,gZ⟩:=l9 _ jq d;have hB:=zsB u sI rfl d
     have K:(qI L p q live).find? hit=some (kC k):=by rw[qI,aa_,S,hB];rfl
     simp[K,JX ku gZ]
  ·have M:k=12:=an
   subst M;have hB:=Sl sI
   have K:(qI L p q live).find? hit=none:=by rw[qI,aa_,S,hB];rfl
   simp[K,D]
end
open Go Go.RowKit
variable {G:aN}
def AB(p q:List Int)(live i:Nat):Bool:=Aw live i&&(p.getD i 0 !=q.getD i 0)
def w8(p q s t:List Int)(live:Nat):Bool:=!((aaw 18).any (AB p q live))&&decide (s=t)
def zw5{p q s t:List Int}{live:Nat}:w8 p q s t live=true↔(∀ i<18,AB p q live i=false)/\s=t:=by simp[w8]
def zw6{p q s t:List Int}{live i:Nat}(hi:i<18)(h:AB p q live i=true):w8 p q s t live=false:=by have:(aaw 18).any (AB p q live)=true:=aa1.2 ⟨i,aat.2 hi,h⟩;simp only[w8,this,Bool.not_true,abh]
def zq1{p q s t:List Int}{live:Nat}(h:s≠t):w8 p q s t live=false:=by simp[w8,h]
def zBH[cJ G][eC G](p q s t:List Int)(live:Nat)(K:live<4294967296)(u:p.length=18)(v:q.length=18)(X:s.length<=1000000) :
  FP G 309 [.agg (vcs p s .no),.agg (vcs q t .no),.int .u32 live] (.bool (w8 p q s t live)):=by
 refine bF eC.acM (aae rfl) ?_;have m:=CY (st:=s) (tk:=.no) u;have f:=CY (st:=t) (tk:=.no) v
 have g:∀ n,aX n (vcs p s .no)=vcs p s .no:=fun n=>by rw[ie,vcs];simp[kT,aaj,V.cl,Tk.cl]
 have k:∀ n,aX n (vcs q t .no)=vcs q t .no:=fun n=>by rw[ie,vcs];simp[kT,aaj,V.cl,Tk.cl]
 have L:(vcs p s .no).map V.j9=vcs p s .no:=by simp[vcs,kT,aaj,V.j9]
 have M:(vcs q t .no).map V.j9=vcs q t .no:=by simp[vcs,kT,aaj,V.j9]
 have sp:=RB (st:=s) (tk:=.no) u;have r:=RB (st:=t) (tk:=.no) v;obtain⟨P,E⟩:∃ P,P=vcs p s .no:=⟨_,rfl⟩;obtain⟨Q,F⟩:∃ Q,Q=vcs q t .no:=⟨_,rfl⟩;simp only[<-E,<-F] at m f g k L M sp r |-;simp;refine aP 18 (fun i=>[(2,.int .u32 live),(3,.ptr 0 0),(4,.ptr 1 0),(10,.int .i64 i)]) (fun _=>[some (.cells P),some (.cells Q)]) (fun i=>∀ j<i,AB p q live j=false) ?_ ?_
 ·simp[aq,ai,g,k]
 intro i hi H
 by_cases b:i<18
 ·have N:=R7 (G:=G) live i K an;obtain⟨x,c⟩:∃ x,x=p.getD i 0:=⟨_,rfl⟩;obtain⟨y,d⟩:∃ y,y=q.getD i 0:=⟨_,rfl⟩
  have O:x=p[i]'(by omega):=by rw[c];simp[aaq,aac (show i<p.length by omega)]
  have R:y=q[i]'(by omega):=by rw[d];simp[aaq,aac (show i<q.length by omega)]
  have w:=EE (p:=p) (st:=s) (tk:=.no) u b;have z:=EE (p:=q) (st:=t) (tk:=.no) v b;rw[<-O,<-E] at w;rw[<-R,<-F] at z
  have o:AB p q live i=(Aw live i&&(x !=y)):=by rw[c,d];rfl
  have I:AB p q live i=false->∀ j<i+1,AB p q live j=false:=fun S j T=>by
   rcases aaF.1 T with h|rfl
   ·exact H j h
   ·exact S
  simp(disch:=omega)[bC];refine ax N ?_
  cases J:Aw live i with
  | false =>
   rw[J,abh] at o;simp(disch:=omega)[b,bE,aq,ai,g,k,-aaa]
   exact I o
  | true =>
   rw[J,aaG] at o
   by_cases a:x=y
   ·have A:AB p q live i=false:=by rw[o,a];simp
    simp(disch:=omega)[bC,az,m,f,w,z,a,b,bE,aq,ai,g,k,-aaa];exact I A
   ·have A:AB p q live i=true:=by rw[o];simp[a]
    simp(disch:=omega)[bC,az,m,f,w,z,jM a,zw6 b A]
 ·have e:i=18:=an
  subst e;simp[m,f,sp,r]
  by_cases l:s.length=t.length
  ·simp[l,m,sp];refine aP s.length (fun i=>[(4,.ptr 1 0),(36,.vs (ints .i64 s) .no),(37,.int .i64 s.length),(38,.int .i64 i)]) (fun _=>[some (.cells P),some (.cells Q)]) (fun i=>s.take i=t.take i) ?_ ?_
   ·simp[aq,ai,g,k,l]
   intro i hi B
   by_cases b:i<s.length
   ·have C:(ints .i64 s)[i]?=some [.int .i64 s[i]]:=by simp[b]
    have D:(ints .i64 t)[i]?=some [.int .i64 (t[i]' an)]:=by simp[show i<t.length by omega]
    obtain⟨x,c⟩:∃ x,x=s[i]:=⟨_,rfl⟩;obtain⟨y,d⟩:∃ y,y=t[i]'(by omega):=⟨_,rfl⟩;rw[<-c] at C;rw[<-d] at D;have c:=c.symm;have d:=d.symm
    by_cases a:x=y
    ·have U:s.take (i+1)=t.take (i+1):=by rw[aan,aan,B,aac b,aac (show i<t.length by omega),c,d,a]
     simp(disch:=omega)[bC,l,f,r,C,D,a,bE,aq,ai,g,k,U,show i<t.length by omega,-aaa]
    ·have e:s≠t:=by rintro rfl;exact a (c.symm.trans d)
     simp(disch:=omega)[bC,l,f,r,C,D,jM a,zq1 e]
   ·have e:i=s.length:=an
    subst e;rw[aav,l,aav] at B;simp[zw5.2 ⟨H,B⟩]
  ·have e:s≠t:=fun h=>l (by rw[h]);have W:((s.length:Int) !=(t.length:Int))=true:=jM an;simp[W,zq1 e]
mutual
def V.tC{n m:Nat}(h:n<=m):∀ v:V,(v.cl m).cl n=v.cl n
 | .ptr id b=>by
  by_cases a:id<m
  ·simp only[V.cl,if_pos a]
  ·simp only[V.cl,if_neg a,if_neg (show¬id<n by omega)]
 | .rs id b k e=>by
  by_cases a:id<m
  ·simp only[V.cl,if_pos a]
  ·simp only[V.cl,if_neg a,if_neg (show¬id<n by omega)]
 | .mp id=>by
  by_cases a:id<m
  ·simp only[V.cl,if_pos a]
  ·simp only[V.cl,if_neg a,if_neg (show¬id<n by omega)]
 | .yld id=>by
  by_cases a:id<m
  ·simp only[V.cl,if_pos a]
  ·simp only[V.cl,if_neg a,if_neg (show¬id<n by omega)]
 | .gs id k=>by
  by_cases a:id<m
  ·simp only[V.cl,if_pos a]
  ·simp only[V.cl,if_neg a,if_neg (show¬id<n by omega)]
 | .vs g tk=>by
  simp only[V.cl]
  cases tk with
  | own q =>
   by_cases a:q<m
   ·simp only[Tk.cl,if_pos a]
   ·simp only[Tk.cl,if_neg a,if_neg (show¬q<n by omega)]
  | no=>rfl
  | full=>rfl
 | .fn f c=>by simp only[V.cl,E_ h c]
 | .agg d=>by simp only[V.cl,E_ h d]
 | .bc d=>by simp only[V.cl,E_ h d]
 | .undef=>rfl
 | .kD=>rfl
 | .any=>rfl
 | .int _ _=>rfl
 | .bool _=>rfl
 | .str _=>rfl
 | .nilp=>rfl
 | .cptr _=>rfl
 | .nilf=>rfl
 | .nilm=>rfl
def E_{n m:Nat}(h:n<=m):∀ cs:List V,aX n (aX m cs)=aX n cs
 | []=>rfl
 | c::cs=>by simp only[aX,V.tC h c,E_ h cs]
end
def aw.tC{n m:Nat}(h:n<=m)(b:aw):(b.cl m).cl n=b.cl n:=by
 cases b with
 | cells a=>simp only[aw.cl,E_ h]
 | grow a c d=>simp only[aw.cl,E_ h]
 | zone k=>rfl
 | iJ a=>simp only[aw.cl,E_ h]
 | map e=>simp only[aw.cl,abO];congr 1;exact aa3 fun p _=>by simp only[abH,V.tC h]
 | dg s pos=>rfl
 | loop f g as bo st=>simp only[aw.cl,abO];congr 1;exact aa3 fun p _=>by simp only[abH,V.tC h]
def zt9{n m:Nat}(h:n<=m)(H:ae):ai n (ai m H)=ai n H:=by
 unfold ai;rw[<-abG,abO,List.take_take,abx h]
 exact aa3 fun b _=>by cases b with
  | none=>rfl
  | some b=>simp only[abH,aa5,aw.tC h]
def zr4{H1:ae}{n k:Nat}{e0:List (Nat×V)}{ps:List Nat}{as bo:aY}{st:AD}(h:(ai n H1)[k]?=some (some (.loop e0 ps as bo st))):∃ c,H1[k]?=some (some (.loop c ps as bo st)):=by
 unfold ai at h;rw[abn] at h
 by_cases d:k<n
 ·rw[List.getElem?_take_of_lt d] at h
  cases a:H1[k]? with
  | none=>rw[a] at h;cases h
  | some b =>
   rw[a] at h
   cases b with
   | none=>simp at h
   | some b =>
    cases b<;>simp[aw.cl] at h
    obtain⟨_,rfl,rfl,rfl,rfl⟩:=h;exact⟨_,rfl⟩
 ·rw[List.getElem?_take_eq_none an] at h;cases h
def J4{f:Nat}{cap:List V}{l ps:List Nat}{as bo:aY}{r:V}{H H2:ae}{e0:List (Nat×V)}{g:List Nat}{i j:aY}{st:AD}{x:Ex}{K:List Kt}{e:Env}{Q:Ex->Env->ae->Prop}
  (h:SF G f (.yld H.length::cap) (H++[some (.loop (look e l) ps as bo .ready)]) r H2)
  (b:H2[H.length]?=some (some (.loop e0 g i j st))) (a:st=.ready/\x=.nx\/st=.done x/\x≠.nx) (c:Wr G x K e (ai H.length H2) Q):Sp G (.fn f cap) l ps as bo K e H Q:=by
 obtain⟨n,H1,k,_,d⟩:=h;rw[<-d] at b;obtain⟨o,m⟩:=zr4 b;refine zxI k m a ?_;rw[<-d,zt9 ir] at c;exact c
open Go Go.RowKit
variable {G:aN}
def dm(c:Int):Option (List Nat)->List V
 | some r=>.int .i64 c::((tq r).cs++(kM (r.drop 18)).cs)
 | none=>.int .i64 c::(av .u32 (aQ 20)++av .u64 (aQ 7))
def q8:aY:=.region 1 [⟨some 13,.alloc 0 (av .u32 (aQ 34)),none⟩,⟨none,.store 34 (.t 13) (.t 46),none⟩]
def q9:aY:=.block 1 (.seq (.region 2 [⟨some 48,.load 34 true false (.t 13),none⟩,⟨some 49,.pcall 294 [.t 48],none⟩,⟨some 47,.mv (.t 49),none⟩,⟨some 50,.ext 0 (.t 47),none⟩,⟨some 51,.ext 1 (.t 47),none⟩,⟨some 14,.alloc 0 (av .u32 (aQ 18)),none⟩,
 ⟨some 15,.alloc 1 [.int .u32 0,.int .u32 0,.int .u64 0,.int .u64 0,.int .u64 0,.int .u64 0,.int .u64 0,.int .u64 0,.int .u64 0],none⟩,⟨none,.store 18 (.t 14) (.t 50),none⟩,⟨none,.store 9 (.t 15) (.t 51),none⟩])
 (.seq (.keep [3,4,5,6,7,14,15]) (.seq (.region 0 [⟨some 52,.load 1 false false (.t 3),none⟩,⟨some 53,.load 1 false false (.t 4),none⟩,⟨some 54,.load 1 false false (.t 5),none⟩,⟨some 55,.load 18 true false (.t 14),none⟩,⟨some 56,.load 9 true false (.t 15),none⟩,
  ⟨some 57,.pcall 308 [.t 52,.t 53,.t 54,.t 55,.t 56],none⟩]) (.seq (.keep [6,7,14,15,57]) (.cond (.t 57) (.seq (.region 0 [⟨some 58,.load 18 true false (.t 14),none⟩,⟨some 59,.load 9 true false (.t 15),none⟩,
   ⟨some 60,.build (dm 0 none) [(0,1,.c (.int .i64 1)),(1,18,.t 58),(19,9,.t 59)],none⟩,⟨none,.store 28 (.t 6) (.t 60),none⟩,⟨none,.store 1 (.t 7) (.c (.int .i64 0)),none⟩]) .ret) .skip)))))
def iK:List (Nat×V):=[(3,.ptr 0 0),(4,.ptr 1 0),(5,.ptr 2 0),(6,.ptr 3 0),(7,.ptr 4 0)]
structure yX (N:ae) (v w:List af) (live:Nat):Prop where
 b0:N[0]?=some (some (.cells [.vs (IL v) .no]))
 b1:N[1]?=some (some (.cells [.vs (IL w) .no]))
 b2:N[2]?=some (some (.cells [.int .u32 live]))
 b3:N[3]?=some (some (.cells (dm 0 none)))
 b4:N[4]?=some (some (.cells [.int .i64 0]))
 lo:N[14]?=some (some (.loop iK [46] q8 q9 .ready))
 shut:fY N
def yX.app{N:ae}{v w:List af}{live:Nat}(h:yX N v w live){X:ae}(a:∀ n,X.map (aaN (aw.cl n))=X):yX (N++X) v w live:=by
 have b:=(aab.1 h.lo).1;refine⟨?_,?_,?_,?_,?_,?_,h.shut.app a⟩
 all_goals rw[aai an]
 ·exact h.b0
 ·exact h.b1
 ·exact h.b2
 ·exact h.b3
 ·exact h.b4
 ·exact h.lo
def iL(N:ae)(r:List Nat):ae:=((N.set 3 (some (.cells (dm 1 (some r))))).set 4 (some (.cells [.int .i64 0]))).set 14 (some (.loop iK [46] q8 q9 (.done .ret)))
def zzk{N X:ae}{r:List Nat}(h:14<N.length):iL (N++X) r=iL N r++X:=by unfold iL;rw[aao _ _ an,aao _ _ (by simp;omega),aao _ _ (by simp;omega)]
def Sq{N:ae}(h:fY N)(g:14<N.length)(r:List Nat):fY (iL N r):=by
 intro m b
 have c:N.length<=m:=by simpa[iL] using b
 have d:aX m (dm 1 (some r))=dm 1 (some r):=by simp[dm,ie,V.cl,St.cs,Da.cs,av,aaj]
 unfold iL;rw[abg,abg,abg,h m c]
 have a:(aw.loop iK [46] q8 q9 (.done .ret)).cl m=.loop iK [46] q8 q9 (.done .ret):=by simp[aw.cl,iK,V.cl,show 0<m by omega,show 1<m by omega,show 2<m by omega,show 3<m by omega,show 4<m by omega]
 have e:(aw.cells (dm 1 (some r))).cl m=.cells (dm 1 (some r)):=by rw[aw.cl,d]
 have f:(aw.cells [V.int .i64 0]).cl m=.cells [.int .i64 0]:=by simp[aw.cl,aX,V.cl]
 simp only[aa5,a,e,f]
def zw7[dK G][dp G][aB G][aA G][bJ G][df G][cW G][aL G][cO G][cP G][bT G][cJ G]
  {N:ae} {v w:List af} {live:Nat} (h:yX N v w live) (Y:v.length<=maxLen) (Z:w.length<=maxLen) (hk:∀ x∈v,x.k<4294967296) (rI:∀ x∈w,x.k<4294967296) (g7:live<4294967296)
  (hv:bn v=true) (hw:bn w=true) {r:List Nat} (e:r.length=34) (C:∀ x∈r,x<4294967296) {t:Bool} (ht:yS v w live (tq r) (kM (r.drop 18))=t) :
  YS G 14 [.agg (av .u32 r)] N (!t) (if t=true then iL N r else N):=by
 have E:=(aab.1 h.lo).1
 obtain⟨b,H',hy,rfl,rfl⟩:=zBe (R:=fun b H'=>b=(!t)/\H'=if t=true then iL N r else N) (G:=G) (args:=[.agg (av .u32 r)]) h.lo rfl (by
  have rt:=eG (k:=.u32) e;have rd:(av .u32 r).drop 34=[]:=aah (by simp[e]);have kk:∀ r:ae,(N++r)[N.length]?=r[0]?:=fun r=>lW rfl;have k0:∀(r:ae) x,(N++r).set N.length x=N++r.set 0 x:=fun r x=>qW rfl x
  have F:∀ r:ae,(N++r)[14]?=some (some (.loop iK [46] q8 q9 .ready)):=fun r=>by rw[aai E];exact h.lo
  simp[q8,iK,qJ,k0,e];refine⟨_,_,_,_,F _,?_⟩;obtain⟨B,g⟩:∃ B,B=N.set 14 (some (.loop iK [46] q8 q9 .busy)):=⟨_,rfl⟩
  have d:B.length=N.length:=by rw[g];simp
  rw[aao _ _ E,<-g];have HT:∀ r:ae,(B++r)[N.length]?=r[0]?:=fun r=>lW d;have ha:∀ r:ae,(B++r)[N.length+1]?=r[1]?:=fun r=>pb d 1;have j:∀ r:ae,(B++r)[N.length+2]?=r[2]?:=fun r=>pb d 2;have M:∀(r:ae) x,(B++r).set (N.length+1) x=B++r.set 1 x:=fun r x=>vS d 1 x;have H:∀(r:ae) x,(B++r).set (N.length+2) x=B++r.set 2 x:=fun r x=>vS d 2 x;have hb:∀ r:ae,(B++r)[N.length+1+1]?=r[2]?:=j;have hc:∀(r:ae) x,(B++r).set (N.length+1+1) x=B++r.set 2 x:=H
  have O:∀(a b c:Option aw) (r:ae) h,(B++a::b::c::r)[N.length+1+1]'h=c:=fun a b c r h=>(aab.1 (j (a::b::c::r))).2
  have look:∀{p:Nat} {c:List V},N[p]?=some (some (.cells c))->p≠14->∀ r:ae,(B++r)[p]?=some (some (.cells c)):=fun{p c} P ay r=>by
   rw[aai (by rw[d];exact(aab.1 P).1),g,aam (Ne.symm ay)];exact P
  have q0:=look h.b0 (by decide);have q1:=look h.b1 (by decide);have q2:=look h.b2 (by decide);have I:=look h.b3 (by decide);have J:∀(r:ae) h,(B++r)[0]'h=some (.cells [.vs (IL v) .no]):=fun r h=>(aab.1 (q0 r)).2;have K:∀(r:ae) h,(B++r)[1]'h=some (.cells [.vs (IL w) .no]):=fun r h=>(aab.1 (q1 r)).2;have Oh:∀(r:ae) h,(B++r)[2]'h=some (.cells [.int .u32 live]):=fun r h=>(aab.1 (q2 r)).2;have HU:∀(r:ae) h,(B++r)[3]'h=some (.cells (dm 0 none)):=fun r h=>(aab.1 (I r)).2
  have Q:=RY e C;have T:=JO (w:=r.drop 18) (by simp[e]) (fun x hx=>C x (aaH hx));have f:=zt8 (G:=G) r e C;have q:=zvO (G:=G) v w live (tq r) (kM (r.drop 18)) Y Z hk rI g7 Q T;rw[hv,hw,ht] at q;have s:=HL Q;have u:=N_ T;have U:dm 1 (some r)=.int .i64 1::((tq r).cs++(kM (r.drop 18)).cs):=rfl;obtain⟨S,z⟩:∃ S,S=(tq r).cs:=⟨_,rfl⟩;obtain⟨D,A⟩:∃ D,D=(kM (r.drop 18)).cs:=⟨_,rfl⟩
  have Sk:∀ n,aX n S=S:=fun n=>by rw[z];exact j8 _ n
  have Dk:∀ n,aX n D=D:=fun n=>by rw[A];exact Df _ n
  have Sn:S.map V.j9=S:=by rw[z];exact JS _
  have Dn:D.map V.j9=D:=by rw[A];exact JT _
  simp only[FL,SV,DV,aaG] at f q;rw[<-z,<-A] at f q U;rw[<-z] at s;rw[<-A] at u;have St:=aag (i:=18) (l:=S) an;have W:=aag (i:=9) (l:=D) an;have Sd:S.drop 18=[]:=aah an;have Dd:D.drop 9=[]:=aah an;obtain⟨m,L⟩:∃ m,m=dm 0 none:=⟨_,rfl⟩
  have HW:m.length=28:=by rw[L];rfl
  simp only[<-L] at I HU;simp[q9,d,e,rt,<-L];refine ax f ?_;simp[d,M,H];simp[d,O,M,H,s,u,St,W,Sk,Dk,Sn,Dn,J,K,Oh];refine ax q ?_
  have o:∀ r:ae,(B++r)[14]?=some (some (.loop iK [46] q8 q9 .busy)):=fun r=>by
   rw[aai an,g,aaV an]
  cases t with
  | false =>
   have gP:∀ r:ae,ai N.length ((B++r).set 14 (some (.loop iK [46] q8 q9 .ready)))=N:=fun r=>by
    rw[aao _ _ an,g,ab1,Bp h.lo];exact h.shut.back r
   simp
   exact⟨_,_,_,_,o _,gP _⟩
  | true =>
   simp[d,O,s,u,St,W];have dr:(S++m.drop 19).drop 27=[]:=aah (by simp;omega)
   have ln:(V.int .i64 1::(S++D)).length=28:=by simp;omega
   have tn:(S++D).take 27=S++D:=aag (by simp;omega);have dn:m.drop 28=[]:=aah an;have q4:=look h.b4 (by decide);have Di:∀(r:ae) x,(B++r).set 3 x=B.set 3 x++r:=fun r x=>aao _ _ an;have Dj:∀(r:ae) y x,(B.set 3 y++r).set 4 x=(B.set 3 y).set 4 x++r:=fun r y x=>aao _ _ (by simp;omega)
   have X:∀(r:ae) y,(B.set 3 y++r)[4]?=some (some (.cells [.int .i64 0])):=fun r y=>by
    have:=q4 [];rw[aai (by simp;omega),aam (by decide)];simpa using this
   have tD:∀(r:ae) y h,(B.set 3 y++r)[4]'h=some (.cells [.int .i64 0]):=fun r y h=>(aab.1 (X r y)).2;simp[HW,dr,dn,s,u,I,Di,Dj,X];refine⟨iK,[46],q8,q9,?_,?_⟩
   ·have:=o [];rw[abw] at this;rw[aai (by simp;omega),aam (by decide),aam (by decide)];exact this
   ·have he:((B.set 3 (some (aw.cells (V.int IntKind.i64 1::(S++D))))).set 4 (some (aw.cells [V.int IntKind.i64 0]))).set 14 (some (.loop iK [46] q8 q9 (.done .ret)))=iL N r:=by rw[g,<-U,abc _ _ (show(14:Nat)≠3 by decide),abc _ _ (show(14:Nat)≠4 by decide),ab1];rfl
    rw[aao _ _ (by simp;omega),he];have:=(Sq h.shut E r).back [some (aw.cells (av .u32 r)),some (aw.cells S),some (aw.cells D)]
    rwa[show(iL N r).length=N.length by simp[iL]] at this)
 exact hy
noncomputable def dX(v w:List af)(live:Nat):Int×Option (List Nat) :=
 if(bn v&&bn w)=true then
  if w8 (aR [] v).p (aR (aR [] v).L w).p (aR [] v).st (aR (aR [] v).L w).st live=true then(0,none)
  else match(qI (aR (aR [] v).L w).L (aR [] v).p (aR (aR [] v).L w).p live).find? fun r=>yS v w live (tq r) (kM (r.drop 18)) with
   | some r=>(1,some r)
   | none=>(2,none)
 else(0,none)
def Oi(a b c d e:List V):ae:=[some (.cells a),some (.cells b),some (.cells c),some (.cells d),some (.cells e),some (.map []),some (.cells [.vs [] (.own 7),.mp 5]),some (.zone 0)]
def zzl{a b c d e:List V}(f:∀ n,aX n a=a)(g:∀ n,aX n b=b)(i:∀ n,aX n c=c)(hd:∀ n,aX n d=d)(j:∀ n,aX n e=e):Bk (Oi a b c d e) 6 7 5 []:=by refine⟨rfl,rfl,rfl,fun n k=>?_,fun a h=>(by cases h),by decide⟩;simp only[Oi,aaM,List.length_nil] at k;simp[Oi,aw.cl,f,g,i,hd,j,aX,V.cl,Tk.cl,show 7<n by omega,show 5<n by omega]
def zBI[cu G](a b c d e:List V):bp G (.F 256 [] [some (.cells a),some (.cells b),some (.cells c),some (.cells d),some (.cells e)] (.ptr 6 0) [some (.cells a),some (.cells b),some (.cells c),some (.cells d),some (.cells e),some (.map []),some (.cells [.vs [] .full,.mp 5])]):=by refine eB cu.acN (aae rfl) ?_;simp
section
variable {H:ae} {b z m:Nat} {L:List Nd}
noncomputable def u5(L:List Nd)(w:List af):List V:=if bn w=true then vcs (aR L w).p (aR L w).st .no else vcs (aaA 18 0) [] .full
noncomputable def xb(L:List Nd)(w:List af):List Nd:=if bn w=true then(aR L w).L else L
def Su[dK G][dp G][aB G][aA G][aL G][au G][bw G][aI G][b_ G](w:List af)(h:Bk H b z m L)(hi:Inv L)(e:L.length<=800000)(c:w.length<=maxLen)(d:∀ x∈w,x.k<4294967296) :
  SF G 296 [.ptr b 0,FL w] H (.bc [.agg (u5 L w),.bool (bn w)]) (da H b z m (xb L w)):=by
 cases a:bn w with
 | true =>
  have:=zEo (G:=G) w h hi e c d a
  simpa only[u5,xb,a,if_true] using this
 | false =>
  have:=zEn (G:=G) w h c d a;simpa only[u5,xb,a,aap,if_false,h.fc] using this
def Sv(hi:Inv L){w:List af}(a:∀ x∈w,x.k<4294967296):(u5 L w).length=19:=by
 unfold u5;split
 ·exact CY (C5 hi w a).len
 ·rfl
def Sw(w:List af)(n:Nat):aX n (u5 L w)=u5 L w:=by
 unfold u5
 split<;>(rw[ie,vcs];simp[kT,aaj,V.cl,Tk.cl])
def zuK(hi:Inv L){w:List af}(a:∀ x∈w,x.k<4294967296):Inv (xb L w):=by
 unfold xb;split
 ·exact(C5 hi w a).ext.inv
 ·exact hi
def zuL(hi:Inv L){w:List af}(b:∀ x∈w,x.k<4294967296):(xb L w).length<=L.length+114:=by
 unfold xb;split
 ·rename_i a
  have c:w.length<=32:=by simp only[bn,aaf,decide_eq_true_eq] at a;exact a.1
  have:=(C5 hi w b).ext.len;omega
 ·omega
end
def zsE(c:Int):(dm c none).length=28:=rfl
def Oj(c:Int)(o:Option (List Nat))(n:Nat):aX n (dm c o)=dm c o:=by cases o<;>simp[dm,ie,V.cl,St.cs,Da.cs,av,aaj]
def zuM(c:Int)(o:Option (List Nat)):(dm c o).map V.j9=dm c o:=by cases o<;>simp[dm,V.j9,St.cs,Da.cs,av,aaj]
def zw8(c:Int):(dm c none).take 28=dm c none:=aag (by rw[zsE];exact aby _)
def zBJ[eC G](H:ae)(b live:Nat)(a c:List V)(k1:∀ n,aX n a=a)(k2:∀ n,aX n c=c)(d:a.map V.j9=a)(e:c.map V.j9=c) :
  bp G (.F 311 [.ptr b 0,.agg a,.agg c,.int .u32 live] H (.fn 310 [.ptr (H.length+3) 0,.ptr H.length 0,.ptr (H.length+1) 0,.ptr (H.length+2) 0])
   (H++[some (.cells [.ptr b 0]),some (.cells a),some (.cells c),some (.cells [.int .u32 live])])):=by
 refine eB eC.acO (aae rfl) ?_;simp
def zq2[dK G][dp G][aB G][aA G][bJ G][df G][cW G][aL G][cO G][cP G][bT G][b_ G][bI G][au G][BM:dM G][cu G][aI G][bV G][cJ G][eC G]
  (v w:List af) (live:Nat) (hf:v.length<=maxLen) (hg:w.length<=maxLen) (H:∀ x∈v,x.k<4294967296) (I:∀ x∈w,x.k<4294967296) (g7:live<4294967296) :
  FP G 312 [FL v,FL w,.int .u32 live] (.bc [.agg (dm (dX v w live).1 (dX v w live).2),.int .i64 (if(bn v&&bn w)=true then 0 else 1)]):=by
 haveI:bw G:=BM.tobw
 refine bF eC.acP (aae rfl) ?_;obtain⟨Z,hZ⟩:∃ Z:List V,Z=vcs (aaA 18 0) [] .full:=⟨_,rfl⟩
 have lZ:Z.length=19:=by rw[hZ];rfl
 have dG:Z.drop 19=[]:=aah an
 have EF:[V.int .i64 0,.int .i64 0,.int .i64 0,.int .i64 0,.int .i64 0,.int .i64 0,.int .i64 0,.int .i64 0,.int .i64 0,.int .i64 0,.int .i64 0,.int .i64 0,.int .i64 0,.int .i64 0,.int .i64 0,.int .i64 0,.int .i64 0,.int .i64 0,.vs [] .full]=Z:=by rw[hZ];rfl
 obtain⟨m,B⟩:∃ m:List V,m=dm 0 none:=⟨_,rfl⟩
 have Sx:V.int .i64 0::(av .u32 (aQ 20)++av .u64 (aQ 7))=m:=by rw[B];rfl
 have HW:m.length=28:=by rw[B];rfl
 have Ok:∀ n,aX n m=m:=fun n=>by rw[B];simp[dm,ie,V.cl,av,aaj]
 have K:=zzl (a:=[.vs (IL v) .no]) (b:=[.vs (IL w) .no]) (c:=[.int .u32 live]) (d:=m) (e:=[.int .i64 0]) (fun n=>by simp[aX,V.cl,Tk.cl]) (fun n=>by simp[aX,V.cl,Tk.cl]) (fun n=>by simp[aX,V.cl]) Ok (fun n=>by simp[aX,V.cl]);obtain⟨j,D⟩:∃ j,j=Oi [.vs (IL v) .no] [.vs (IL w) .no] [.int .u32 live] m [.int .i64 0]:=⟨_,rfl⟩;rw[<-D] at K
 have M:j.length=8:=by rw[D];rfl
 have t0:∀ r,ai 8 (j++r)=j:=fun r=>by have:=K.shut.back r;rwa[M] at this
 have a8:∀ r:ae,(j++r)[8]?=r[0]?:=fun r=>lW M;have a9:∀ r:ae,(j++r)[9]?=r[1]?:=fun r=>pb M 1;have b8:∀(r:ae) x,(j++r).set 8 x=j++r.set 0 x:=fun r x=>qW M x;have b9:∀(r:ae) x,(j++r).set 9 x=j++r.set 1 x:=fun r x=>vS M 1 x
 have o0:∀ r:ae,(j++r)[0]?=some (some (.cells [.vs (IL v) .no])):=fun r=>by rw[D];rfl
 have o1:∀ r:ae,(j++r)[1]?=some (some (.cells [.vs (IL w) .no])):=fun r=>by rw[D];rfl
 have o3:∀ r:ae,(j++r)[3]?=some (some (.cells m)):=fun r=>by rw[D];rfl
 have o4:∀ r:ae,(j++r)[4]?=some (some (.cells [.int .i64 0])):=fun r=>by rw[D];rfl
 have Sm:Bk (j++[none]) 6 7 5 []:=K.app fun n=>by simp
 simp[FL,Sx];refine s7 (zBI [.vs (IL v) .no] [.vs (IL w) .no] [.int .u32 live] m [.int .i64 0]) ir ?_;simp;rw[show([some (.cells [.vs (IL v) .no]),some (.cells [.vs (IL w) .no]),some (.cells [.int .u32 live]),some (.cells m),some (.cells [.int .i64 0]),some (.map []),some (.cells [.vs [] (.own 7),.mp 5]),some (.zone 0),none]:ae)=j++[none] from by rw[D];rfl];obtain⟨o,v8⟩:∃ o,o=xb [] v:=⟨_,rfl⟩
 obtain⟨f,Ol⟩:∃ f,f=u5 [] v:=⟨_,rfl⟩
 have i1:Inv o:=by rw[v8];exact zuK Inv.nil H
 have z1:o.length<=114:=by rw[v8];simpa using zuL Inv.nil H
 have x1:f.length=19:=by rw[Ol];exact Sv Inv.nil H
 have c1:∀ n,aX n f=f:=fun n=>by rw[Ol];exact Sw v n
 have kK:=Su (G:=G) v Sm Inv.nil (by decide) hf H;rw[<-v8,<-Ol,K.bP] at kK;obtain⟨U,hU⟩:∃ U,U=da j 6 7 5 o:=⟨_,rfl⟩
 have Om:Bk U 6 7 5 o:=by rw[hU];exact K.to i1 an
 rw[<-hU] at kK
 have N:U.length=8:=by rw[hU,qF,M]
 have Dm:∀{p:Nat} {c:List V},(j++[])[p]?=some (some (.cells c))->p≠6->U[p]?=some (some (.cells c)):=fun{p c} J ay=>by
  rw[hU];exact zrs K (by simpa using J) ay
 obtain⟨u,On⟩:∃ u,u=xb o w:=⟨_,rfl⟩;obtain⟨g,J7⟩:∃ g,g=u5 o w:=⟨_,rfl⟩
 have i2:Inv u:=by rw[On];exact zuK i1 I
 have z2:u.length<=228:=by rw[On];have:=zuL i1 I;omega
 have x2:g.length=19:=by rw[J7];exact Sv i1 I
 have c2:∀ n,aX n g=g:=fun n=>by rw[J7];exact Sw w n
 have hm:Bk (U++[some (.cells f),none]) 6 7 5 o:=Om.app fun n=>by simp[aw.cl,c1]
 have BN:=Su (G:=G) w hm i1 an hg I;rw[<-On,<-J7,Om.bP] at BN;obtain⟨T,hT⟩:∃ T,T=da U 6 7 5 u:=⟨_,rfl⟩
 have ho:Bk T 6 7 5 u:=by rw[hT];exact Om.to i2 an
 rw[<-hT] at BN
 have l:T.length=8:=by rw[hT,qF,N]
 have tE:∀{p:Nat} {c:List V},(j++[])[p]?=some (some (.cells c))->p≠6->T[p]?=some (some (.cells c)):=fun{p c} J ay=>by
  rw[hT];exact zrs Om (Dm J ay) ay
 have O:∀{A:ae} {p:Nat} {c:List V},A[p]?=some (some (.cells c))->∀ r:ae,(A++r)[p]?=some (some (.cells c)):=fun{A p c} J r=>by
  rw[aai (aab.1 J).1];exact J
 have u1:=O (Dm (o1 []) (by decide));have hq:∀(r:ae) h,(U++r)[1]'h=some (.cells [.vs (IL w) .no]):=fun r h=>(aab.1 (u1 r)).2;have q0:=O (tE (o0 []) (by decide));have q1:=O (tE (o1 []) (by decide));have q2:=O (tE (c:=[.int .u32 live]) (p:=2) (by rw[D];rfl) (by decide));have q3:=O (tE (o3 []) (by decide));have q4:=O (tE (o4 []) (by decide));have hO:∀(r:ae) h,(T++r)[0]'h=some (.cells [.vs (IL v) .no]):=fun r h=>(aab.1 (q0 r)).2
 have hV:∀(r:ae) h,(T++r)[1]'h=some (.cells [.vs (IL w) .no]):=fun r h=>(aab.1 (q1 r)).2;have Oh:∀(r:ae) h,(T++r)[2]'h=some (.cells [.int .u32 live]):=fun r h=>(aab.1 (q2 r)).2;have HU:∀(r:ae) h,(T++r)[3]'h=some (.cells m):=fun r h=>(aab.1 (q3 r)).2;have hW:∀(r:ae) h,(T++r)[4]'h=some (.cells [.int .i64 0]):=fun r h=>(aab.1 (q4 r)).2;have hY:∀ r:ae,(U++r)[8]?=r[0]?:=fun r=>lW N;have h0:∀ r:ae,(U++r)[9]?=r[1]?:=fun r=>pb N 1
 have hs:∀(r:ae) x,(U++r).set 8 x=U++r.set 0 x:=fun r x=>qW N x;have h3:∀(r:ae) x,(U++r).set 9 x=U++r.set 1 x:=fun r x=>vS N 1 x;have h4:∀ r:ae,(T++r)[8]?=r[0]?:=fun r=>lW l;have h5:∀ r:ae,(T++r)[9]?=r[1]?:=fun r=>pb l 1;have h6:∀(r:ae) x,(T++r).set 8 x=T++r.set 0 x:=fun r x=>qW l x;have ht:∀(r:ae) x,(T++r).set 9 x=T++r.set 1 x:=fun r x=>vS l 1 x;have d1:f.drop 19=[]:=aah an;have d2:g.drop 19=[]:=aah an
 have e1:f.take 19=f:=aag an;have e2:g.take 19=g:=aag an;simp only[FL] at kK BN;refine cC kK ?_;simp[N,hs,EF,lZ,dG,x1,hq];refine cC BN ?_;simp[l,ht,lZ,dG,x2]
 have ar:∀ p,p<8->p<T.length:=fun p J=>by omega
 have W:∀(r:ae) x,(T++r).set 3 x=T.set 3 x++r:=fun r x=>aao _ _ an;have Y:∀(r:ae) y x,(T.set 3 y++r).set 4 x=(T.set 3 y).set 4 x++r:=fun r y x=>aao _ _ (by simp;omega)
 have hu:∀(r:ae) y x,((T.set 3 y).set 4 x++r)[3]?=some y:=fun r y x=>by
  rw[aai (by simp;omega),aam (by decide),aaV an]
 have hy:∀(r:ae) y x,((T.set 3 y).set 4 x++r)[4]?=some x:=fun r y x=>by
  rw[aai (by simp;omega),aaV (by simp;omega)]
 have BK:∀(r:ae) y,(T.set 3 y++r)[4]?=some (some (.cells [.int .i64 0])):=fun r y=>by
  have:=q4 [];rw[aai (by simp;omega),aam (by decide)];simpa using this
 have tD:∀(r:ae) y h,(T.set 3 y++r)[4]'h=some (.cells [.int .i64 0]):=fun r y h=>(aab.1 (BK r y)).2;have yY:∀(r:ae) y x h,((T.set 3 y).set 4 x++r)[3]'h=y:=fun r y x h=>(aab.1 (hu r y x)).2;have yZ:∀(r:ae) y x h,((T.set 3 y).set 4 x++r)[4]'h=x:=fun r y x h=>(aab.1 (hy r y x)).2;have Sy:m.take 28=m:=aag an;have Oo:m.drop 28=[]:=aah an
 have Sz:m.map V.j9=m:=by rw[B];simp[dm,av,aaj,V.j9]
 cases C:bn v with
 | false =>
  have hd:dX v w live=(0,none):=by simp[dX,C]
  simp[hd,<-B,l,HU,HW,W,Y,Sy,Oo,tD,yY,yZ,Ok,Sz]
 | true =>
 cases hw:bn w with
 | false =>
  have hd:dX v w live=(0,none):=by simp[dX,C,hw]
  simp[hd,<-B,l,HU,HW,W,Y,Sy,Oo,tD,yY,yZ,Ok,Sz]
 | true =>
 have Oq:f=vcs (aR [] v).p (aR [] v).st .no:=by rw[Ol,u5,if_pos C]
 have hz:o=(aR [] v).L:=by rw[v8,xb,if_pos C]
 have Ot:g=vcs (aR o w).p (aR o w).st .no:=by rw[J7,u5,if_pos hw]
 have hA:u=(aR o w).L:=by rw[On,xb,if_pos hw]
 have k1:=C5 Inv.nil v H;have k2:=C5 i1 w I;have s:dX v w live=dX v w live:=rfl
 conv at s=>rhs;rw[dX,C,hw,if_pos (show(true&&true)=true from rfl),<-hz,<-hA]
 obtain⟨P,hP⟩:∃ P,P=(aR [] v).p:=⟨_,rfl⟩;obtain⟨S,hS⟩:∃ S,S=(aR [] v).st:=⟨_,rfl⟩;obtain⟨Q,hQ⟩:∃ Q,Q=(aR o w).p:=⟨_,rfl⟩;obtain⟨R,hR⟩:∃ R,R=(aR o w).st:=⟨_,rfl⟩
 have pl:P.length=18:=by rw[hP];exact k1.len
 have ql:Q.length=18:=by rw[hQ];exact k2.len
 have sl:S.length<=1000000:=by
  have ow:v.length<=32:=by simp only[bn,aaf,decide_eq_true_eq] at C;exact C.1
  have:=k1.st;rw[hS];omega
 rw[<-hP,<-hQ,<-hS,<-hR] at s;rw[<-hP,<-hS] at Oq;rw[<-hQ,<-hR] at Ot;have ha:=zBH (G:=G) P Q S R live g7 pl ql sl;rw[<-Oq,<-Ot] at ha
 have m1:f.map V.j9=f:=by rw[Oq];simp[vcs,kT,aaj,V.j9]
 have m2:g.map V.j9=g:=by rw[Ot];simp[vcs,kT,aaj,V.j9]
 simp[l,Oh,x1,x2,e1,e2,m1,m2,c1,c2];refine ax ha ?_
 cases y0:w8 P Q S R live with
 | true =>
  rw[y0,if_pos rfl] at s
  have At:V.int .i64 0::m.tail=m:=by rw[B];rfl
  simp[s,<-B,l,HU,HW,W,Y,Sy,Oo,tD,yY,yZ,Ok,Sz,At]
 | false =>
  rw[y0] at s;simp only[aap,if_false] at s;simp[l,Oh,x1,x2,e1,e2]
  have hC:(T++[some (aw.cells f),some (aw.cells g)]).length=10:=by simp[l]
  have wZ:=zBJ (G:=G) (T++[some (aw.cells f),some (aw.cells g)]) 6 live f g c1 c2 m1 m2;rw[hC,aaJ] at wZ;refine s7 wZ ir ?_;simp;subst B;obtain⟨E,hE⟩:∃ E,E=T++[some (aw.cells f),some (aw.cells g),some (.cells [.ptr 6 0]),some (.cells f),some (.cells g),some (.cells [.int .u32 live])]:=⟨_,rfl⟩
  have t:E.length=14:=by rw[hE];simp[l]
  obtain⟨i,F⟩:∃ i,i=E++[some (aw.loop iK [46] q8 q9 .ready)]:=⟨_,rfl⟩
  have h7:i.length=15:=by rw[F];simp[t]
  have z:i=T++[some (aw.cells f),some (aw.cells g),some (.cells [.ptr 6 0]),some (.cells f),some (.cells g),some (.cells [.int .u32 live]),some (aw.loop iK [46] q8 q9 .ready)]:=by rw[F,hE];simp
  have SA:Bk E 6 7 5 u:=by rw[hE];refine ho.pd fun n hn=>?_;simp[l] at hn;simp[aw.cl,c1,c2,aX,V.cl,show 6<n by omega]
  have Ou:Bk i 6 7 5 u:=by rw[F];refine SA.pd fun n hn=>?_;simp[t] at hn;simp[aw.cl,iK,V.cl,show 0<n by omega,show 1<n by omega,show 2<n by omega,show 3<n by omega,show 4<n by omega]
  have hb:i[14]?=some (some (.loop iK [46] q8 q9 .ready)):=by rw[F];exact lW t
  have hc:yX i v w live:=⟨by rw[z];exact q0 _,by rw[z];exact q1 _,by rw[z];exact q2 _,by rw[z];exact q3 _,by rw[z];exact q4 _,hb,Ou.shut⟩
  have SB:i[10]?=some (some (.cells [.ptr 6 0])):=by rw[z];exact pb l 2
  have hF:i[11]?=some (some (.cells (vcs P S .no))):=by rw[z,<-Oq];exact pb l 3
  have hG:i[12]?=some (some (.cells (vcs Q R .no))):=by rw[z,<-Ot];exact pb l 4
  have hH:i[13]?=some (some (.cells [.int .u32 live])):=by rw[z];exact pb l 5
  have nO:=zw4 (G:=G) Ou i2 (id:=14) (i1:=13) (i2:=10) (i3:=11) (i4:=12) (live:=live) g7 hH SB hF hG pl ql an (hit:=fun r=>yS v w live (tq r) (kM (r.drop 18))) (H':=iL i)
   (fun r hr hh X hX=>by
    obtain⟨kX,sG⟩:=Og hr;have:=zw7 (G:=G) (hc.app hX) hf hg H I g7 C hw kX sG hh
    simpa using this)
   (fun r hr hh X hX=>by
    obtain⟨kX,sG⟩:=Og hr;have:=zw7 (G:=G) (hc.app hX) hf hg H I g7 C hw kX sG hh;rw[zzk an] at this
    simpa using this)
   (fun r hr hh=>⟨by
    have:=(Sq Ou.shut an r).self
    rwa[show(iL i r).length=i.length by simp[iL]] at this,by simp[iL]⟩)
  rw[<-hE];have he:=SA.shut.self;rw[t] at he
  have oF:look (fU [(3,V.ptr 0 0),(4,V.ptr 1 0),(5,V.ptr 2 0),(6,V.ptr 3 0),(7,V.ptr 4 0),(45,V.fn 310 [V.ptr 13 0,V.ptr 10 0,V.ptr 11 0,V.ptr 12 0])]) [3,4,5,6,7]=iK:=by simp[iK]
  cases mT:(qI u P Q live).find? (fun r=>yS v w live (tq r) (kM (r.drop 18))) with
  | none =>
   rw[mT] at nO s
   have hI:ai 14 i=E:=by rw[F];have:=SA.shut.back [some (aw.loop iK [46] q8 q9 .ready)];rwa[t] at this
   refine J4 (as:=q8) (bo:=q9) (x:=.nx) (H2:=i) (r:=.bc []) ?_ (by rw[t];exact hb) (.inl ⟨rfl,rfl⟩) ?_
   ·rw[t];rw[F] at nO;rw[F,oF];exact nO
   rw[t,hI,hE];simp only[] at s;have At:∀ c,V.int .i64 c::(dm 0 none).tail=dm c none:=fun c=>rfl
   simp[s,l,HU,HW,W,Y,Oo,tD,yY,yZ,At,zsE,Oj,zuM,zw8]
  | some r =>
   rw[mT] at nO s;obtain⟨kX,sG⟩:=Og (abp mT)
   have lA:(dm 1 (some r)).length=28:=by have h1:=HL (RY kX sG);have h2:=N_ (JO (w:=r.drop 18) (by simp[kX]) (fun x hx=>sG x (aaH hx)));simp only[dm,aaM,aaD,h1,h2]
   obtain⟨q,Dq⟩:∃ q,q=dm 1 (some r):=⟨_,rfl⟩
   have hj:∀ n,aX n q=q:=fun n=>by rw[Dq];exact Oj _ _ n
   have hJ:q.map V.j9=q:=by rw[Dq];exact zuM _ _
   rw[<-Dq] at lA;have hK:q.take 28=q:=aag an
   have hL:iL i r=((T.set 3 (some (.cells q))).set 4 (some (.cells [.int .i64 0])))++[some (aw.cells f),some (aw.cells g),some (.cells [.ptr 6 0]),some (.cells f),some (.cells g),some (.cells [.int .u32 live]),some (.loop iK [46] q8 q9 (.done .ret))]:=by rw[z,iL,<-Dq,W,Y];rw[aaO _ _ (by simp;omega)];simp[l]
   have eR:=Sq Ou.shut an r
   have SC:(iL i r)[14]?=some (some (.loop iK [46] q8 q9 (.done .ret))):=by unfold iL;exact aaV (by simp;omega)
   have J8:ai 14 (iL i r)=((T.set 3 (some (.cells q))).set 4 (some (.cells [.int .i64 0])))++[some (aw.cells f),some (aw.cells g),some (.cells [.ptr 6 0]),some (.cells f),some (.cells g),some (.cells [.int .u32 live])]:=by
    have hM:E.map (aaN (aw.cl 14))=E:=by have:=he;unfold ai at this;rwa[aag an] at this
    have hN:ai 14 ((E.set 3 (some (.cells q))).set 4 (some (.cells [.int .i64 0])))=(E.set 3 (some (.cells q))).set 4 (some (.cells [.int .i64 0])):=by unfold ai;rw[aag (by simp;omega),abg,abg,hM];simp[aw.cl,hj,aX,V.cl]
    have hl:(E.set 3 (some (.cells q))).set 4 (some (.cells [.int .i64 0]))=((T.set 3 (some (.cells q))).set 4 (some (.cells [.int .i64 0])))++[some (aw.cells f),some (aw.cells g),some (.cells [.ptr 6 0]),some (.cells f),some (.cells g),some (.cells [.int .u32 live])]:=by rw[hE,W,Y]
    have pB:iL i r=((E.set 3 (some (.cells q))).set 4 (some (.cells [.int .i64 0])))++[some (.loop iK [46] q8 q9 (.done .ret))]:=by rw[hl,hL];simp
    rw[pB,JX hN (by simp;exact t),hl]
   refine J4 (as:=q8) (bo:=q9) (x:=.ret) (H2:=iL i r) (r:=.bc []) ?_ (by rw[t];exact SC) (.inr ⟨rfl,by decide⟩) ?_
   ·rw[t];rw[oF,<-F];exact nO
   rw[t,J8];simp only[] at s;simp[s,l,lA,hK,hj,hJ,yY,yZ,<-Dq]
open Go Go.RowKit
variable {G:aN}
def xc{v w:List af}{live:Nat}(d:bn v=true)(e:bn w=true) :
  dX v w live=(0,none)/\w8 (aR [] v).p (aR (aR [] v).L w).p (aR [] v).st (aR (aR [] v).L w).st live=true \/
  (∃ r,dX v w live=(1,some r)/\r∈qI (aR (aR [] v).L w).L (aR [] v).p (aR (aR [] v).L w).p live/\yS v w live (tq r) (kM (r.drop 18))=true/\w8 (aR [] v).p (aR (aR [] v).L w).p (aR [] v).st (aR (aR [] v).L w).st live=false) \/
  dX v w live=(2,none)/\(∀ r∈qI (aR (aR [] v).L w).L (aR [] v).p (aR (aR [] v).L w).p live,yS v w live (tq r) (kM (r.drop 18))=false)/\w8 (aR [] v).p (aR (aR [] v).L w).p (aR [] v).st (aR (aR [] v).L w).st live=false:=by
 have a:dX v w live=dX v w live:=rfl
 conv at a=>rhs;rw[dX,d,e,if_pos (show(true&&true)=true from rfl)]
 cases c:w8 (aR [] v).p (aR (aR [] v).L w).p (aR [] v).st (aR (aR [] v).L w).st live with
 | true =>
  rw[c,if_pos rfl] at a
  exact .inl ⟨a,rfl⟩
 | false =>
  rw[c] at a;simp only[aap,if_false] at a
  cases b:(qI (aR (aR [] v).L w).L (aR [] v).p (aR (aR [] v).L w).p live).find? (fun r=>yS v w live (tq r) (kM (r.drop 18))) with
  | none =>
   rw[b] at a;refine .inr (.inr ⟨a,fun r f=>?_,rfl⟩);have:=abj.1 b r f
   simpa using this
  | some r =>
   rw[b] at a;have g:=List.find?_some b;exact .inr (.inl ⟨r,a,abp b,g,rfl⟩)
def zvR{r:List Nat}(b:r.length=34)(d:∀ x∈r,x<4294967296)(c:Int):(dm c (some r)).length=28/\(dm c (some r)).tail.take 18=(tq r).cs/\(dm c (some r)).drop 19=(kM (r.drop 18)).cs:=by
 have a:=HL (RY b d);have e:=N_ (JO (w:=r.drop 18) (by simp[b]) (fun x f=>d x (aaH f)));refine⟨by simp only[dm,aaM,aaD,a,e],?_,?_⟩
 ·simp only[dm,List.tail_cons];rw[abv a]
 ·simp only[dm];rw[aaS,abV a]
def zuN(c:Int)(o:Option (List Nat)):(dm c o).take 1=[.int .i64 c]:=by cases o<;>rfl
def zsF(v w:List af)(live:Nat):(dm (dX v w live).1 (dX v w live).2).length=28:=by
 cases a:bn v&&bn w with
 | false =>
  have b:dX v w live=(0,none):=by simp[dX,a]
  rw[b];rfl
 | true =>
  simp only[aaf] at a
  rcases xc (live:=live) a.1 a.2 with⟨e,_⟩|⟨r,e,c,_,_⟩|⟨e,_,_⟩
  ·rw[e];rfl
  ·obtain⟨d,f⟩:=Og c;rw[e];exact(zvR d f 1).1
  ·rw[e];rfl
def y5(f:List af)(a m:Nat):Bool:=(aaw m).all fun j=>!pv f f.length (a+1+j)
def zvS(f:List af)(a m:Nat):y5 f a (m+1)=(y5 f a m&&!pv f f.length (a+1+m)):=by simp[y5,aaK,List.all_append]
def zua{f:List af}{a m n:Nat}(h:pv f f.length (a+1+m)=true)(b:m<n):y5 f a n=false:=by rw[<-aaC,y5,aaL];intro c;have:=c m (aat.2 b);rw[h] at this;cases this
def u6(f:List af)(a n:Nat):Bool:=bn ((f.drop a).take n)&&y5 f a (n-1)
def AF(f:List af)(a n:Int):Bool:=decide (0<=a/\1<=n/\a<f.length/\n<=f.length-a)
def tF(f:List af)(a n:Int):Bool:=AF f a n&&u6 f a.toNat n.toNat
def AG(f:List af)(a n:Int):Bool:=dJ f&&tF f a n
def HY{f:List af}(a:dJ f=true):f.length<=4096:=by simp only[dJ,aaf,decide_eq_true_eq] at a;exact a.1.1
def SD{f:List af}(b:∀ x∈f,x.k<4294967296)(a n:Nat):∀ x∈(f.drop a).take n,x.k<4294967296:=fun x c=>b x (aaH (aa0 c))
def zuO[aB G][aA G][aL G][eg G](f:List af)(a n:Int)(t:dJ f=true)(u:∀ x∈f,x.k<4294967296) :
  FP G 205 [FL f,.vs (l8 (gO f f.length)) .no,.int .i64 a,.int .i64 n] (.bool (tF f a n)):=by
 refine bF eg.acQ (aae rfl) ?_;have F:=HY t
 have H:maxLen=9223372036854775807:=by decide
 by_cases b:a<0
 ·have:tF f a n=false:=by simp[tF,AF,show¬0<=a by omega]
  simp[b,this]
 by_cases c:n<1
 ·have:tF f a n=false:=by simp[tF,AF,show¬1<=n by omega]
  simp[b,c,this]
 by_cases d:(f.length:Int)<=a
 ·have:tF f a n=false:=by simp[tF,AF,show¬a<f.length by omega]
  simp[b,c,d,FL,this]
 have p:cM .i64 (f.length:Int) a=(f.length:Int)-a:=by rw[oB]<;>omega
 by_cases g:(f.length:Int)-a<n
 ·have:tF f a n=false:=by simp[tF,AF,show¬n<=f.length-a by omega]
  simp[b,c,d,g,p,FL,this]
 have v:AF f a n=true:=by simp only[AF,decide_eq_true_eq];omega
 obtain⟨a,rfl⟩:=aaT (show 0<=a by omega);obtain⟨n,rfl⟩:=aaT (show 0<=n by omega)
 have w:tF f (a:Int) (n:Int)=u6 f a n:=by simp[tF,v]
 rw[w];have b:((a:Int)<0)=False:=eq_false b;have y:((n:Int)<1)=False:=eq_false c;have c:(n=0)=False:=eq_false an;have d:((f.length:Int)<=(a:Int))=False:=eq_false d;have g:((f.length:Int)-(a:Int)<(n:Int))=False:=eq_false g
 have I:a+n<=f.length:=an
 have h:aD .i64 (a:Int) (n:Int)=((a+n:Nat):Int):=qH an;have z:aD .i64 (a:Int) 1=((a+1:Nat):Int):=bE an;have q:=yH (G:=G) ((f.drop a).take n) (by rw[aay];omega) (SD u a n)
 have A:List.take n (List.drop a (IL f))=IL ((f.drop a).take n):=by rw[Rz,RA]
 have J:=Oe f f.length;simp only[FL] at q;simp(disch:=omega)[b,y,d,g,p,FL,h,az,A,-aaa];refine ax q ?_;cases e:bn ((f.drop a).take n)
 ·simp[u6,e]
 have B:u6 f a n=y5 f a (n-1):=by simp[u6,e]
 rw[B];simp[z,-aaa];refine aP (n-1) (fun j=>[(1,.vs (l8 (gO f f.length)) .no),(2,.int .i64 a),(3,.int .i64 n),(9,.int .i64 ((a+1+j:Nat):Int))]) (fun _=>[]) (fun j=>y5 f a j=true) ?_ ?_
 ·simp[aq,ai,y5]
 intro j K r
 by_cases s:j<n-1
 ·have i:((a+1+j:Nat):Int)<((a+n:Nat):Int):=an
  have o:=HR f f.length (a+1+j) an;obtain⟨_,l⟩:=aab.1 o;have C:aD .i64 ((a+1+j:Nat):Int) 1=((a+1+(j+1):Nat):Int):=bE an;cases m:pv f f.length (a+1+j)
  ·rw[m] at o l
   have D:y5 f a (j+1)=true:=by rw[zvS,r,m];rfl
   simp(disch:=omega)[h,bC i,l,s,C,D,aq,ai,-aaa]
  ·rw[m] at o l;have:=zua m s;simp(disch:=omega)[h,bC i,l,this,-aaa]
 ·have E:j=n-1:=an
  subst E
  have i:¬((a+1+(n-1):Nat):Int)<((a+n:Nat):Int):=an
  simp[h,jN i,r,-aaa]
def zBK[aB G][aA G][aL G][eg G](f:List af)(a n:Int)(d:f.length<=maxLen)(c:∀ x∈f,x.k<4294967296) :
  FP G 206 [FL f,.int .i64 a,.int .i64 n] (.bool (AG f a n)):=by
 refine bF eg.acR (aae rfl) ?_;have e:=JG (G:=G) f d c;simp;refine ax e ?_;cases b:dJ f
 ·simp[AG,b]
 ·simp;refine ax (zo7 f b c) ?_;simp;refine ax (zuO f a n b c) ?_;simp[AG,b]
def eU(a e b i d:Nat):Nat:=if i<a/\e<=i+1+d then d-b else d
def jc(a e b i:Nat)(x:af):af:=if x.op=5 then{ x with k:=eU a e b i x.k } else if br x.op then{ x with jt:=(eU a e b i x.jt.toNat:Nat),jf:=(eU a e b i x.jf.toNat:Nat) } else x
def pre(f:List af)(a e b m:Nat):List af:=(aaw m).map fun i=>jc a e b i (f.getD i s_)
def jD(f:List af)(a n:Nat)(w:List af):List af:=pre f a (a+n) (n-w.length) a++w++f.drop (a+n)
def Ov(f:List af)(a n:Int)(w:List af):Bool:=AG f a n&&bn w&&decide ((w.length:Int)<=n)
def v_(f:List af)(a n:Nat)(w:List af)(i:Nat):List af :=
 if i<=a then pre f a (a+n) (n-w.length) i else pre f a (a+n) (n-w.length) a++w++(f.take i).drop (a+n)
def zzm(f:List af)(a e b m:Nat):pre f a e b (m+1)=pre f a e b m++[jc a e b m (f.getD m s_)]:=by simp[pre,aaK]
def HZ(f:List af)(a e b m:Nat):(pre f a e b m).length=m:=by simp[pre]
def zw9{f:List af}{a n:Nat}{w:List af}{i:Nat}(hi:i<=f.length)(b:w.length<=32):(v_ f a n w i).length<=i+32:=by
 unfold v_;split
 ·rw[HZ];omega
 ·simp only[aaD,HZ,aaQ,aay];omega
def zxa{f:List af}{a n:Nat}{w:List af}(h:a+n<=f.length)(b:0<n):v_ f a n w f.length=jD f a n w:=by rw[v_,if_neg an,aav,jD]
def zBL[eg G](a e b i d:Nat)(z:aw)(y:List V)(hi:i<=5000)(hd:d<4294967296)(m:b<=d+5000)(g:i<a->e<=i+1+d->b<=d) :
  bp G (.F 207 [.int .i64 i,.int .i64 d,.ptr 0 0,.ptr 1 0,.ptr 2 0] [some (.cells [.int .i64 a]),some (.cells [.int .i64 e]),some (.cells [.int .i64 b]),some z,some (.cells y)] (.int .i64 (eU a e b i d:Nat))
   [some (.cells [.int .i64 a]),some (.cells [.int .i64 e]),some (.cells [.int .i64 b]),some z,some (.cells y)]):=by
 refine eB eg.acS (aae rfl) ?_;have j:aD .i64 (i:Int) 1=((i+1:Nat):Int):=bE an;have k:aD .i64 ((i+1:Nat):Int) (d:Int)=((i+1+d:Nat):Int):=qH an
 by_cases c:i<a
 ·by_cases l:e<=i+1+d
  ·have f:cM .i64 (d:Int) (b:Int)=((eU a e b i d:Nat):Int):=by
    have:=g c l
    rw[eU,if_pos ⟨c,l⟩,oB]<;>omega
   have h:((e:Int)<=((i+1+d:Nat):Int))=True:=eq_true an;simp[c,j,k,h,f,-aaa]
  ·have f:eU a e b i d=d:=by rw[eU,if_neg an]
   have h:((e:Int)<=((i+1+d:Nat):Int))=False:=eq_false an;simp[c,j,k,h,f,-aaa]
 ·have f:eU a e b i d=d:=by rw[eU,if_neg an]
  simp[c,f]
def zDh[aB G][aA G][aL G][eg G](f w:List af)(a n:Nat)(hf:f.length<=maxLen)(hw:w.length<=maxLen)(W:∀ x∈f,x.k<4294967296)(rI:∀ x∈w,x.k<4294967296)(h:Ov f a n w=true) :
  FP G 208 [FL f,.int .i64 a,.int .i64 n,FL w] (.bc [.vs (IL (jD f a n w)) .no,.int .i64 0]):=by
 refine bF eg.acT (aae rfl) ?_;have I:=zBK (G:=G) f a n hf W;have J:=yH (G:=G) w hw rI;simp only[Ov,aaf,decide_eq_true_eq] at h;obtain⟨⟨E,F⟩,h3⟩:=h;rw[E] at I;rw[F] at J;simp only[AG,tF,AF,aaf,decide_eq_true_eq] at E;obtain⟨X,⟨_,i2,i3,i4⟩,nV⟩:=E;simp only[abo] at nV;have Y:=HY X
 have ow:w.length<=32:=by simp only[bn,aaf,decide_eq_true_eq] at F;exact F.1
 have v9:a+n<=f.length:=an
 have J9:((n:Int)<(w.length:Int))=False:=eq_false an;have aa:aD .i64 (a:Int) (n:Int)=((a+n:Nat):Int):=qH an
 have ss:cM .i64 (n:Int) (w.length:Int)=((n-w.length:Nat):Int):=by rw[oB]<;>omega
 simp only[FL] at I J;simp[FL];refine ax I ?_;simp;refine ax J ?_;simp[J9,aa,ss,-aaa];obtain⟨T,m⟩:∃ T:Nat->List af,∀ j,T j=v_ f a n w j:=⟨_,fun _=>rfl⟩
 have uG:T 0=[]:=by rw[m,v_,if_pos an];rfl
 refine aP f.length (fun i=>[(3,FL w),(5,.ptr 0 0),(10,.ptr 1 0),(12,.fn 207 [.ptr 0 0,.ptr 1 0,.ptr 2 0]),(13,.vs (IL (T i)) (.own 3)),(40,FL f),(41,.int .i64 f.length),(42,.int .i64 i)])
  (fun i=>[some (.cells [.int .i64 a]),some (.cells [.int .i64 ((a+n:Nat):Int)]),some (.cells [.int .i64 ((n-w.length:Nat):Int)]),some (.zone (T i).length)]) (fun _=>True) ?_ ?_
 ·simp[aq,ai,FL,uG]
 intro i hi _
 by_cases e:i<f.length
 ·have k_:(T i).length<=i+32:=by rw[m];exact zw9 hi ow
  obtain⟨x,B⟩:∃ x,x=f[i]:=⟨_,rfl⟩;have p:=qT e;rw[<-B] at p;have B:=B.symm
  have K:f[i]?=some x:=by rw[aac e,B]
  have hD:f.getD i s_=x:=by rw[aaq,K];rfl
  have nQ:x∈f:=B▸aak e;have H:=W x nQ;have L:=N5 X K;have q:x.cs=[.int .i64 x.op,.int .i64 x.jt,.int .i64 x.jf,.int .u32 (x.k:Int)]:=rfl;have M:=yg (G:=G) x;simp[IV,q] at M;have J_:((a:Int)<=(i:Int))=(a<=i):=propext an
  by_cases Z:i=a
  ·have r:((i:Int)==(a:Int))=true:=by simp[Z]
   have v:T (i+1)=T i++w:=by rw[m,m,v_,v_,if_neg an,if_pos an,Z];rw[aah (by rw[aay];omega)];simp
   have s:(T (i+1)).length=(T i).length+w.length:=by rw[v];simp
   have t:((i:Int)<((a+n:Nat):Int))=True:=eq_true an;have l:((a:Int)<=(i:Int))=True:=eq_true an
   have b:IL (T i)++IL w=IL (T (i+1)):=by rw[zxQ,v]
   by_cases Bn:w=[]
   ·subst Bn
    have C:T (i+1)=T i:=by rw[v];simp
    simp(disch:=omega)[bC,FL,p,q,r,t,l,C,e,bE,aq,ai,-aaa]
   ·simp(disch:=omega)[bC,FL,p,q,r,t,l,NR,Bn,az,b,s,e,bE,aq,ai,-aaa]
  have r:((i:Int)==(a:Int))=false:=aM an
  by_cases ha:a<=i/\i<a+n
  ·have C:T (i+1)=T i:=by rw[m,m,v_,v_,if_neg an,if_neg an];rw[aah (by rw[aay];omega),aah (by rw[aay];omega)]
   have t:((i:Int)<((a+n:Nat):Int))=True:=eq_true an;have l:((a:Int)<=(i:Int))=True:=eq_true an;simp(disch:=omega)[bC,FL,p,q,r,t,l,C,e,bE,aq,ai,-aaa]
  have v:T (i+1)=T i++[jc a (a+n) (n-w.length) i x]:=by
   rw[m,m]
   by_cases rK:i<a
   ·rw[v_,v_,if_pos an,if_pos an,zzm,hD]
   ·have SG:∀ d,eU a (a+n) (n-w.length) i d=d:=fun d=>by rw[eU,if_neg an]
    have HN:jc a (a+n) (n-w.length) i x=x:=by
     unfold jc;simp only[SG];obtain⟨op,jt,jf,k⟩:=x
     by_cases c:op=5
     ·simp[c]
     ·cases o:br op
      ·simp[c]
      ·obtain⟨N,O,P,Q⟩:=L o;simp only at N O P Q;simp[c];omega
    have nN:(f.take (i+1)).drop (a+n)=(f.take i).drop (a+n)++[x]:=by rw[aan,K,Option.toList_some,aaW (by rw[aay];omega)]
    rw[HN,v_,v_,if_neg an,nN]
    by_cases SH:i<=a
    ·omega
    ·rw[if_neg SH,<-aaJ]
  have s:(T (i+1)).length=(T i).length+1:=by rw[v];simp
  have z:∀ d:Nat,d<4294967296->_:=fun d hd=>zBL (G:=G) a (a+n) (n-w.length) i d (.zone (T i).length) x.cs an hd an (fun E F=>by omega)
  have u7:∀ d:Nat,eU a (a+n) (n-w.length) i d<=d:=fun d=>by unfold eU;split<;>omega
  have A:∀ y:af,y=jc a (a+n) (n-w.length) i x->IL (T i)++[y.cs]=IL (T (i+1)):=fun y hy=>by rw[v,hy];exact NQ _ _
  by_cases hb:a<=i
  ·have l:((a:Int)<=(i:Int))=True:=eq_true an;have t:((i:Int)<((a+n:Nat):Int))=False:=eq_false an
   by_cases c:x.op=5
   ·have u:(x.op==5)=true:=by simp[c]
    have R:=EM x.k H;have g:=z x.k H
    have S:fB .u32 ((eU a (a+n) (n-w.length) i x.k:Nat):Int)=((eU a (a+n) (n-w.length) i x.k:Nat):Int):=by unfold fB;exact uB (by have:=u7 x.k;omega)
    have b:=A ⟨x.op,x.jt,x.jf,eU a (a+n) (n-w.length) i x.k⟩ (by simp[jc,c]);simp only[af.cs] at g b;simp(disch:=omega)[bC,FL,p,q,r,l,t,u,R,-aaa];refine jL g ir ?_;simp(disch:=omega)[ai,S,az,b,s,e,bE,aq,-aaa]
   have u:(x.op==5)=false:=aM c;simp(disch:=omega)[bC,FL,p,q,r,l,t,u,-aaa];refine ax M ?_;cases o:br x.op
   ·have b:=A x (by simp[jc,c,o]);simp only[af.cs] at b;simp(disch:=omega)[az,b,s,e,bE,aq,ai,-aaa]
   ·obtain⟨N,O,P,Q⟩:=L o;have g:=z x.jt.toNat an;have D:=z x.jf.toNat an;have b:=A ⟨x.op,(eU a (a+n) (n-w.length) i x.jt.toNat:Nat),(eU a (a+n) (n-w.length) i x.jf.toNat:Nat),x.k⟩ (by simp[jc,c,o])
    have U:((x.jt.toNat:Nat):Int)=x.jt:=an
    have V:((x.jf.toNat:Nat):Int)=x.jf:=an
    simp only[af.cs,U,V] at g D b;simp;refine jL g (by simp[ai]) ?_;simp[ai];refine jL D (by simp[ai]) ?_;simp(disch:=omega)[ai,az,b,s,e,bE,aq,-aaa];omega
  ·have l:((a:Int)<=(i:Int))=False:=eq_false an
   by_cases c:x.op=5
   ·have u:(x.op==5)=true:=by simp[c]
    have R:=EM x.k H;have g:=z x.k H
    have S:fB .u32 ((eU a (a+n) (n-w.length) i x.k:Nat):Int)=((eU a (a+n) (n-w.length) i x.k:Nat):Int):=by unfold fB;exact uB (by have:=u7 x.k;omega)
    have b:=A ⟨x.op,x.jt,x.jf,eU a (a+n) (n-w.length) i x.k⟩ (by simp[jc,c]);simp only[af.cs] at g b;simp(disch:=omega)[bC,FL,p,q,r,l,u,R,-aaa];refine jL g ir ?_;simp(disch:=omega)[ai,S,az,b,s,e,bE,aq,-aaa]
   have u:(x.op==5)=false:=aM c;simp(disch:=omega)[bC,FL,p,q,r,l,u,-aaa];refine ax M ?_;cases o:br x.op
   ·have b:=A x (by simp[jc,c,o]);simp only[af.cs] at b;simp(disch:=omega)[az,b,s,e,bE,aq,ai,-aaa]
   ·obtain⟨N,O,P,Q⟩:=L o;have g:=z x.jt.toNat an;have D:=z x.jf.toNat an;have b:=A ⟨x.op,(eU a (a+n) (n-w.length) i x.jt.toNat:Nat),(eU a (a+n) (n-w.length) i x.jf.toNat:Nat),x.k⟩ (by simp[jc,c,o])
    have U:((x.jt.toNat:Nat):Int)=x.jt:=an
    have V:((x.jf.toNat:Nat):Int)=x.jf:=an
    simp only[af.cs,U,V] at g D b;simp;refine jL g (by simp[ai]) ?_;simp[ai];refine jL D (by simp[ai]) ?_;simp(disch:=omega)[ai,az,b,s,e,bE,aq,-aaa];omega
 ·have ay:i=f.length:=an
  subst ay
  have C:T f.length=jD f a n w:=by rw[m,zxa v9 an]
  simp[C]
abbrev Pc:=Nat×Nat
def pr(c:Nat->Bool)(a k j:Nat):List Pc:=(aaw j).flatMap fun i=>if c (k-i) then [(a,k-i)] else []
def H5(c:Nat->Bool)(a k j:Nat):pr c a k (j+1)=pr c a k j++(if c (k-j)=true then [(a,k-j)] else []):=by simp[pr,aaK,abK]
def Ow(c:Nat->Bool)(a:Nat):∀(d k:Nat),(∀ m,k<m->m<=k+d->c m=false)->∀ j,pr c a (k+d) (d+j)=pr c a k j
 | 0,k,_,j=>by simp
 | d+1,k,h,0=>by
  have:=Ow c a d (k+1) (fun m e f=>h m an an) 1;rw[show k+(d+1)=k+1+d by omega,show d+1+0=d+1 by omega,this]
  simp[pr,h (k+1) an an]
 | d+1,k,h,j+1=>by
  have b:=Ow c a (d+1) k h j;rw[show d+1+(j+1)=(d+1+j)+1 by omega,H5,b,H5];rw[show k+(d+1)-(d+1+j)=k-j by omega]
def SI(c:Nat->Bool)(a k:Nat):∀ j,(pr c a k j).length<=j
 | 0=>by simp[pr]
 | j+1=>by
  rw[H5,aaD];have:=SI c a k j
  split<;>simp<;>omega
def qt(f:List af)(most:Int)(a m:Nat):Bool:=decide ((m:Int)<=most)&&decide ((m:Int)<=f.length-a)&&AG f a m
def rows(f:List af)(most:Int)(a:Nat):List Pc:=(aaw a).flatMap fun b=>pr (qt f most b) b 32 31
def Ox(f:List af)(most:Int)(a:Nat):rows f most (a+1)=rows f most a++pr (qt f most a) a 32 31:=by simp[rows,aaK,abK]
def SJ(f:List af)(most:Int):∀ a,(rows f most a).length<=31*a
 | 0=>by simp[rows]
 | a+1=>by
  rw[Ox,aaD];have:=SJ f most a;have:=SI (qt f most a) a 32 31;omega
def zuP{c:Nat->Bool}(h:∀ m,c m=false)(a k:Nat):∀ j,pr c a k j=[]
 | 0=>rfl
 | j+1=>by rw[H5,zuP h a k j,h];rfl
def zq3{f:List af}(h:dJ f=false)(most:Int):∀ a,rows f most a=[]
 | 0=>rfl
 | a+1=>by rw[Ox,zq3 h most a,zuP (fun m=>by simp[qt,AG,h])];rfl
def zDi{f:List af}{most:Int}{a:Nat}(k:Int)(g:k=min most (min ((f.length:Int)-a) 32)):pr (qt f most a) a 32 31=pr (qt f most a) a k.toNat (k.toNat-1):=by
 by_cases e:k<1
 ·have:∀ m,1<=m->m<=32->qt f most a m=false:=by
   intro m d b
   by_cases c:(m:Int)<=most
   ·have:¬(m:Int)<=f.length-a:=an
    simp[qt,this]
   ·simp[qt,c]
  have b:=Ow (qt f most a) a 31 1 (fun m d e=>this m an an) 0;simp only[abN] at b;rw[show k.toNat-1=0 by omega,b];rfl
 ·have b:=Ow (qt f most a) a (32-k.toNat) k.toNat (fun m d b=>by
   by_cases c:(m:Int)<=most
   ·have:¬(m:Int)<=f.length-a:=an
    simp[qt,this]
   ·simp[qt,c]) (k.toNat-1)
  rw[show k.toNat+(32-k.toNat)=32 by omega,show 32-k.toNat+(k.toNat-1)=31 by omega] at b;exact b
def uI(l:List Pc):List (List V):=l.map fun p=>[.int .i64 (p.1:Int),.int .i64 (p.2:Int)]
@[simp] theorem zDj (l:List Pc):(uI l).length=l.length:=by simp[uI]
@[simp] theorem zIx:uI []=[]:=rfl
@[simp] theorem zo8 (l:List Pc) (a m:Nat):uI l++[[V.int .i64 (a:Int),.int .i64 (m:Int)]]=uI (l++[(a,m)]):=by simp[uI]
@[simp] theorem zIy (l:List Pc) (i:Nat):(uI l)[i]?=(l[i]?).map fun p=>[.int .i64 (p.1:Int),.int .i64 (p.2:Int)]:=by simp[uI]
@[simp] theorem zIV (l:List Pc):(∀ f∈uI l,f.length=2)=True:=by simp only[eq_iff_iff,iff_true];intro f a;simp only[uI,aa7] at a;obtain⟨x,_,rfl⟩:=a;rfl
theorem zxb[aB G][aA G][aL G][eg G](f:List af)(most:Int)(p:f.length<=maxLen)(g:∀ x∈f,x.k<4294967296)(I:-9223372036854775808<=most/\most<=9223372036854775807) :
  FP G 209 [FL f,.int .i64 most] (.vs (uI (rows f most f.length)) .no):=by
 refine bF eg.acU (aae rfl) ?_;have q:=JG (G:=G) f p g;simp;refine ax q ?_;cases d:dJ f
 ·rw[zq3 d];simp
 have J:=HY d;simp;refine ax (zo7 f d g) ?_;simp[FL];refine aP f.length (fun a=>[(0,FL f),(1,.int .i64 most),(5,.vs (l8 (gO f f.length)) .no),(6,.vs (uI (rows f most a)) (.own 0)),(15,.int .i64 f.length),(16,.int .i64 a)]) (fun a=>[some (.zone (rows f most a).length)]) (fun _=>True) ?_ ?_
 ·simp[aq,ai,FL,rows]
 intro a K _;have L:=SJ f most a
 by_cases r:a<f.length
 ·obtain⟨k,s⟩:∃ k,k=min most (min ((f.length:Int)-a) 32):=⟨_,rfl⟩;have t:=zDi k s
  have u:cM .i64 (f.length:Int) (a:Int)=(f.length:Int)-a:=by rw[oB]<;>omega
  have v:(if 32<if(f.length:Int)-(a:Int)<most then(f.length:Int)-(a:Int) else most then 32 else if(f.length:Int)-(a:Int)<most then(f.length:Int)-(a:Int) else most)=k:=an
  simp(disch:=omega)[bC,FL,u,qK,Ka,v,-aaa];obtain⟨T,b⟩:∃ T:Nat->List Pc,∀ j,T j=rows f most a++pr (qt f most a) a k.toNat j:=⟨_,fun _=>rfl⟩
  have w:T 0=rows f most a:=by rw[b];simp[pr]
  refine aP (k.toNat-1) (fun j=>[(0,FL f),(1,.int .i64 most),(5,.vs (l8 (gO f f.length)) .no),(6,.vs (uI (T j)) (.own 0)),(7,.int .i64 a),(8,.int .i64 (k-j)),(15,.int .i64 f.length),(16,.int .i64 a)])
   (fun j=>[some (.zone (T j).length)]) (fun _=>True) ?_ ?_
  ·simp[aq,ai,FL,w]
  intro j M _;have N:=SI (qt f most a) a k.toNat j
  have O:(T j).length<=31*a+j:=by rw[b,aaD];omega
  have c:=H5 (qt f most a) a k.toNat j
  by_cases l:j<k.toNat-1
  ·have P:(2:Int)<=k-j:=an
   have y:k-(j:Int)=((k.toNat-j:Nat):Int):=an
   have m:=zuO (G:=G) f a ((k.toNat-j:Nat):Int) d g
   have n:cM .i64 ((k.toNat-j:Nat):Int) 1=k-((j+1:Nat):Int):=by rw[oB]<;>omega
   have h:((2:Int)<=((k.toNat-j:Nat):Int))=True:=eq_true an
   have z:qt f most a (k.toNat-j)=tF f a ((k.toNat-j:Nat):Int):=by
    have A:((k.toNat-j:Nat):Int)<=most:=an
    have B:((k.toNat-j:Nat):Int)<=f.length-a:=an
    simp[qt,A,B,AG,d]
   simp only[FL] at m;rw[z] at c;rw[y];simp(disch:=omega)[h,FL,-aaa];refine ax m ?_;cases e:tF f a ((k.toNat-j:Nat):Int)
   ·rw[e] at c
    have C:T (j+1)=T j:=by rw[b,b,c];simp
    simp(disch:=omega)[n,l,C,aq,ai,-aaa]
   ·rw[e] at c;simp only[if_true] at c
    have o:T (j+1)=T j++[(a,k.toNat-j)]:=by rw[b,b,c,aaJ]
    have D:(T (j+1)).length=(T j).length+1:=by rw[o];simp
    have E:uI (T j)++[[V.int .i64 (a:Int),.int .i64 ((k.toNat-j:Nat):Int)]]=uI (T (j+1)):=by rw[zo8,o]
    simp(disch:=omega)[az,E,D,n,l,aq,ai,-aaa,-zo8]
  ·have i:j=k.toNat-1:=an
   subst i;have F:((2:Int)<=k-((k.toNat-1:Nat):Int))=False:=eq_false an
   have H:T (k.toNat-1)=rows f most (a+1):=by rw[b,<-t,<-Ox]
   rw[H];simp(disch:=omega)[F,r,bE,aq,ai,FL,-aaa]
 ·have i:a=f.length:=an
  subst i;simp
def Fb(t:Tk)(l:List Pc):List (List V):=l.map fun p=>[.vs [[.int .i64 (p.1:Int)],[.int .i64 (p.2:Int)]] t]
@[simp] theorem zDk (t:Tk) (l:List Pc):(Fb t l).length=l.length:=by simp[Fb]
@[simp] theorem zIz (t:Tk):Fb t []=[]:=rfl
@[simp] theorem zIA (t:Tk) (l:List Pc) (i:Nat):(Fb t l)[i]?=(l[i]?).map fun p=>[.vs [[.int .i64 (p.1:Int)],[.int .i64 (p.2:Int)]] t]:=by simp[Fb]
@[simp] theorem zIW (t:Tk) (l:List Pc):(∀ f∈Fb t l,f.length=1)=True:=by simp only[eq_iff_iff,iff_true];intro f a;simp only[Fb,aa7] at a;obtain⟨x,_,rfl⟩:=a;rfl
theorem zxc{c:Nat->Bool}{a k:Nat}{p:Pc}:∀{j:Nat},p∈pr c a k j->p.1=a/\c p.2=true/\p.2<=k/\k<p.2+j
 | 0,h=>by simp[pr] at h
 | j+1,h=>by
  rw[H5,aau] at h
  rcases h with h|h
  ·obtain⟨b,d,e,g⟩:=zxc h;exact⟨b,d,e,an⟩
  ·split at h
   ·rename_i f;simp only[aax] at h;subst h;exact⟨rfl,f,ir,by simp only;omega⟩
   ·cases h
def SO{f:List af}{most:Int}{p:Pc}:∀{n:Nat},p∈rows f most n->p.1<n/\qt f most p.1 p.2=true/\2<=p.2/\p.2<=32
 | 0,h=>by simp[rows] at h
 | n+1,h=>by
  rw[Ox,aau] at h
  rcases h with h|h
  ·obtain⟨b,a⟩:=SO h;exact⟨an,a⟩
  ·obtain⟨b,a,c,d⟩:=zxc h;exact⟨an,by rw[b];exact a,an,c⟩
def zsH:∀{f:List af},(∀ i x,f[i]?=some x->ez x (f.length-1-i)=true)->jo f=true
 | [],_=>rfl
 | x::f,h=>by
  rw[jo,aaf];refine⟨by have:=h 0 x rfl;simpa using this,zsH fun i y a=>?_⟩;have:=h (i+1) y (by simpa using a);rw[<-this];congr 1;simp only[aaM];omega
def zxd{x:af}(a e b i:Nat)(h:jw x=true)(k:m_ x=true):jw (jc a e b i x)=true/\m_ (jc a e b i x)=true:=by
 have l:=yF h
 have j:∀ d:Nat,eU a e b i d<=d:=fun d=>by unfold eU;split<;>omega
 unfold jc
 by_cases f:x.op=5
 ·rw[if_pos f];refine⟨?_,?_⟩
  ·have m:qu 5=some (5,[106,97],true,false):=by decide
   unfold jw at h |-;simp only[f,m,Bool.true_or,aaG] at h |-;exact h
  ·simp[m_,f]
 ·rw[if_neg f]
  by_cases c:br x.op=true
  ·rw[if_pos c];obtain⟨v,w,y,z⟩:=l c;have:=j x.jt.toNat;have:=j x.jf.toNat;refine⟨?_,?_⟩
   ·unfold jw at h |-;simp only at h |-;split at h
    ·rename_i r n;simp only[aaf] at h |-;refine⟨h.1,?_⟩
     have g:∀ r∈uJ,br r.1=r.2.2.2:=by decide
     obtain⟨q1,o⟩:=Kc n;have:=g r o;rw[q1,c] at this;rw[<-this];simp only[if_true,decide_eq_true_eq];omega
    ·cases h
   ·have q:∀ p∈[21,37,53,69,29,45,61,(77:Int)],p≠32/\p≠52/\¬(p=2\/p=3\/p=96\/p=97)/\¬(p=100\/p=116):=by decide
    obtain⟨n1,s,t,u⟩:=q _ (by simpa[br] using c);simp only[m_,n1,s,t,u,if_false]
  ·rw[if_neg c];exact⟨h,k⟩
def zDl(a e b i:Nat)(x:af):(jc a e b i x).op=x.op:=by
 unfold jc;split
 ·rfl
 ·split<;>rfl
def zxe{x:af}(h:qD x=true)(left:Nat):ez x left=true:=by simp only[qD,aaf] at h;rw[ZF h.1.1,h.1.2,h.2];rfl
def SP{w:List af}(h:bn w=true):∀ x∈w,qD x=true:=by simp only[bn,aaf,aaL] at h;exact h.2
def zxf{f:List af}{a n:Nat}(e:dJ f=true)(b:u6 f a n=true)(k:0<n)(l:a+n<=f.length):a+n<f.length:=by
 by_cases h:a+n<f.length
 ·exact h
 ·exfalso;have c:f[a+n-1]?=some (f[a+n-1]' an):=aac an;obtain⟨_,g,_⟩:=EP e c
  have j:f[a+n-1]' an∈(f.drop a).take n:=by refine aas (i:=n-1) ?_;rw[abM,if_pos an,aa8,show a+(n-1)=a+n-1 by omega];exact c
  simp only[u6,aaf] at b;have d:=SP b.1 _ j;simp only[qD,aaf] at d;have:=g (Rx d.1.1).2.2;omega
def zDm{f:List af}{a n:Nat}(b:u6 f a n=true){i:Nat}{x:af}(c:f[i]?=some x){t:Nat}(d:a<t)(e:t<a+n):yU x i t=false:=by simp only[u6,aaf,y5,aaL,aat,abP] at b;have:=b.2 (t-a-1) an;rw[show a+1+(t-a-1)=t by omega,pv,<-aaC,aa1] at this;rw[<-aaC];intro h;refine this ⟨i,aat.2 (aab.1 c).1,?_⟩;rw[aaq,c];exact h
def zsI{f w:List af}{a n:Nat}(b:a+n<=f.length):(jD f a n w).length=f.length-n+w.length:=by simp only[jD,aaD,HZ,aaQ];omega
def zxg{f w:List af}{a n:Nat}(e:dJ f=true)(s:u6 f a n=true)(C:0<n)(t:a+n<=f.length)(D:bn w=true)(P:w.length<=n):dJ (jD f a n w)=true:=by
 have Q:=zxf e s C t;have u:=zsI (w:=w) t;have R:=HY e
 have m:jo (jD f a n w)=true:=by
  refine zsH fun i x b=>?_;rw[u]
  by_cases v:i<a
  ·rw[jD,aaJ,aai (by rw[HZ];exact v)] at b;have j:f[i]?=some (f[i]' an):=aac an;obtain⟨y,E⟩:∃ y,y=f[i]'(by omega):=⟨_,rfl⟩;rw[<-E] at j
   have F:x=jc a (a+n) (n-w.length) i y:=by rw[pre,abn,abJ v] at b;simp only[aa5,abi.injEq] at b;rw[<-b,aaq,j];rfl
   subst F;have l:=(EP e j).1;simp only[ez,aaf] at l;obtain⟨⟨⟨A,G⟩,H⟩,I⟩:=l;obtain⟨J,K⟩:=zxd a (a+n) (n-w.length) i A G;have L:=yF A;rw[ez,zDl,J,K]
   have o:∀ d:Nat,yU y i (i+1+d)=true->i+1+d<f.length->eU a (a+n) (n-w.length) i d<f.length-n+w.length-1-i:=by
    intro d B hd
    have M:¬(a<i+1+d/\i+1+d<a+n):=fun⟨m,p⟩=>by rw[zDm s j m p] at B;cases B
    unfold eU
    split<;>omega
   by_cases c:y.op=5
   ·have g:br y.op=false:=by rw[c];decide
    rw[if_pos c,decide_eq_true_eq] at H;have:=o y.k (by simp[yU,c]) an;simp only[c,if_true,aaG,aap,if_false,abk,decide_eq_true_eq,show br 5=false by decide];simp only[jc,c,if_true];exact this
   ·cases g:br y.op
    ·simp[c]
    ·obtain⟨S,T,U,V⟩:=L g;rw[if_pos g,decide_eq_true_eq] at I;have W:=o y.jt.toNat (by simp[yU,c,g]) an;have X:=o y.jf.toNat (by simp[yU,c,g]) an;simp only[c,if_false,if_true,aaG,decide_eq_true_eq];simp only[jc,c,g,if_false,if_true];omega
  ·rw[jD,aaJ,aaP (by rw[HZ];omega),HZ] at b
   by_cases q:i-a<w.length
   ·rw[aai q] at b;exact zxe (SP D x (aas b)) _
   ·rw[aaP an,aa8] at b;have l:=(EP e b).1;rw[<-l];congr 1;have:=(aab.1 b).1;omega
 have p:jA (jD f a n w)=true:=by
  have r:jA f=true:=by simp only[dJ,aaf] at e;exact e.2
  have Y:f.drop (a+n)≠[]:=by intro h;have:=congrArg List.length h;rw[aaQ] at this;simp at this;omega
  have:(jD f a n w).getLast?=f.getLast?:=by
   rw[jD,List.getLast?_append,List.getLast?_drop,if_neg an]
   cases N:f.getLast? with
   | none=>simp only[jA,N] at r;cases r
   | some z=>rfl
  simp only[jA,this];exact r
 have O:(jD f a n w).length<=4096:=by rw[u];omega
 simp[dJ,m,p,O]
def zEs{f w:List af}{a n:Nat}(c:∀ x∈f,x.k<4294967296)(g:∀ x∈w,x.k<4294967296):∀ x∈jD f a n w,x.k<4294967296:=by
 intro x b;simp only[jD,aau] at b
 rcases b with(b|b)|b
 ·simp only[pre,aa7,aat] at b;obtain⟨i,hi,rfl⟩:=b
  have e:(f.getD i s_).k<4294967296:=by
   rw[aaq]
   cases h:f[i]? with
   | none=>decide
   | some z=>exact c z (aas h)
  generalize f.getD i s_=y at e
  have j:∀ d:Nat,eU a (a+n) (n-w.length) i d<=d:=fun d=>by unfold eU;split<;>omega
  unfold jc;split
  ·have:=j y.k;simp only;omega
  ·split<;>exact e
 ·exact g x b
 ·exact c x (aaH b)
def zxh{x:af}(h:qD x=true):x.op≠5/\br x.op=false/\x.op≠6/\x.op≠22:=by simp only[qD,aaf] at h;obtain⟨b,c,a⟩:=Rx h.1.1;simp only[iy,decide_eq_false_iff_not,not_or] at a;exact⟨b,c,a.1,a.2⟩
def zDn(g:List af):bh g [0]=nd g:=by
 funext p
 simp[bh]
def bG(m:List Bool)(n:Nat):Nat:=(m.take n).countP id
def j_(m:List Bool)(x:af):af:=if x.op=5 then{ x with k:=bG m x.k } else if br x.op then{ x with jt:=(bG m x.jt.toNat:Nat),jf:=(bG m x.jf.toNat:Nat) } else x
def dC:List af->List Bool->List af
 | x::f,true::m=>j_ m x::dC f m
 | _::f,false::m=>dC f m
 | _,_=>[]
def mc:List af->List Bool->Prop
 | x::f,b::m=>(b=true->∀ o∈aZ x,m[o]?=some true)/\mc f m
 | [],[]=>True
 | _,_=>False
def H6:∀{f:List af} {m:List Bool},mc f m->f.length=m.length
 | [],[],_=>rfl
 | [],_::_,h=>by cases h
 | _::_,[],h=>by cases h
 | x::f,b::m,h=>by simp[H6 h.2]
def zq4:∀{f:List af} {m:List Bool} (o:Nat),mc f m->mc (f.drop o) (m.drop o)
 | _,_,0,h=>by simpa using h
 | [],[],o+1,h=>by simp[mc]
 | [],_::_,_+1,h=>by cases h
 | _::_,[],_+1,h=>by cases h
 | x::f,b::m,o+1,h=>by simpa using zq4 o h.2
def SR(b:Bool)(m:List Bool)(n:Nat):bG (b::m) (n+1)=(if b then 1 else 0)+bG m n:=by cases b<;>simp[bG,abr]
def Fc(m:List Bool):bG m 0=0:=by simp[bG]
def OA:∀(f:List af) (m:List Bool) (o:Nat),f.length=m.length->(dC f m).drop (bG m o)=dC (f.drop o) (m.drop o)
 | f,m,0,h=>by simp[Fc]
 | [],m,o+1,h=>by
  have:m=[]:=List.eq_nil_of_length_eq_zero (by simpa using h.symm);subst this
  simp[dC]
 | x::f,[],o+1,h=>by simp at h
 | x::f,b::m,o+1,h=>by
  have a:=OA f m o (by simpa using h);rw[SR]
  cases b with
  | true =>
   rw[if_pos rfl,dC,abr,aaS,a];rfl
  | false =>
   simp only[aap,if_false,abY,dC];rw[a];rfl
def Fe(m:List Bool)(x:af):(j_ m x).op=x.op:=by
 unfold j_;split
 ·rfl
 ·split<;>rfl
def zzn(m:List Bool)(s:St)(x:af)(d:Da):nb s (j_ m x) d=nb s x d:=by
 by_cases a:x.op=5
 ·have b:cH (5:Int)=(0,false,false):=by decide
  have c:(j_ m x).op=5:=by rw[Fe,a]
  have o:∀ y:af,y.op=5->nb s y d=(s,true):=fun y e=>by
   simp only[nb,e,b,aap,if_false,uA];simp
  rw[o _ c,o _ a]
 ·unfold j_;rw[if_neg a]
  split<;>rfl
def zzo(m:List Bool)(s:St)(x:af):goes s (j_ m x)=bG m (goes s x):=by
 have b:=Fe m x
 by_cases a:x.op=5
 ·simp only[goes,b,a,if_true];simp[j_,a]
 by_cases c:br x.op=true
 ·have d:j_ m x={ x with jt:=(bG m x.jt.toNat:Nat),jf:=(bG m x.jf.toNat:Nat) }:=by rw[j_,if_neg a,if_pos c]
  have e:rF s (j_ m x)=rF s x:=by rw[d];rfl
  simp only[goes,b,if_neg a,c,if_true,e];rw[d]
  cases rF s x<;>simp
 ·simp[goes,b,a,c,Fc]
def zuQ(d:Da):∀(n:Nat) (f:List af) (m:List Bool) (s:St),f.length<=n->mc f m->m[0]?=some true->run d (dC f m) s=run d f s
 | _,[],[],_,_,_,h=>by cases h
 | _,[],_::_,_,_,h,_=>by cases h
 | _,_::_,[],_,_,h,_=>by cases h
 | 0,_::_,_,_,h,_,_=>by simp at h
 | n+1,x::f,b::m,s,j,g,i=>by
  simp only[abt,abi.injEq] at i;subst i;rw[dC,zsy,zsy,Fe,zzn,zzo]
  by_cases a:x.op=6
  ·have l:(j_ m x).k=x.k:=by
    have:br (6:Int)=false:=by decide
    simp[j_,a,this]
   rw[if_pos a,if_pos a,l]
  rw[if_neg a,if_neg a]
  by_cases c:x.op=22
  ·rw[if_pos c,if_pos c]
  rw[if_neg c,if_neg c]
  by_cases e:(nb s x d).2=true
  case neg=>rw[if_neg e,if_neg e]
  rw[if_pos e,if_pos e]
  have o:iy x.op=false:=by simp[iy,a,c]
  have p:=g.1 rfl _ (zwV o s);have q:=zuQ d n (f.drop (goes s x)) (m.drop (goes s x)) (nb s x d).1 (by simp at j |-;omega) (zq4 _ g.2) (by rw[aa8,abN];exact p);rw[OA f m _ (H6 g.2),q]
def Fg:∀(f:List af) (m:List Bool),f.length=m.length->(dC f m).length=m.countP id
 | [],[],_=>rfl
 | [],_::_,h=>by simp at h
 | _::_,[],h=>by simp at h
 | x::f,true::m,h=>by simp[dC,Fg f m (by simpa using h)]
 | x::f,false::m,h=>by simp[dC,Fg f m (by simpa using h)]
def SU{m:List Bool}{o:Nat}(h:m[o]?=some true):bG m o<m.countP id:=by
 have a:=(aab.1 h).1
 have e:m=m.take o++true::m.drop (o+1):=by have:=aaz a;rw[(aab.1 h).2] at this;rw[<-this,List.take_append_drop]
 rw[bG]
 conv=>rhs;rw[e,List.countP_append,List.countP_cons]
 simp
def H7(m:List Bool)(o:Nat):bG m o<=o:=by have:=abB (p:=id) (l:=m.take o);rw[bG];have a:=List.length_take_le o m;omega
def zxi{x:af}(m:List Bool)(h:jw x=true)(j:m_ x=true):jw (j_ m x)=true/\m_ (j_ m x)=true:=by
 have p:=yF h;have l:∀ n,bG m n<=n:=H7 m;obtain⟨a,d,f,k⟩:=x
 by_cases g:a=5
 ·subst g
  have b:br 5=false:=by decide
  simp only[j_,if_true];constructor
  ·simp only[jw] at h |-
   have c:qu 5=some (5,[106,97],true,false):=by decide
   simp only[c] at h |-;simpa using h
  ·simp[m_]
 ·cases b:br a
  ·simp[j_,g,b,h,j]
  ·obtain⟨q,s,t,u⟩:=p b;simp only at q s t u
   have e:j_ m ⟨a,d,f,k⟩=⟨a,(bG m d.toNat:Nat),(bG m f.toNat:Nat),k⟩:=by simp[j_,g,b]
   rw[e];constructor
   ·simp only[jw] at h |-
    cases c:qu a with
    | none=>rw[c] at h;cases h
    | some r =>
     rw[c] at h;simp only[aaf] at h |-;refine⟨h.1,?_⟩;have o:=h.2;have v:=l d.toNat;have w:=l f.toNat;split at o
     ·rename_i i;rw[if_pos i,decide_eq_true_eq];omega
     ·rename_i i;rw[decide_eq_true_eq] at o;rw[if_neg i,decide_eq_true_eq];omega
   ·simpa[m_] using j
def SW:∀{f:List af} {m:List Bool},mc f m->jo f=true->jo (dC f m)=true
 | [],[],_,_=>rfl
 | [],_::_,h,_=>by cases h
 | _::_,[],h,_=>by cases h
 | x::f,false::m,h,c=>by
  rw[jo,aaf] at c;rw[dC]
  exact SW h.2 c.2
 | x::f,true::m,h,c=>by
  rw[jo,aaf] at c;rw[dC,jo,aaf];refine⟨?_,SW h.2 c.2⟩;have g:=c.1;simp only[ez,aaf] at g;obtain⟨⟨⟨j,l⟩,p⟩,q⟩:=g;obtain⟨p1,p2⟩:=zxi m j l;have d:=h.1 rfl;rw[ez,p1,p2,Fg f m (H6 h.2),Fe];simp only[aaG,aaf];constructor
  ·by_cases a:x.op=5
   ·have:=d x.k (by have:iy (5:Int)=false:=(by decide);simp[aZ,a,this]);rw[if_pos a,decide_eq_true_eq];simp only[j_,if_pos a];exact SU this
   ·rw[if_neg a]
  ·by_cases b:br x.op=true
   ·have a:x.op≠5:=fun e=>by rw[e] at b;revert b;decide
    have i:iy x.op=false:=by rcases Fh b with e|e|e|e|e|e|e|e<;>rw[e]<;>decide
    have n:=d x.jt.toNat (by simp[aZ,i,a,b]);have o:=d x.jf.toNat (by simp[aZ,i,a,b]);have r:=SU n;have s:=SU o;rw[if_pos b,decide_eq_true_eq];simp only[j_,if_neg a,if_pos b];omega
   ·rw[if_neg b]
def zsJ:∀{f:List af} {m:List Bool},f.length=m.length->m.any id=false->dC f m=[]
 | [],[],_,_=>rfl
 | [],_::_,h,_=>by simp at h
 | _::_,[],h,_=>by simp at h
 | x::f,true::m,_,h=>by simp at h
 | x::f,false::m,h,a=>by
  rw[dC];exact zsJ (by simpa using h) (by simpa using a)
def zsK:∀{f:List af} {m:List Bool},f.length=m.length->m.any id=true->dC f m≠[]
 | [],[],_,h=>by simp at h
 | [],_::_,h,_=>by simp at h
 | _::_,[],h,_=>by simp at h
 | x::f,true::m,_,_=>by simp[dC]
 | x::f,false::m,h,a=>by
  rw[dC];exact zsK (by simpa using h) (by simpa using a)
def zxj{x:af}{f:List af}(h:f≠[]):jA (x::f)=jA f:=by
 cases f with
 | nil=>exact absurd rfl h
 | cons y f=>simp[jA,List.getLast?_cons_cons]
def zBM{x:af}(h:iy x.op=false):aZ x≠[]:=by
 unfold aZ;rw[h];simp only[aap,if_false];split
 ·simp
 ·split<;>simp
def zuR:∀{f:List af} {m:List Bool},mc f m->m.any id=true->jA (dC f m)=true
 | [],[],_,h=>by simp at h
 | [],_::_,h,_=>by cases h
 | _::_,[],h,_=>by cases h
 | x::f,b::m,h,c=>by
  have d:=H6 h.2
  cases a:m.any id with
  | true =>
   have e:=zuR h.2 a
   cases b with
   | true=>rw[dC,zxj (zsK d a),e]
   | false=>rw[dC,e]
  | false =>
   have i:b=true:=by rw[List.any_cons,a] at c;simpa using c
   subst i;rw[dC,zsJ d a];simp only[jA,List.getLast?_singleton,Fe]
   cases j:iy x.op with
   | true=>rfl
   | false =>
    exfalso
    cases g:aZ x with
    | nil=>exact zBM j g
    | cons o l =>
     have:=h.1 rfl o (by rw[g];simp);have k:=aas this;have:m.any id=true:=aa1.2 ⟨true,k,rfl⟩;rw[a] at this;cases this
def zxk{f:List af}{m:List Bool}(b:dJ f=true)(a:mc f m)(c:m[0]?=some true):dJ (dC f m)=true:=by have d:=H6 a;have g:=Fg f m d;have h:=abB (p:=id) (l:=m);have e:m.any id=true:=aa1.2 ⟨true,aas c,rfl⟩;simp only[dJ,aaf,decide_eq_true_eq] at b |-;exact⟨⟨an,SW a b.1.2⟩,zuR a e⟩
end Go.Ev
