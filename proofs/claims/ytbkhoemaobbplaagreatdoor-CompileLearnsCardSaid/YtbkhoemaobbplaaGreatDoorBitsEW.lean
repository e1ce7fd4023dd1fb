/- What the functions of bits compute: plain, Do, Eval, Apart. -/
import Derived.Test.YtbkhoemaobbplaaGreatDoorEvMW
set_option linter.defProp false
set_option linter.unusedSimpArgs false
set_option linter.unusedVariables false
set_option maxHeartbeats 4000000
set_option maxRecDepth 10000
open Nat renaming le_of_ble_eq_true->aab,pow_le_pow_right->aap,lt_of_le_of_lt->aaA,div_le_self->aaM,eq_of_testBit_eq->abb,and_two_pow_sub_one_eq_mod->abc,mul_comm->abe,testBit_two_pow_sub_one->abl,sub_self->abt,add_sub_cancel_left->abv,testBit_lt_two_pow->abA,pow_lt_pow_right->abI,mod_lt->abK,lt_of_lt_of_le->abV,add_comm->abZ,one_le_two_pow->ab0,le_refl->ab8,mod_eq_of_lt->ab9,min_eq_left->acb,zero_add->ach,pow_succ->aci,or_comm->ack
open Int renaming natCast_add->aad,natCast_pow->aah,eq_ofNat_of_zero_le->aaj,natCast_emod->aao,natCast_ediv->aas,natCast_mul->aaZ,toNat->aa1,toNat_natCast->aa4,mul_emod->acj
open List renaming reduceReplicate->aae,getElem?_append_left->aaf,getElem?_eq_some_iff->aag,take_of_length_le->aai,getD_eq_getElem?_getD->aal,replicate->aam,getElem?_append_right->aan,getElem?_set_ne->aaq,zipWith->aar,getElem?_eq_getElem->aat,length_take->aau,getElem?_take->aay,take_left'->aaz,mem_of_getElem?->aaF,set_append_left->aaG,replicate_succ->aaH,getElem_mem->aaI,drop_drop->aaJ,cons_append->aaK,range->aaL,getElem?_set_self->aaP,zipWith_cons_cons->aaQ,take_add_one->aaR,map_cons->aaV,range_succ->aaW,drop_left'->aa0,ext_getElem?->aa2,getElem?_set->aa3,drop_eq_nil_of_le->aa9,set_append_right->aba,mem_range->abg,getElem?_drop->abh,mem_cons->abm,drop_one->abn,mem_or_eq_of_mem_set->abp,mem_of_find?_eq_some->abq,find?_range_eq_some->abr,getElem?_cons_succ->abw,length_set->abx,nil_append->aby,length->abC,getElem?_zipWith->abE,drop_eq_nil_iff->abF,mem_iff_getElem->abG,getElem?_of_mem->abJ,sum_cons->abL,getElem_of_mem->abT,filter_append->abU,mem_singleton->abX,length_append->abY,mem_replicate->ab1,map_map->ab2,prefix_append->ab3,set_cons_zero->ab4,flatten_cons->ab6,append_assoc->ab7,length_cons->ab_,prefix_refl->aca,mem_append->acd,foldl_cons->acf,mem_map->acg
open Bool renaming false_eq_true->aaC,eq_iff_iff->aaO
open Option renaming getD_some->aa_,map->abd,isSome_some->abi,some->abB,map_some->ace
open Function renaming comp_def->abo
namespace Go.Ev
open Go Go.RowKit
variable {G:aP}
def jM(tab:List Nat)(j n:Nat):List Nat:=((aaL n).filter λn=>!n.testBit j).map λn=>tab.getD n 0
def Qe(tab:List Nat)(j n:Nat):(jM tab j n).length<=n:=by have:=List.length_filter_le (λn=>!n.testBit j) (aaL n);simp[jM] at this |-;exact this
def Qf{tab:List Nat}{j n:Nat}(h:n.testBit j=false):jM tab j (n+1)=jM tab j n++[tab.getD n 0]:=by simp[jM,aaW,abU,h]
def Qg{tab:List Nat}{j n:Nat}(h:n.testBit j=true):jM tab j (n+1)=jM tab j n:=by simp[jM,aaW,abU,h]
def zBi(P:bG G)(vs:List Int)(tab:List Nat)(U:tab.length=2^vs.length)(h4:vs.length<=4)(z:vs.Nodup) :
  ∃c g,FP G 106 [FV vs tab] (FV c g)/\c.Sublist vs/\g.length=2^c.length/\(∀p,cZ c g p=cZ vs tab p)/\∀v∈c,dep (cZ c g) v:=by
 suffices h:∃r,FP G 106 [FV vs tab] r/\∃c g,r=FV c g/\c.Sublist vs/\g.length=2^c.length/\(∀p,cZ c g p=cZ vs tab p)/\∀v∈c,dep (cZ c g) v by
  obtain⟨r,W,c,g,rfl,A⟩:=h;exact⟨c,g,W,A⟩
 refine Gr P.acU (aab rfl) ?_;simp[FV]
 refine wq (λs:List Int×Tk×List Nat×Nat=>s.1.length*100+(50-s.2.2.2))
  (λs=>[(1,.ptr 0 0),(2,.ptr 1 0),(3,.int .i64 s.2.2.2)])
  (λs=>[some (.cells [.vs (ints .i64 s.1) s.2.1,.vs (ah .u32 s.2.2.1) .no]),some (.cells [.vs [] .full,.vs [] .full])])
  (λs=>s.1.Sublist vs/\(s.2.1=.no\/s.2.1=.full)/\s.2.2.1.length=2^s.1.length/\(∀p,cZ s.1 s.2.2.1 p=cZ vs tab p)/\s.2.2.2<=s.1.length/\∀m,m<s.2.2.2->zG s.2.2.1 m=true)
  (vs,.no,tab,0) ?_ ?_
 .simp[au,ak,U]
 rintro⟨a,tk,tb,j⟩ ⟨y,B,q,D,X,L⟩;simp only at y B q D X L;have xI:=y.length_le;have Q:a.Nodup:=z.sublist y
 have h2:tb.length<=16:=by rw[q,show 16=2^4 from rfl];exact aap aga an
 by_cases E:j<a.length
 .simp(disch:=omega)[bC]
  have oD:V.nf (V.cl 0 (.agg [.vs (ints .i64 a) tk,.vs (ah .u32 tb) .no]))=FV a tb:=by rcases B with rfl|rfl<;>simp[FV]
  refine aw (UZ P a tb j an an (U1 an q E)) ?_;cases R:zG tb j
  case true =>
   simp(disch:=omega)[bF,-aad];refine⟨(a,tk,tb,j+1),?_⟩
   have Y:∀m,m<j+1->zG tb m=true:=λm hm=>by
    by_cases e:m=j
    .subst e;exact R
    .exact L m an
   rcases B with rfl|rfl<;>(simp[au,ak,y,q,D,-aad];exact⟨an,an,Y⟩)
  case false =>
   have f:∀n,Tk.cl n tk=tk:=λn=>by rcases B with rfl|rfl<;>rfl
   have Z:a≠[]:=λe=>by simp[e] at E
   have S:(a.drop (j+1)).take (a.length-(j+1))=a.drop (j+1):=by rw[aai];simp
   have t:a.eraseIdx j=a.take j++a.drop (j+1):=List.eraseIdx_eq_take_drop_succ a j;obtain⟨k,hk⟩:∃k,a.length=k+1:=⟨a.length-1,an⟩
   have ha:(a.take j++a.drop (j+1)).length=k:=by rw[<-t,List.length_eraseIdx_of_lt E];omega
   have F:(pT tb j).length=2^k:=zBD (by rw[q,hk]) an
   have H:∀p,cZ (a.take j++a.drop (j+1)) (pT tb j) p=cZ vs tab p:=λp=>by rw[<-t,zEb Q q E R,D]
   have I:(a.take j++a.drop (j+1)).Sublist vs:=by rw[<-t];exact(List.eraseIdx_sublist a j).trans y
   have J:min j a.length+(a.length-(j+1))=k:=an
   have K:jM tb j tb.length=pT tb j:=rfl
   by_cases T:j=0
   .have C:a.take j=[]:=by rw[T];rfl
    by_cases yB:a.length=j+1
    .have o:a.drop (j+1)=[]:=aa9 an;simp(disch:=omega)[sm,mf,Qh,aA,Qi,CU,o,-aad]
     refine aN tb.length (λn=>[(1,.ptr 0 0),(2,.ptr 1 0),(3,.int .i64 j),(4,.ptr 2 0),(32,.int .i64 tb.length),(33,.int .i64 n)])
      (λn=>[some (.cells [.vs (ints .i64 a) tk,.vs (ah .u32 tb) .no]),some (.cells [.vs [] .full,.vs [] .full]),some (.cells [.vs (ints .i64 (a.take j++a.drop (j+1))) .full,.vs (ah .u32 (jM tb j n)) (.own 5)]),none,none,some (.zone (jM tb j n).length)])
      (λ_=>True) ?_ ?_
     .simp[au,ak,jM,f,C,o]
     intro n z _
     by_cases d:n<tb.length
     .have M:=Qe tb j n;have l:n/2^j<9223372036854775808:=aaA (aaM _ _) an;cases b:n.testBit j
      .have u:n/2^j%2=0:=by rw[Aa,b];rfl
       have N:tb.getD n 0=tb[n]:=by simp[aal,d]
       simp(disch:=omega)[bC,jW,zH,qA l,u,aA,bF,au,ak,d,Qf b,f,-aad,-aas,-aao]
      .have w:n/2^j%2=1:=by rw[Aa,b];rfl
       simp(disch:=omega)[bC,jW,zH,qA l,w,bF,au,ak,d,Qg b,f,-aad,-aas,-aao]
     .have x:n=tb.length:=an
      subst x;simp(disch:=omega)[eB];refine⟨(a.eraseIdx j,.full,pT tb j,0),?_⟩;simp[au,ak,t,K,F,H,I,J];omega
    .have o:a.drop (j+1)≠[]:=λe=>by have:=abF.1 e;omega
     simp(disch:=omega)[sm,mf,Qh,aA,U3,Qi,U4,CU,S,o,-aad]
     refine aN tb.length (λn=>[(1,.ptr 0 0),(2,.ptr 1 0),(3,.int .i64 j),(4,.ptr 2 0),(32,.int .i64 tb.length),(33,.int .i64 n)])
      (λn=>[some (.cells [.vs (ints .i64 a) tk,.vs (ah .u32 tb) .no]),some (.cells [.vs [] .full,.vs [] .full]),some (.cells [.vs (ints .i64 (a.take j++a.drop (j+1))) (.own 4),.vs (ah .u32 (jM tb j n)) (.own 5)]),none,some (.zone (a.length-(j+1))),some (.zone (jM tb j n).length)])
      (λ_=>True) ?_ ?_
     .simp[au,ak,jM,f,C]
     intro n z _
     by_cases d:n<tb.length
     .have M:=Qe tb j n;have l:n/2^j<9223372036854775808:=aaA (aaM _ _) an;cases b:n.testBit j
      .have u:n/2^j%2=0:=by rw[Aa,b];rfl
       have N:tb.getD n 0=tb[n]:=by simp[aal,d]
       simp(disch:=omega)[bC,jW,zH,qA l,u,aA,bF,au,ak,d,Qf b,f,-aad,-aas,-aao]
      .have w:n/2^j%2=1:=by rw[Aa,b];rfl
       simp(disch:=omega)[bC,jW,zH,qA l,w,bF,au,ak,d,Qg b,f,-aad,-aas,-aao]
     .have x:n=tb.length:=an
      subst x;simp(disch:=omega)[eB];refine⟨(a.eraseIdx j,.no,pT tb j,0),?_⟩;simp[au,ak,t,K,F,H,I,J];omega
   .have C:a.take j≠[]:=λe=>by rcases List.take_eq_nil_iff.1 e with h|h;exact T h;exact Z h
    by_cases yB:a.length=j+1
    .have o:a.drop (j+1)=[]:=aa9 an;simp(disch:=omega)[sm,mf,Qh,aA,U3,Qi,U4,CU,C,o,-aad]
     refine aN tb.length (λn=>[(1,.ptr 0 0),(2,.ptr 1 0),(3,.int .i64 j),(4,.ptr 2 0),(32,.int .i64 tb.length),(33,.int .i64 n)])
      (λn=>[some (.cells [.vs (ints .i64 a) tk,.vs (ah .u32 tb) .no]),some (.cells [.vs [] .full,.vs [] .full]),some (.cells [.vs (ints .i64 (a.take j++a.drop (j+1))) (.own 3),.vs (ah .u32 (jM tb j n)) (.own 5)]),some (.zone j),none,some (.zone (jM tb j n).length)])
      (λ_=>True) ?_ ?_
     .simp[au,ak,jM,f,o]
     intro n z _
     by_cases d:n<tb.length
     .have M:=Qe tb j n;have l:n/2^j<9223372036854775808:=aaA (aaM _ _) an;cases b:n.testBit j
      .have u:n/2^j%2=0:=by rw[Aa,b];rfl
       have N:tb.getD n 0=tb[n]:=by simp[aal,d]
       simp(disch:=omega)[bC,jW,zH,qA l,u,aA,bF,au,ak,d,Qf b,f,-aad,-aas,-aao]
      .have w:n/2^j%2=1:=by rw[Aa,b];rfl
       simp(disch:=omega)[bC,jW,zH,qA l,w,bF,au,ak,d,Qg b,f,-aad,-aas,-aao]
     .have x:n=tb.length:=an
      subst x;simp(disch:=omega)[eB];refine⟨(a.eraseIdx j,.no,pT tb j,0),?_⟩;simp[au,ak,t,K,F,H,I,J];omega
    .have o:a.drop (j+1)≠[]:=λe=>by have:=abF.1 e;omega
     simp(disch:=omega)[sm,mf,Qh,aA,U3,Qi,U4,zv7,CU,S,C,o,-aad]
     refine aN tb.length (λn=>[(1,.ptr 0 0),(2,.ptr 1 0),(3,.int .i64 j),(4,.ptr 2 0),(32,.int .i64 tb.length),(33,.int .i64 n)])
      (λn=>[some (.cells [.vs (ints .i64 a) tk,.vs (ah .u32 tb) .no]),some (.cells [.vs [] .full,.vs [] .full]),some (.cells [.vs (ints .i64 (a.take j++a.drop (j+1))) (.own 3),.vs (ah .u32 (jM tb j n)) (.own 5)]),some (.zone (j+(a.length-(j+1)))),none,some (.zone (jM tb j n).length)])
      (λ_=>True) ?_ ?_
     .simp[au,ak,jM,f]
     intro n z _
     by_cases d:n<tb.length
     .have M:=Qe tb j n;have l:n/2^j<9223372036854775808:=aaA (aaM _ _) an;cases b:n.testBit j
      .have u:n/2^j%2=0:=by rw[Aa,b];rfl
       have N:tb.getD n 0=tb[n]:=by simp[aal,d]
       simp(disch:=omega)[bC,jW,zH,qA l,u,aA,bF,au,ak,d,Qf b,f,-aad,-aas,-aao]
      .have w:n/2^j%2=1:=by rw[Aa,b];rfl
       simp(disch:=omega)[bC,jW,zH,qA l,w,bF,au,ak,d,Qg b,f,-aad,-aas,-aao]
     .have x:n=tb.length:=an
      subst x;simp(disch:=omega)[eB];refine⟨(a.eraseIdx j,.no,pT tb j,0),?_⟩;simp[au,ak,t,K,F,H,I,J];omega
 .have O:j=a.length:=an
  subst O;simp(disch:=omega);refine⟨a,tb,?_⟩
  have hd:∀v∈a,dep (cZ a tb) v:=λv hv=>by
   obtain⟨i,hi,rfl⟩:=abG.1 hv;exact(Qj Q q (aat hi)).1 (L i hi)
  rcases B with rfl|rfl<;>simp[y,q,D]<;>exact hd
def Qk{vs:List Int}{tab:List Nat}(h:∀w∈tab,w<4294967296)(p:Int->Bool):cZ vs tab p<4294967296:=by
 simp only[cZ,aal]
 cases a:tab[idx vs p]? with
 | none=>simp
 | some w=>exact h w (aaF a)
def U5(a:bG G)(kind:Int)(fv gv vs:List Int)(ft gt:List Nat)(e f g:Option az)(x:V)(n:Nat)
  (h:ft.length=2^fv.length) (i:gt.length=2^gv.length) (j:∀w∈ft,w<4294967296) (k:∀w∈gt,w<4294967296)
  (l:fv.Sublist vs) (m:gv.Sublist vs) (b:vs.Nodup) (c:vs.length<=30) (d:n<2^31)
  (H:ae) (o:H=[some (.cells [.int .i64 kind]),some (.cells [.vs (ints .i64 fv) .no,.vs (ah .u32 ft) .no]),some (.cells [.vs (ints .i64 gv) .no,.vs (ah .u32 gt) .no]),e,some (.cells [.vs (ints .i64 vs) .no,x]),f,g]) :
  bD G (.F 108 [.int .i64 n,.ptr 0 0,.ptr 1 0,.ptr 4 0,.ptr 2 0] H (.int .u32 ((dg kind (cZ fv ft (iK vs n)) (cZ gv gt (iK vs n))).1:Nat)) H):=by
 subst o;refine eV a.acV (aab rfl) ?_;simp;refine aw (Ql a fv ft vs n h l b c d) ?_;simp;refine aw (Ql a gv gt vs n i m b c d) ?_;simp;refine aw (JD a.toef kind _ _ (Qk j _) (Qk k _)) ?_;simp
def oS(kind:Int)(fv gv:List Int)(ft gt:List Nat):Prop:=(kind=68\/kind=84\/kind=164)/\Right fv ft/\Right gv gt/\(eW fv gv).length<=4
def zFl{kind:Int}{a b:Nat}(h:kind=68\/kind=84\/kind=164)(d:a<4294967296)(c:b<4294967296):(dg kind a b).1<4294967296:=by
 rcases h with rfl|rfl|rfl<;>simp[dg]
 .exact Nat.or_lt_two_pow (n:=32) d c
 .exact Nat.and_lt_two_pow (n:=32) _ c
 .exact Nat.xor_lt_two_pow (n:=32) d c
def zDe(a:bG G)(kind:Int)(fv gv:List Int)(ft gt:List Nat)(q:fv.length<=9223372036854775807)(u:gv.length<=9223372036854775807)(s:ft.length<=9223372036854775807)(x:gt.length<=9223372036854775807)
  (B:∀w∈ft,w<4294967296) (C:∀w∈gt,w<4294967296) :
  ∃r,FP G 109 [.int .i64 kind,FV fv ft,FV gv gt] r /\
   ((¬oS kind fv gv ft gt/\r=.bf [FV [] [],.bool false]) \/
    (oS kind fv gv ft gt/\∃vs tab,r=.bf [FV vs tab,.bool true]/\Right vs tab/\(∀w∈tab,w<4294967296)/\∀p,cZ vs tab p=(dg kind (cZ fv ft p) (cZ gv gt p)).1)):=by
 refine Gr a.acW (aab rfl) ?_;simp[FV]
 by_cases c:kind=68\/kind=84\/kind=164
 case neg =>
  have P:kind≠68:=λe=>c (.inl e);have Q:kind≠84:=λe=>c (.inr (.inl e));have R:kind≠164:=λe=>c (.inr (.inr e));simp[P,Q,R,jY,oS]
 have S:∀b:Bool,tj fv ft=b->True:=λ_ _=>trivial;cases d:tj fv ft
 .have I:¬Right fv ft:=λh=>by rw[ER.2 h] at d;cases d
  rcases c with rfl|rfl|rfl<;>(simp;refine aw (xO a fv ft q s) ?_;simp[d,oS,I])
 cases g:tj gv gt
 .have I:¬Right gv gt:=λh=>by rw[ER.2 h] at g;cases g
  rcases c with rfl|rfl|rfl<;>(simp;refine aw (xO a fv ft q s) ?_;simp[d];refine aw (xO a gv gt u x) ?_;simp[g,oS,I])
 have i:=ER.1 d;have j:=ER.1 g;have rO:=zwS fv gv;have T:=i.1;have U:=j.1
 by_cases y:(eW fv gv).length<=4
 case neg =>
  rcases c with rfl|rfl|rfl<;>(simp;refine aw (xO a fv ft q s) ?_;simp[d];refine aw (xO a gv gt u x) ?_;simp[g];refine aw (LP a fv gv an) ?_;simp(disch:=omega)[bC,oS,y])
 have D:=zyZ fv gv i.up j.up;have E:=D.nodup;have J:fv.Sublist (eW fv gv):=JE i.up D λv f=>(Ac _ _).2 (.inl f);have K:gv.Sublist (eW fv gv):=JE j.up D λv f=>(Ac _ _).2 (.inr f);have W:oS kind fv gv ft gt:=⟨c,i,j,y⟩
 have ET:2^(eW fv gv).length<=16:=by rw[show 16=2^4 from rfl];exact aap aga y
 obtain⟨k,l,L,M,N,X,Y⟩:=zBi a (eW fv gv) ((aaL (2^(eW fv gv).length)).map λn=>(dg kind (cZ fv ft (iK (eW fv gv) n)) (cZ gv gt (iK (eW fv gv) n))).1) ir y E
 have z:∀p,cZ k l p=(dg kind (cZ fv ft p) (cZ gv gt p)).1:=λp=>by
  rw[X];have m:=EU (eW fv gv) p;have Z:cZ fv ft (iK (eW fv gv) (idx (eW fv gv) p))=cZ fv ft p:=zwU λv f=>zwT ((Ac _ _).2 (.inl f)) p;have e2:cZ gv gt (iK (eW fv gv) (idx (eW fv gv) p))=cZ gv gt p:=zwU λv f=>zwT ((Ac _ _).2 (.inr f)) p;rw[cZ];simp[aal,m,Z,e2]
 have O:Up k:=D.sublist M
 have F:Right k l:=by
  refine Right.of (Nat.le_trans M.length_le y) N O (λv f=>?_) Y
  rcases(Ac _ _).1 (M.subset f) with h|h
  .exact i.mem h
  .exact j.mem h
 have t:∀w∈l,w<4294967296:=λw t=>by
  obtain⟨n,H,rfl⟩:=abG.1 t;rw[zEa O.nodup N H,z];exact zFl c (Qk B _) (Qk C _)
 have o:oS kind fv gv ft gt/\∃vs tab,V.bf [FV k l,.bool true]=.bf [FV vs tab,.bool true]/\Right vs tab/\(∀w∈tab,w<4294967296)/\∀p,cZ vs tab p=(dg kind (cZ fv ft p) (cZ gv gt p)).1 :=
  ⟨W,k,l,rfl,F,t,z⟩
 rcases c with rfl|rfl|rfl
 .simp;refine aw (xO a fv ft q s) ?_;simp[d];refine aw (xO a gv gt u x) ?_;simp[g];refine aw (LP a fv gv an) ?_;simp(disch:=omega)[jW,uY,-aah]
  refine aN (2^(eW fv gv).length) (λn=>[(6,.ptr 3 0),(8,.ptr 4 0),(9,.fn 108 [.ptr 0 0,.ptr 1 0,.ptr 4 0,.ptr 2 0]),(47,.int .i64 (2^(eW fv gv).length:Nat)),(48,.int .i64 n)])
   (λn=>[some (.cells [.int .i64 68]),some (.cells [.vs (ints .i64 fv) .no,.vs (ah .u32 ft) .no]),some (.cells [.vs (ints .i64 gv) .no,.vs (ah .u32 gt) .no]),some (.cells [.vs [] .full,.vs [] .full]),
    some (.cells [.vs (ints .i64 (eW fv gv)) .no,.vs (ah .u32 ((aaL n).map λn=>(dg 68 (cZ fv ft (iK (eW fv gv) n)) (cZ gv gt (iK (eW fv gv) n))).1)) (.own 5)]),some (.zone n)])
   (λ_=>True) ?_ ?_
  .simp[au,ak,-aah]
  intro n H _
  by_cases m:n<2^(eW fv gv).length
  .simp(disch:=omega)[bC,-aah,-aad];refine kF (U5 a 68 fv gv (eW fv gv) ft gt _ _ _ _ n i.2.1 j.2.1 B C J K E an an _ rfl) (by simp[ak]) ?_;simp(disch:=omega)[aA,bF,ak,au,m,aaW,-aah,-aad]
  .have A:n=2^(eW fv gv).length:=an
   subst A;simp(disch:=omega)[-aah];refine aw L ?_;simp[FV];exact⟨o.1,k,l,⟨rfl,rfl⟩,F,t,z⟩
 .simp;refine aw (xO a fv ft q s) ?_;simp[d];refine aw (xO a gv gt u x) ?_;simp[g];refine aw (LP a fv gv an) ?_;simp(disch:=omega)[jW,uY,-aah]
  refine aN (2^(eW fv gv).length) (λn=>[(6,.ptr 3 0),(8,.ptr 4 0),(9,.fn 108 [.ptr 0 0,.ptr 1 0,.ptr 4 0,.ptr 2 0]),(47,.int .i64 (2^(eW fv gv).length:Nat)),(48,.int .i64 n)])
   (λn=>[some (.cells [.int .i64 84]),some (.cells [.vs (ints .i64 fv) .no,.vs (ah .u32 ft) .no]),some (.cells [.vs (ints .i64 gv) .no,.vs (ah .u32 gt) .no]),some (.cells [.vs [] .full,.vs [] .full]),
    some (.cells [.vs (ints .i64 (eW fv gv)) .no,.vs (ah .u32 ((aaL n).map λn=>(dg 84 (cZ fv ft (iK (eW fv gv) n)) (cZ gv gt (iK (eW fv gv) n))).1)) (.own 5)]),some (.zone n)])
   (λ_=>True) ?_ ?_
  .simp[au,ak,-aah]
  intro n H _
  by_cases m:n<2^(eW fv gv).length
  .simp(disch:=omega)[bC,-aah,-aad];refine kF (U5 a 84 fv gv (eW fv gv) ft gt _ _ _ _ n i.2.1 j.2.1 B C J K E an an _ rfl) (by simp[ak]) ?_;simp(disch:=omega)[aA,bF,ak,au,m,aaW,-aah,-aad]
  .have A:n=2^(eW fv gv).length:=an
   subst A;simp(disch:=omega)[-aah];refine aw L ?_;simp[FV];exact⟨o.1,k,l,⟨rfl,rfl⟩,F,t,z⟩
 .simp;refine aw (xO a fv ft q s) ?_;simp[d];refine aw (xO a gv gt u x) ?_;simp[g];refine aw (LP a fv gv an) ?_;simp(disch:=omega)[jW,uY,-aah]
  refine aN (2^(eW fv gv).length) (λn=>[(6,.ptr 3 0),(8,.ptr 4 0),(9,.fn 108 [.ptr 0 0,.ptr 1 0,.ptr 4 0,.ptr 2 0]),(47,.int .i64 (2^(eW fv gv).length:Nat)),(48,.int .i64 n)])
   (λn=>[some (.cells [.int .i64 164]),some (.cells [.vs (ints .i64 fv) .no,.vs (ah .u32 ft) .no]),some (.cells [.vs (ints .i64 gv) .no,.vs (ah .u32 gt) .no]),some (.cells [.vs [] .full,.vs [] .full]),
    some (.cells [.vs (ints .i64 (eW fv gv)) .no,.vs (ah .u32 ((aaL n).map λn=>(dg 164 (cZ fv ft (iK (eW fv gv) n)) (cZ gv gt (iK (eW fv gv) n))).1)) (.own 5)]),some (.zone n)])
   (λ_=>True) ?_ ?_
  .simp[au,ak,-aah]
  intro n H _
  by_cases m:n<2^(eW fv gv).length
  .simp(disch:=omega)[bC,-aah,-aad];refine kF (U5 a 164 fv gv (eW fv gv) ft gt _ _ _ _ n i.2.1 j.2.1 B C J K E an an _ rfl) (by simp[ak]) ?_;simp(disch:=omega)[aA,bF,ak,au,m,aaW,-aah,-aad]
  .have A:n=2^(eW fv gv).length:=an
   subst A;simp(disch:=omega)[-aah];refine aw L ?_;simp[FV];exact⟨o.1,k,l,⟨rfl,rfl⟩,F,t,z⟩
def pj(r:List Nat):Int->Nat:=λv=>r.getD v.toNat 0
def zDP(w i:Nat):w &&& 2^i=2^i*(w.testBit i).toNat:=by
 refine abb λj=>?_;rw[Nat.testBit_and,Nat.testBit_two_pow,Nat.testBit_two_pow_mul]
 by_cases h:i=j
 .subst h;cases w.testBit i<;>simp
 .by_cases a:i<=j
  .have:(w.testBit i).toNat<2^(j-i):=abV (by cases w.testBit i<;>simp:(w.testBit i).toNat<2^1) (aap aga an);rw[abA this];simp[h]
  .simp[h,a]
def zDf{b:Nat}(c:b<4294967296):jJ .u32 (b:Int) 1=((b%2:Nat):Int):=by have:=Lm (a:=b) (b:=1) c aga;rw[show((1:Nat):Int)=1 from rfl] at this;rw[this,show(1:Nat)=2^1-1 from rfl,abc]
def zFm{b:Nat}(a:b<9223372036854775808):eO .i64 (b:Int)=(b:Int):=GN a
def zGx{i:Nat}(hi:i<32):je .u32 1 (i:Int)=((2^i:Nat):Int):=by have:=Li (a:=1) (j:=i) an;rw[Nat.one_mul,ab9 (show 2^i<4294967296 from abI (a:=2) (n:=32) aga hi)] at this;exact this
def zvV{f:Nat->Bool}{i:Nat}(w:Nat)(h:f i=w.testBit i):gB f i ||| (w &&& 2^i)=gB f (i+1):=by rw[zDP,gB,h,ack,<-Nat.two_pow_add_eq_or_of_lt (uQ f i)];omega
def zDQ(k:iT G)(vs:List Int)(tab:List Nat)(r:List Nat)(m:vs.length<=9223372036854775807)(o:tab.length<=9223372036854775807)
  (p:∀w∈tab,w<4294967296) (D:r.length=34) (q:∀w∈r,w<4294967296) :
  FP G 110 [FV vs tab,.agg (av .u32 r)] (.bf [.int .u32 (if tj vs tab then(val vs tab (pj r):Nat) else(0:Nat)),.bool (tj vs tab)]):=by
 have s:bG G:=k.tobG;refine bA k.acX (aab rfl) ?_;simp[FV];refine aw (xO s vs tab m o) ?_;cases t:tj vs tab
 .simp
 have R:=ER.1 t;have E:=R.1;simp
 refine aN 32 (λi=>[(2,.ptr 0 0),(3,.ptr 1 0),(6,.int .u32 (gB (λi=>(cZ vs tab λv=>(pj r v).testBit i).testBit i) i:Nat)),(14,.int .i64 i)])
  (λ_=>[some (.cells [.vs (ints .i64 vs) .no,.vs (ah .u32 tab) .no]),some (.cells (av .u32 r))]) (λ_=>True) ?_ ?_
 .simp[au,ak,gB]
 intro i hi _
 by_cases c:i<32
 .simp(disch:=omega)[bC,-aad]
  refine aN vs.length (λj=>[(2,.ptr 0 0),(3,.ptr 1 0),(6,.int .u32 (gB (λi=>(cZ vs tab λv=>(pj r v).testBit i).testBit i) i:Nat)),(7,.int .i64 i),(8,.int .i64 (idx (vs.take j) (λv=>(pj r v).testBit i):Nat)),(14,.int .i64 i),(18,.vs (ints .i64 vs) .no),(19,.int .i64 vs.length),(20,.int .i64 j)])
   (λ_=>[some (.cells [.vs (ints .i64 vs) .no,.vs (ah .u32 tab) .no]),some (.cells (av .u32 r))]) (λ_=>True) ?_ ?_
  .simp[au,ak,idx]
  intro j F _
  by_cases d:j<vs.length
  .have H:=R.mem (aaI d)
   have e:vs[j].toNat<r.length:=an
   have u:=sn .u32 r vs[j].toNat e;have g:=q _ (aaI e);have hd:r[vs[j].toNat]/2^i<4294967296:=aaA (aaM _ _) g
   have b:idx (vs.take j) (λv=>(pj r v).testBit i)<2^j:=by have:=EU (vs.take j) (λv=>(pj r v).testBit i);rwa[aau,acb an] at this
   have x:2^j<=2^30:=aap aga an
   have l:r[vs[j].toNat]/2^i%2<=1:=an
   have I:r[vs[j].toNat]/2^i%2*2^j<=1*2^j:=Nat.mul_le_mul_right _ l
   have y:idx (vs.take (j+1)) (λv=>(pj r v).testBit i)=idx (vs.take j) (λv=>(pj r v).testBit i) ||| r[vs[j].toNat]/2^i%2*2^j:=by
    rw[zzC b l,aaR,U8,aat d,aau,acb an,Aa]
    have:pj r vs[j]=r[vs[j].toNat]:=by simp[pj,aal,e]
    simp only[Option.toList_some,idx,this,Nat.mul_zero,Nat.add_zero]
   simp(disch:=omega)[bC,jW,mf,aA,u,zV,zDf hd,zFm,Px,Gq,bF,au,ak,d,y,-aad,-aaZ,-aah,-aao,-aas,-abh]
  .have h:j=vs.length:=an
   subst h;have b:=EU vs (λv=>(pj r v).testBit i);rw[<-R.2.1] at b;have z:=p _ (aaI b);have A:2^i<4294967296:=abI (a:=2) (n:=32) aga c;have J:gB (λi=>(cZ vs tab λv=>(pj r v).testBit i).testBit i) i<4294967296:=Nat.lt_trans (uQ _ i) A;have K:tab[idx vs (λv=>(pj r v).testBit i)] &&& 2^i<4294967296:=aaA Nat.and_le_left z
   have B:cZ vs tab (λv=>(pj r v).testBit i)=tab[idx vs (λv=>(pj r v).testBit i)]:=by simp[cZ,aal,b]
   have C:=zvV (f:=λi=>(cZ vs tab λv=>(pj r v).testBit i).testBit i) (i:=i) (tab[idx vs (λv=>(pj r v).testBit i)]) (by simp only[B]);simp(disch:=omega)[jW,mf,zGx c,Lm,yq,C,bF,au,ak,c,-aad,-aah]
 .have h:i=32:=an
  subst h;simp[val]
def iV(vs:List Int)(p:Int->Bool):List Nat:=(aaL 34).map fun(i:Nat)=>if(i:Int)∈vs/\p (i:Int)=true then 4294967295 else 0
def zBj(p:Int->Bool):iV [] p=aR 34:=by simp[iV,aR];rfl
def zyQ{vs:List Int}(f:vs.Nodup)(p:Int->Bool){j:Nat}(c:j<vs.length)(g:0<=vs[j]) :
  iV (vs.take (j+1)) p=(iV (vs.take j) p).set vs[j].toNat (if p vs[j] then 4294967295 else 0):=by
 refine List.ext_getElem (by simp[iV]) λi h k=>?_;simp only[iV,List.getElem_map,List.getElem_range,List.getElem_set]
 have d:vs.take (j+1)=vs.take j++[vs[j]]:=by rw[aaR,aat c];rfl
 have a:((i:Int)∈vs.take (j+1))↔((i:Int)∈vs.take j\/(i:Int)=vs[j]):=by rw[d];simp only[acd,abX]
 by_cases e:vs[j].toNat=i
 .rw[if_pos e]
  have:(i:Int)=vs[j]:=an
  have b:=a.2 (.inr this);rw[this] at b;simp only[this,b,true_and]
 .rw[if_neg e]
  have:¬(i:Int)=vs[j]:=an
  simp only[a,this,or_false]
def LR(fv gv:List Int)(ft gt:List Nat):Option Nat:=(aaL (2^(eW fv gv).length)).find? λn=>cZ fv ft (iK (eW fv gv) n) !=cZ gv gt (iK (eW fv gv) n)
noncomputable def xP(fv gv:List Int)(ft gt:List Nat):List Nat×Bool :=
 if tj fv ft=true/\tj gv gt=true then(match LR fv gv ft gt with
  | some n=>(iV (eW fv gv) (iK (eW fv gv) n),true)
  | none=>(aR 34,false)) else(aR 34,false)
def zuc(C:eg G)(fv gv:List Int)(ft gt:List Nat)(J:fv.length<=9223372036854775807)(K:gv.length<=9223372036854775807)(L:ft.length<=9223372036854775807)(N:gt.length<=9223372036854775807)
  (X:∀w∈ft,w<4294967296) (Y:∀w∈gt,w<4294967296) :
  FP G 112 [FV fv ft,FV gv gt] (.bf [.agg (av .u32 (xP fv gv ft gt).1),.bool (xP fv gv ft gt).2]):=by
 have c:bG G:=C.tobG;refine bA C.acY (aab rfl) ?_;simp[FV];refine aw (xO c fv ft J L) ?_;cases d:tj fv ft
 .simp[xP,d]
 simp[-aae];refine aw (xO c gv gt K N) ?_;cases k:tj gv gt
 .simp[xP,d,k]
 have e:=ER.1 d;have f:=ER.1 k;have Z:=zwS fv gv;have O:=e.1;have P:=f.1;simp[-aae];refine aw (LP c fv gv an) ?_;have q:=zyZ fv gv e.up f.up;have l:=q.nodup;have Q:fv.Sublist (eW fv gv):=JE e.up q λv g=>(Ac _ _).2 (.inl g);have R:gv.Sublist (eW fv gv):=JE f.up q λv g=>(Ac _ _).2 (.inr g)
 have S:2^(eW fv gv).length<=256:=by rw[show 256=2^8 from rfl];exact aap aga an
 have T:∀v∈eW fv gv,0<=v/\v<34:=λv g=>by
  rcases(Ac _ _).1 g with h|h
  .exact e.mem h
  .exact f.mem h
 generalize r:eW fv gv=M at *;simp(disch:=omega)[jW,uY,-aah]
 refine aN (2^M.length) (λn=>[(2,.ptr 0 0),(3,.ptr 1 0),(4,.ptr 2 0),(6,.ptr 3 0),(7,.vs (ints .i64 M) .no),(27,.int .i64 (2^M.length:Nat)),(28,.int .i64 n)])
  (λn=>[some (.cells [.vs (ints .i64 fv) .no,.vs (ah .u32 ft) .no]),some (.cells [.vs (ints .i64 gv) .no,.vs (ah .u32 gt) .no]),some (.cells (av .u32 (aR 34))),some (.cells (av .u32 (aR 34)))])
  (λn=>∀m,m<n->cZ fv ft (iK M m)=cZ gv gt (iK M m)) ?_ ?_
 .simp[au,ak,-aah]
 intro n hn s
 by_cases D:n<2^M.length
 .simp(disch:=omega)[bC,-aah,-aad];refine aw (Ql c fv ft M n e.2.1 Q l an an) ?_;simp[-aah,-aad];refine aw (Ql c gv gt M n f.2.1 R l an an) ?_
  by_cases t:cZ fv ft (iK M n)=cZ gv gt (iK M n)
  .simp(disch:=omega)[t,bF,au,ak,D,-aah,-aad];intro m b
   by_cases U:m=n
   .subst U;exact t
   .exact s m an
  .have u:LR fv gv ft gt=some n:=by rw[LR,r,abr];exact⟨by simpa using t,by simpa using D,λm b=>by simpa using s m b⟩
   have x:xP fv gv ft gt=(iV M (iK M n),true):=by simp[xP,d,k,u,r]
   simp(disch:=omega)[aL,-aah,-aad]
   refine aN M.length (λj=>[(4,.ptr 2 0),(6,.ptr 3 0),(8,.int .i64 n),(40,.vs (ints .i64 M) .no),(41,.int .i64 M.length),(42,.int .i64 j)])
    (λj=>[some (.cells [.vs (ints .i64 fv) .no,.vs (ah .u32 ft) .no]),some (.cells [.vs (ints .i64 gv) .no,.vs (ah .u32 gt) .no]),some (.cells (av .u32 (aR 34))),some (.cells (av .u32 (iV (M.take j) (iK M n))))])
    (λj=>True) ?_ ?_
   .simp[au,ak,zBj]
   intro j hj _
   by_cases o:j<M.length
   .have b:=T _ (aaI o)
    have a:(iV (M.take j) (iK M n)).length=34:=by simp[iV]
    have E:=xJ .u32 (iV (M.take j) (iK M n)) M[j].toNat;have F:n/2^j<9223372036854775808:=aaA (aaM _ _) an;have i:=zyQ l (iK M n) o b.1
    have W:iK M n M[j]=n.testBit j:=by simp only[iK];rw[List.Nodup.idxOf_getElem l]
    rw[W] at i;have p:=Aa n j;cases H:n.testBit j
    .rw[H] at i p;have y:=E 0 an
     have z:da .u32 4294967295 (eO .u32 0)=0:=by decide
     simp(disch:=omega)[bC,jW,mf,zH,qA F,p,bF,au,ak,o,i,aA,a,z,-aah,-aad,-aas,-aao];have A:a_ 4 ((av .u32 (iV (M.take j) (iK M n))).take M[j].toNat++V.int .u32 0::(av .u32 (iV (M.take j) (iK M n))).drop (M[j].toNat+1))=av .u32 ((iV (M.take j) (iK M n)).set M[j].toNat 0):=(congrArg (a_ 4) y).trans (zuQ 4 _ _);exact A
    .rw[H] at i p;have y:=E 4294967295 an
     have z:da .u32 4294967295 (eO .u32 1)=4294967295:=by decide
     simp(disch:=omega)[bC,jW,mf,zH,qA F,p,bF,au,ak,o,i,aA,a,z,-aah,-aad,-aas,-aao];have A:a_ 4 ((av .u32 (iV (M.take j) (iK M n))).take M[j].toNat++V.int .u32 4294967295::(av .u32 (iV (M.take j) (iK M n))).drop (M[j].toNat+1))=av .u32 ((iV (M.take j) (iK M n)).set M[j].toNat 4294967295):=(congrArg (a_ 4) y).trans (zuQ 4 _ _);exact A
   .have B:j=M.length:=an
    subst B
    have I:(iV M (iK M n)).length=34:=by simp[iV]
    simp(disch:=omega)[x,I,e_ I]
 .have B:n=2^M.length:=an
  subst B
  have u:LR fv gv ft gt=none:=by
   rw[LR,r,List.find?_range_eq_none]
   exact λm b=>by simpa using s m b
  have x:xP fv gv ft gt=(aR 34,false):=by simp[xP,d,k,u]
  simp(disch:=omega)[x,-aah]
def UU{a b:Nat}(h:a+b<4294967296):aB .u32 (a:Int) (b:Int)=((a+b:Nat):Int):=by unfold aB;rw[<-aad];exact uN h
def LO{a b:Nat}(h:a*b<4294967296):da .u32 (a:Int) (b:Int)=((a*b:Nat):Int):=by unfold da;rw[<-aaZ];exact uN h
def EV:∀{k1 k2:List Kd} {a b c d:List V} {x y:Bool},cB k1 a b=some x->cB k2 c d=some y->cB (k1++k2) (a++c) (b++d)=some (x&&y)
 | [],k2,[],[],c,d,x,y,e,f=>by simp only[cB,abB.injEq] at e;subst e;simpa using f
 | [],_,[],_::_,_,_,_,_,h,_=>by simp[cB] at h
 | [],_,_::_,_,_,_,_,_,h,_=>by simp[cB] at h
 | _::_,_,[],_,_,_,_,_,h,_=>by simp[cB] at h
 | _::_,_,_::_,[],_,_,_,_,h,_=>by simp[cB] at h
 | k::k1,k2,a::as,b::j,c,d,x,y,e,f=>by
  simp only[cB] at e;split at e
  case h_2=>cases e
  rename_i u v g i;simp only[abB.injEq] at e;subst e;simp only[aaK,cB,g,EV i f,Bool.and_assoc]
def GO(k:IntKind):∀{n:Nat} {a b:List Nat},a.length=n->b.length=n->cB (aam n .int) (av k a) (av k b)=some (decide (a=b))
 | 0,[],[],_,_=>rfl
 | 0,_::_,_,h,_=>by simp at h
 | 0,[],_::_,_,h=>by simp at h
 | n+1,[],_,h,_=>by simp at h
 | n+1,_::_,[],_,h=>by simp at h
 | n+1,x::a,y::b,c,d=>by
  have e:=GO k (n:=n) (a:=a) (b:=b) (by simpa using c) (by simpa using d);rw[aaH];show cB (.int::aam n .int) (.int k (x:Int)::av k a) (.int k (y:Int)::av k b)=_;simp only[cB,qi,if_true,e,abB.injEq];rw[aaO];simp
def LV(k:IntKind)(x y:Int):cB [.int] [.int k x] [.int k y]=some (decide (x=y)):=by
 simp only[cB,qi,if_true,Bool.and_true]
 congr 1
def Vb{a b:Nd}(d:a.ok)(e:b.ok):cB (aam 60 .int) a.cs b.cs=some (decide (a=b)):=by
 have h:=EV (LV .i64 a.kind b.kind) (EV (GO .u32 d.1 e.1) (EV (LV .i64 a.n b.n) (EV (GO .i64 d.2.1 e.2.1) (EV (GO .u32 d.2.2 e.2.2)
  (EV (LV .i64 a.op b.op) (EV (LV .i64 a.x b.x) (LV .i64 a.y b.y)))))))
 have i:aam 60 Kd.int=[Kd.int]++(aam 35 .int++([.int]++(aam 4 .int++(aam 16 .int++([.int]++([.int]++[.int])))))):=rfl;rw[i]
 have g:∀c:Nd,c.cs=[.int .i64 (c.kind:Int)]++(av .u32 c.f++([.int .i64 (c.n:Int)]++(av .i64 c.vars++(av .u32 c.tab++([.int .i64 c.op]++([.int .i64 (c.x:Int)]++[.int .i64 (c.y:Int)])))))):=λc=>by simp[Nd.cs]
 rw[g a,g b,h]
 congr 1
 rw[aaO];cases a;cases b;simp
def xQ(i:Nat):List Nd->List (V×V)
 | []=>[]
 | a::L=>(.agg a.cs,.int .i64 (i:Int))::xQ (i+1) L
def ents(L:List Nd):List (V×V):=xQ 0 L
def zsw(a:Nd):∀(L:List Nd) (i:Nat),xQ i (L++[a])=xQ i L++[(.agg a.cs,.int .i64 ((i+L.length:Nat):Int))]
 | [],i=>by simp[xQ]
 | b::L,i=>by
  have:=zsw a L (i+1);simp only[aaK,xQ,this,ab_];rw[show i+1+L.length=i+(L.length+1) by omega]
def zue{a:Nd}(c:a.ok):∀{L:List Nd} (i:Nat),(∀x∈L,x.ok)->a∈L->j0 (.row (aam 60 .int)) (.agg a.cs) (xQ i L) i=some (some (i+L.idxOf a,.int .i64 ((i+L.idxOf a:Nat):Int)))
 | [],i,_,h=>by cases h
 | b::L,i,d,h=>by
  simp only[xQ,j0,j4,Vb c (d b ir)]
  by_cases e:a=b
  .subst e;simp
  .have f:a∈L:=by simpa[e] using h
   have g:=zue c (i+1) (λx j=>d x (by simp[j])) f
   have k:(b::L).idxOf a=L.idxOf a+1:=by rw[List.idxOf_cons,beq_false_of_ne (Ne.symm e)];rfl
   simp only[e,decide_false,g,k,show i+1+L.idxOf a=i+(L.idxOf a+1) from an]
def zsx{a:Nd}(c:a.ok):∀{L:List Nd} (i:Nat),(∀x∈L,x.ok)->a∉L->j0 (.row (aam 60 .int)) (.agg a.cs) (xQ i L) i=some none
 | [],i,_,_=>rfl
 | b::L,i,d,h=>by
  simp only[abm,not_or] at h;simp only[xQ,j0,j4,Vb c (d b ir),h.1,decide_false];exact zsx c (i+1) (λx e=>d x (by simp[e])) h.2
def rR(L:List Nd):List (List V):=L.map Nd.cs
def yD(L:List Nd)(z m:Nat):az:=.cells [.vs (rR L) (.own z),.mp m]
structure Bk (H:ae) (b z m:Nat) (L:List Nd):Prop where
 hb:H[b]?=some (some (yD L z m))
 hz:H[z]?=some (some (.zone L.length))
 hm:H[m]?=some (some (.map (ents L)))
 shut:gV H
 ok:∀a∈L,a.ok
 small:L.length<=1000000
def dw(H:ae)(b z m:Nat)(L:List Nd):ae:=((H.set b (some (yD L z m))).set z (some (.zone L.length))).set m (some (.map (ents L)))
def rS(H:ae)(b z m:Nat)(L:List Nd):(dw H b z m L).length=H.length:=by simp[dw]
section
variable {H:ae} {b z m:Nat} {L L':List Nd}
def Bk.bz(h:Bk H b z m L):b≠z:=λe=>by have a:=h.hb;rw[e,h.hz] at a;simp[yD] at a
def Bk.bm(h:Bk H b z m L):b≠m:=λe=>by have a:=h.hb;rw[e,h.hm] at a;simp[yD] at a
def Bk.zm(h:Bk H b z m L):z≠m:=λe=>by have a:=h.hz;rw[e,h.hm] at a;simp at a
def Bk.lb(h:Bk H b z m L):b<H.length:=(aag.1 h.hb).1
def Bk.lz(h:Bk H b z m L):z<H.length:=(aag.1 h.hz).1
def Bk.lm(h:Bk H b z m L):m<H.length:=(aag.1 h.hm).1
def CV{α:Type}{l:List α}{i:Nat}{a:α}(h:l[i]?=some a):l.set i a=l:=by
 apply aa2;intro j;rw[aa3]
 by_cases e:i=j
 .subst e;rw[if_pos rfl,if_pos (aag.1 h).1,h]
 .rw[if_neg e]
def Bk.fM(h:Bk H b z m L):dw H b z m L=H:=by unfold dw;rw[CV h.hb,CV h.hz,CV h.hm]
def Vd(n:Nat):∀(L:List Nd) (i:Nat),(xQ i L).map (λp=>(p.1.cl n,p.2.cl n))=xQ i L
 | [],i=>rfl
 | a::L,i=>by
  have b:=Vd n L (i+1)
  have c:a_ n a.cs=a.cs:=by rw[iW];simp[Nd.cs,av,abo,V.cl]
  simp only[xQ,aaV,V.cl,c,b]
def CW{α β:Type}(f:α->β):∀(l:List α) (i:Nat) (a:α),(l.set i a).map f=(l.map f).set i (f a):=λl i a=>List.map_set
def Bk.uZ(h:Bk H b z m L)(L':List Nd):gV (dw H b z m L'):=by
 intro n a;rw[rS] at a;have c:=h.shut n a;have g:=h.lz;have i:=h.lm;unfold dw;rw[CW,CW,CW,c]
 have d:abd (az.cl n) (some (yD L' z m))=some (yD L' z m):=by simp[yD,az.cl,a_,V.cl,Tk.cl,show z<n from an,show m<n from an]
 have e:abd (az.cl n) (some (az.zone L'.length))=some (.zone L'.length):=rfl
 have f:abd (az.cl n) (some (az.map (ents L')))=some (.map (ents L')):=by simp only[ace,az.cl,ents,Vd]
 rw[d,e,f]
def Bk.GQ(h:Bk H b z m L)(c:∀a∈L',a.ok)(d:L'.length<=1000000):Bk (dw H b z m L') b z m L':=by
 have e:=h.bz;have f:=h.bm;have g:=h.zm;refine⟨?_,?_,?_,h.uZ L',c,d⟩
 .unfold dw;rw[aaq f.symm,aaq e.symm,aaP h.lb]
 .unfold dw;rw[aaq g.symm,aaP (by simp[h.lz])]
 .unfold dw;rw[aaP (by simp[h.lm])]
def Bk.app(h:Bk H b z m L){r:ae}(a:∀n,r.map (abd (az.cl n))=r):Bk (H++r) b z m L :=
 ⟨by rw[aaf h.lb];exact h.hb,by rw[aaf h.lz];exact h.hz,by rw[aaf h.lm];exact h.hm,h.shut.app a,h.ok,h.small⟩
def Bk.bW(h:Bk H b z m L)(r:ae)(L':List Nd):dw (H++r) b z m L'=dw H b z m L'++r:=by unfold dw;rw[aaG _ _ h.lb,aaG _ _ (by simp[h.lz]),aaG _ _ (by simp[h.lm])]
def Bk.lI(h:Bk H b z m L)(c a:List Nd):dw (dw H b z m c) b z m a=dw H b z m a:=by
 have d:=h.bz;have e:=h.bm;have f:=h.zm;apply aa2;intro i;unfold dw;simp only[aa3,abx]
 repeat' split
 all_goals first|rfl|omega
end
def iz(L:List Nd)(a:Nd):List Nd:=if a∈L then L else L++[a]
def zsy{L:List Nd}{a:Nd}(h:a∉L):L.idxOf a=L.length:=List.idxOf_eq_length h
open Go Go.RowKit
variable {G:aP}
variable {H:ae} {b z m:Nat} {L:List Nd}
def QX(a:List jj)(R:V->ae->Prop)(x:Ex)(b:Env)(H1:ae):Prop:=(x=.nx\/x=.ret)/\∃vs,u0 b H1 a=some vs/\R (u4 vs) H1
@[simp] theorem adp (a:List jj) (R:V->ae->Prop) (b:Env) (H1:ae):QX a R .nx b H1=∃vs,u0 b H1 a=some vs/\R (u4 vs) H1:=by simp[QX]
@[simp] theorem Ve (a:List jj) (R:V->ae->Prop) (b:Env) (H1:ae):QX a R .ret b H1=∃vs,u0 b H1 a=some vs/\R (u4 vs) H1:=by simp[QX]
def SF(G:aP)(f:Nat)(args:List V)(H:ae)(r:V)(H':ae):Prop:=∃a H1,bD G (.F f args H a H1)/\a.cl H.length=r/\ak H.length H1=H'
def j_{f b:Nat}{body:ba}{a:List jj}{args:List V}{r:V}{H H':ae}(d:G f=some ⟨b,body,a⟩)(e:args.length<=b)
  (h:W G body [] (gP (pU 0 args)) H (QX a λg H1=>g.cl H.length=r/\ak H.length H1=H')):SF G f args H r H':=by
 obtain⟨x,m,H1,c,i,vs,j,k,l⟩:=h;rw[<-LW] at c;exact⟨_,_,.fn d e c i j,k,l⟩
def cN{f:Nat}{args:List V}{r:V}{H H':ae}{base:Nat}{d:Option Nat}{os:List aF}{K:List Kt}{e:Env}{Q:Ex->Env->ae->Prop}(h:SF G f args H r H')
  (a:WO G base os K (e.put d r) H' Q):Qn G f args base d os K e H Q:=by
 obtain⟨i,H1,b,c,g⟩:=h;refine yF b ?_;rw[c,g];exact a
def zyR{f:Nat}{args:List V}{r:V}{H H':ae}{base:Nat}{d:Option Nat}{os:List aF}{K:List Kt}{e:Env}{Q:Ex->Env->ae->Prop}(h:SF G f args H r H')(b:LX base args H H')
  (c:WO G base os K (e.put d r) H' Q):zDl G f args base d os K e H Q:=by
 obtain⟨g,H1,i,j,a⟩:=h;exact⟨g,H1,i,by rw[a];exact b,by rw[j,a];exact c⟩
def Bk.back(h:Bk H b z m L)(L':List Nd)(r:ae):ak H.length (dw H b z m L'++r)=dw H b z m L':=by have:=(h.uZ L').back r;rwa[rS] at this
@[simp] theorem zGy (L:List Nd):(rR L).length=L.length:=by simp[rR]
theorem Vf{x:Nat}{a:Nd}(h:L[x]?=some a):(rR L)[x]?=some a.cs:=by simp[rR,h]
def zBk(L:List Nd)(a:Nd):rR L++[a.cs]=rR (L++[a]):=by simp[rR]
def zyS(h:∀a∈L,a.ok):(∀f∈rR L,f.length=60):=by intro f b;simp only[rR,acg] at b;obtain⟨a,c,rfl⟩:=b;exact Nd.len (h a c)
def Bk.cM(h:Bk H b z m L):H[b]?=some (some (.cells [.vs (rR L) (.own z),.mp m])):=h.hb
def zFn[aM G](h:Bk H b z m L):bD G (.F 257 [.ptr b 0] H (.int .i64 L.length) H):=by refine eV aM.acZ (aab rfl) ?_;have a:=h.cM;simp[a]
def bO(L:List Nd)(i:Int):Bool:=decide (0<=i/\i<(L.length:Int))
def zFo[aM G](i:Int)(h:Bk H b z m L):bD G (.F 258 [.ptr b 0,.int .i64 i] H (.bool (bO L i)) H):=by
 refine eV aM.ac0 (aab rfl) ?_;have c:=h.shut.self
 by_cases a:0<=i
 .simp[a];refine yF (zFn h) ?_;simp[c,bO,a]
 .simp[a,bO]
def zBl[aM G](x:Nat)(a:Nd)(h:Bk H b z m L)(e:L[x]?=some a):bD G (.F 264 [.ptr b 0,.int .i64 x] H (.bf [.agg (av .u32 a.f),.bool (decide (a.kind=0))]) (H++[some (.cells (av .u32 a.f))])):=by
 refine eV aM.ac1 (aab rfl) ?_;have i:=h.lb;have j:=h.cM
 have l:∀r:ae,(H++r)[b]?=some (some (.cells [.vs (rR L) (.own z),.mp m])):=λr=>by rw[aaf i];exact j
 have n:=Vf e;have c:=h.ok a (aaF e);have o:=Nd.len c;have p:a.cs.take 1=[.int .i64 (a.kind:Int)]:=rfl
 have d:(a.cs.drop 1).take 35=av .u32 a.f:=by show(av .u32 a.f++_).take 35=_;rw[aaz (by simp[c.1])]
 have q:a.cs.tail.take 35=av .u32 a.f:=by rw[<-abn];exact d
 have hd:(av .u32 (aR 35)).drop 35=[]:=rfl
 have s:b≠H.length:=an
 have u:(H.length=b)=False:=af9;have g:=c.1
 have t:((a.kind:Int)==0)=decide (a.kind=0):=by rw[aaO];simp
 simp[l,n,o,p,q,hd,s,g,e_ (k:=.u32) g,t]
def JF[aM G](a:Nd)(c:a.ok)(h:Bk H b z m L)(hs:L.length<1000000):SF G 259 [.ptr b 0,.agg a.cs] H (.int .i64 (L.idxOf a:Nat)) (dw H b z m (iz L a)):=by
 have E:=h.lb;have F:=h.lz;have w:=h.lm;have A:=h.cM;have l:=h.bz;have I:=h.bm;have n:=h.zm;have o:=Nd.len c;have p:a.cs.take 60=a.cs:=aai an;have q:=Vb c c;simp only[decide_true] at q;have B:(H.length+1<=b)=False:=af9;have s:(H.length+1<=H.length)=False:=af9;have J:(H.length=b)=False:=af9;have M:(H.length=m)=False:=af9
 have N:(H.length=z)=False:=af9
 have C:∀r:ae,(H++r)[b]?=some (some (.cells [.vs (rR L) (.own z),.mp m])):=λr=>by rw[aaf E];exact A
 have d:∀r:ae,(H++r)[m]?=some (some (.map (ents L))):=λr=>by rw[aaf w];exact h.hm
 have su:∀r:ae,(H++r)[z]?=some (some (.zone L.length)):=λr=>by rw[aaf F];exact h.hz
 refine j_ aM.ac2 (aab rfl) ?_
 by_cases e:a∈L
 .have k:=zue c 0 h.ok e;simp only[ach] at k;have t:=h.shut.back
  have O:dw H b z m (iz L a)=H:=by rw[iz,if_pos e,h.fM]
  simp[-aae,C,d,o,p,q,ents,k,B,s,t,O]
 .have k:=zsx c 0 h.ok e;have P:∀(x:Option az) (r:ae),(H++r).set m x=H.set m x++r:=λx r=>aaG _ _ w;obtain⟨K,g⟩:=ax (H.set m (some (.map (ents (L++[a])))))
  have Q:K.length=H.length:=by rw[g,abx]
  have R:xQ 0 L++[(V.agg a.cs,V.int .i64 (L.length:Int))]=ents (L++[a]):=by rw[ents,zsw,ach]
  have D:∀r:ae,(K++r)[b]?=some (some (.cells [.vs (rR L) (.own z),.mp m])):=λr=>by
   rw[aaf an,g,aaq I.symm];exact A
  have S:∀r:ae,(K++r)[z]?=some (some (.zone L.length)):=λr=>by
   rw[aaf an,g,aaq n.symm];exact h.hz
  have T:∀(x:Option az) (r:ae),(K++r).set z x=K.set z x++r:=λx r=>aaG _ _ an
  have u:∀(x:Option az) (r:ae),(K.set z x++r)[b]?=some (some (.cells [.vs (rR L) (.own z),.mp m])):=λx r=>by
   rw[aaf (by simp;omega),aaq l.symm];have:=D [];simpa using this
  have U:∀(x y:Option az) (r:ae),(K.set z x++r).set b y=(K.set z x).set b y++r:=λx y r=>aaG _ _ (by simp;omega);have j:=zsy e;have W:=zyS h.ok;have X:((L.length+1)*280<=140737488355328)=True:=af8;have Y:(∀f∈rR L,f.length=60)=True:=eq_true W
  have Z:a.cs.all V.pure=true:=by simp[Nd.cs,av,V.pure]
  have sv:rU.cs.length=60:=rfl;have dV:=zBk L a
  have v:(K.set z (some (.zone (L.length+1)))).set b (some (.cells [.vs (rR (L++[a])) (.own z),.mp m]))=dw H b z m (iz L a):=by
   rw[iz,if_neg e,dw,g,yD,abY];apply aa2;intro i;simp only[aa3,abx]
   repeat' split
   all_goals first|rfl|omega
  have t:=h.back (iz L a)
  have kh:∀r:ae,(K++r)[H.length]?=r[0]?:=λr=>by rw[<-Q,aan (ab8 _),abt]
  simp[-aae,C,d,o,p,q,ents,k,B,s];simp[-aae,P,R,<-g,D,S,o,p,s,X,Y,Z,nz,sv,kh,T,u,U,dV,v,t,j]
def rV(o:Nat->Nat->Nat)(f g:List Nat)(i:Nat):List Nat:=aar o (f.take i) (g.take i)++f.drop i
section
variable {o:Nat->Nat->Nat} {f g:List Nat} {i n:Nat}
def zwC(a:f.length=n)(b:g.length=n):(rV o f g i).length=n:=by simp[rV,a,b];omega
def zBm:rV o f g 0=f:=by simp[rV]
def zDR(a:f.length=n)(b:g.length=n):rV o f g n=aar o f g:=by rw[rV,aai an,aai an,aa9 an,List.append_nil]
def zDS(a:f.length=n)(b:g.length=n)(h:i<n):(rV o f g i)[i]?=some (f[i]' an):=by
 rw[rV,aan (by simp;omega)]
 have e:i-(aar o (f.take i) (g.take i)).length=0:=by simp;omega
 rw[e,abh];exact iX an
def zwD(b:f.length=n)(c:g.length=n)(h:i<n):(rV o f g i).set i (o (f[i]' an) (g[i]' an))=rV o f g (i+1):=by
 apply aa2;intro j;have e:(rV o f g i).length=n:=zwC b c;rw[aa3]
 have a:∀k,(aar o (f.take k) (g.take k)).length=min k n:=λk=>by simp[b,c]
 by_cases d:i=j
 .subst d;simp only[if_true,e,h];rw[rV,aaf (by rw[a];omega)];simp[abE,show i<f.length by omega,show i<g.length by omega]
 .rw[if_neg d,rV,rV]
  by_cases l:j<i
  .rw[aaf (by rw[a];omega),aaf (by rw[a];omega)];simp[abE,l,show j<i+1 by omega]
  .rw[aan (by rw[a];omega),aan (by rw[a];omega),a,a];simp only[abh]
   congr 1
   omega
end
def CR{l:List Nat}{i x:Nat}(k:IntKind)(h:l[i]?=some x):((av k l).drop i).take 1=[.int k (x:Int)]:=by obtain⟨a,rfl⟩:=aag.1 h;exact sn k l i a
section
variable {α:Type} (H l:List α)
def kO:(H++l)[H.length]?=l[0]?:=by rw[aan (ab8 _),abt]
def gY(k:Nat):(H++l)[H.length+k]?=l[k]?:=by rw[aan an,abv]
def yG(x:α):(H++l).set H.length x=H++l.set 0 x:=by rw[aba _ _ (ab8 _),abt]
def wF(k:Nat)(x:α):(H++l).set (H.length+k) x=H++l.set k x:=by rw[aba _ _ an,abv]
end
def Vh[ar G](fn:Nat)(cap:List V)(o:Nat->Nat->Nat)(f g:List Nat)(H:ae)(y:gV H)(a:f.length=35)(b:g.length=35)(q:∀n,H.length<=n->a_ n cap=cap)
  (s:∀(i:Nat) (h:i<35) (r:ae),bD G (.F fn ([.int .u32 (f[i]'(by omega):Nat),.int .u32 (g[i]'(by omega):Nat)]++cap) (H++r) (.int .u32 (o (f[i]' an) (g[i]' an):Nat)) (H++r))) :
  bD G (.F 245 [.agg (av .u32 f),.agg (av .u32 g),.fn fn cap] H (.agg (av .u32 (aar o f g))) (H++[some (.cells (av .u32 (aar o f g))),some (.cells (av .u32 g)),some (.cells (av .u32 (aar o f g)))])):=by
 refine eV ar.ac3 (aab rfl) ?_;have c:∀i,(rV o f g i).length=35:=λi=>zwC a b
 have z:∀r,gV (H++[some (.cells (av .u32 r)),some (.cells (av .u32 g)),some (.cells (av .u32 (aR 35)))]):=λr=>y.app λn=>by simp[az.cl]
 have j:∀r x,ak (H.length+3) (H++some (.cells (av .u32 r))::some (.cells (av .u32 g))::some (.cells (av .u32 (aR 35)))::x)=H++[some (.cells (av .u32 r)),some (.cells (av .u32 g)),some (.cells (av .u32 (aR 35)))]:=λr x=>by
  have:=(z r).back x;simpa using this
 have A:=s 0 an;have t:((av .u32 f).drop 0).take 1=[.int .u32 (f[0]:Nat)]:=sn .u32 f 0 an;have d:((av .u32 g).drop 0).take 1=[.int .u32 (g[0]:Nat)]:=sn .u32 g 0 an;rw[List.drop_zero] at t d;have J:=e_ (k:=.u32) a;have K:=e_ (k:=.u32) b
 have u:V.int .u32 (o f[0] g[0]:Nat)::(av .u32 f).drop 1=av .u32 (rV o f g 1):=by have v:=xJ .u32 (rV o f g 0) 0 (o f[0] g[0]) (by rw[c];omega);rw[zwD a b an,zBm] at v;simpa using v
 rw[abn] at u;obtain⟨m,l⟩:∃m:Nat->ae,∀i,m i=H++[some (.cells (av .u32 (rV o f g (i+1)))),some (.cells (av .u32 g)),some (.cells (av .u32 (aR 35)))]:=⟨_,λ_=>rfl⟩;simp[a,b,t,d];refine kF (A _) ir ?_;simp[j,a,u];refine aN 34 (λi=>[(2,.fn fn cap),(3,.ptr H.length 0),(4,.ptr (H.length+1) 0),(6,.ptr (H.length+2) 0),(15,.int .i64 i)]) m (λ_=>True) ?_ ?_
 .simp[au,j,l,q]
 intro i hi _
 by_cases B:i<34
 .have p:=zDS (o:=o) a b (show i+1<35 by omega);have C:g[i+1]?=some (g[i+1]' an):=iX an;have q1:=CR .u32 p;have D:=CR .u32 C;have e:=xJ .u32 (rV o f g (i+1)) (i+1) (o (f[i+1]' an) (g[i+1]' an)) (by rw[c];omega);rw[zwD a b an] at e;simp(disch:=omega)[bC,leFn,aA,kO,gY,l,c,b,show 1+i=i+1 from abZ 1 i,q1,D,-aad];refine kF (s (i+1) an [some (.cells (av .u32 (rV o f g (i+1)))),some (.cells (av .u32 g)),some (.cells (av .u32 (aR 35)))]) (λ_=>by have:=j (rV o f g (i+1)) [];simpa using this) ?_
  simp(disch:=omega)[bC,aA,kO,l,B,c,show 1+i=i+1 from abZ 1 i,e,-aad,j,bF,au,q]
 .have E:i=34:=an
  subst E;have L:=c 35;have I:=zDR (o:=o) a b
  have w:(aar o f g).length=35:=by simp[a,b]
  simp(disch:=omega)[leFn,kO,gY,l,I,w,e_ (k:=.u32) w]
def jN(f g:List Nat):List Nat:=aar (λa b=>(a+b)%4294967296) f g
def fe(f g:List Nat):List Nat:=aar (λa b=>(a+4294967296-b)%4294967296) f g
def eh(f:List Nat)(k:Nat):List Nat:=f.map λa=>a*k%4294967296
def zDT[ar G](a b:Nat)(H:ae):bD G (.F 246 [.int .u32 a,.int .u32 b] H (.int .u32 ((a+b)%4294967296:Nat)) H):=by refine eV ar.ac4 (aab rfl) ?_;simp;simp[aB,EW]
def zDU[ar G](a b:Nat)(c:b<4294967296)(H:ae):bD G (.F 248 [.int .u32 a,.int .u32 b] H (.int .u32 ((a+4294967296-b)%4294967296:Nat)) H):=by refine eV ar.ac5 (aab rfl) ?_;simp;simp[cL,EW];omega
def zDV[ar G](a b k p:Nat)(H:ae)(c:H[p]?=some (some (.cells [.int .u32 k]))):bD G (.F 250 [.int .u32 a,.int .u32 b,.ptr p 0] H (.int .u32 (a*k%4294967296:Nat)) H):=by refine eV ar.ac6 (aab rfl) ?_;simp[c];simp[da,EW]
def zDW[ar G](f g:List Nat)(c:f.length=35)(d:g.length=35):FP G 247 [.agg (av .u32 f),.agg (av .u32 g)] (.agg (av .u32 (jN f g))):=by
 refine bA ar.ac7 (aab rfl) ?_;have o:=e_ (k:=.u32) c;have p:=e_ (k:=.u32) d
 have j:(jN f g).length=35:=by simp[jN,c,d]
 have q:=e_ (k:=.u32) j
 have l:gV [some (.cells (av .u32 f)),some (.cells (av .u32 g)),some (.cells (av .u32 (aR 35)))]:=λn _=>by simp[az.cl]
 have m:=l.back;simp at m;simp[c,d,o,p];refine yF (Vh 246 [] (λa b=>(a+b)%4294967296) f g _ l c d (λ_ _=>rfl) (λi h r=>zDT _ _ _)) ?_;have e:aar (λa b=>(a+b)%4294967296) f g=jN f g:=rfl;simp[e,m,j,q]
def Vi[ar G](f g:List Nat)(c:f.length=35)(d:g.length=35)(o:∀x∈g,x<4294967296):FP G 249 [.agg (av .u32 f),.agg (av .u32 g)] (.agg (av .u32 (fe f g))):=by
 refine bA ar.ac8 (aab rfl) ?_;have p:=e_ (k:=.u32) c;have q:=e_ (k:=.u32) d
 have j:(fe f g).length=35:=by simp[fe,c,d]
 have s:=e_ (k:=.u32) j
 have l:gV [some (.cells (av .u32 f)),some (.cells (av .u32 g)),some (.cells (av .u32 (aR 35)))]:=λn _=>by simp[az.cl]
 have m:=l.back;simp at m;simp[c,d,p,q];refine yF (Vh 248 [] (λa b=>(a+4294967296-b)%4294967296) f g _ l c d (λ_ _=>rfl) (λi h r=>zDU _ _ (o _ (aaI _)) _)) ?_;have e:aar (λa b=>(a+4294967296-b)%4294967296) f g=fe f g:=rfl;simp[e,m,j,s]
def Qq[ar G](f:List Nat)(k:Nat)(b:f.length=35):FP G 251 [.agg (av .u32 f),.int .u32 k] (.agg (av .u32 (eh f k))):=by
 refine bA ar.ac9 (aab rfl) ?_;have j:=e_ (k:=.u32) b
 have c:(eh f k).length=35:=by simp[eh,b]
 have l:=e_ (k:=.u32) c
 have d:gV [some (.cells (av .u32 f)),some (.cells [.int .u32 k]),some (.cells (av .u32 (aR 35)))]:=λn _=>by simp[az.cl]
 have g:=d.back;simp at g;simp[b,j];refine yF (Vh 250 [.ptr 1 0] (λa _=>a*k%4294967296) f f _ d b b (λn m=>by simp at m;simp[a_,V.cl,show 1<n by omega]) (λi h r=>zDV _ _ k 1 _ ir)) ?_;have e:f.map (λa=>a*k%4294967296)=eh f k:=rfl;simp[e,g,c,l]
def oE(f:List Nat):Option Nat:=if f.drop 1=aR 34 then f.head? else none
def Qr[ar G](f:List Nat)(i:f.length=35):FP G 253 [.agg (av .u32 f)] (.bf [.int .u32 ((oE f).getD 0:Nat),.bool (oE f).isSome]):=by
 refine bA ar.ada (aab rfl) ?_
 obtain⟨c,t,rfl⟩:∃c t,f=c::t:=by cases f with|nil=>simp at i|cons c t=>exact⟨c,t,rfl⟩
 have d:t.length=34:=by simpa using i
 have j:av .u32 (c::t)=.int .u32 (c:Int)::av .u32 t:=rfl;have g:=GO .u32 (n:=34) (a:=t) (b:=aR 34) d ir;have l:=e_ (k:=.u32) d
 by_cases e:t=aR 34
 .have h:oE (c::t)=some c:=by simp[oE,e]
  rw[decide_eq_true e] at g;simp[-aae,j,d,l,g,h]
 .have h:oE (c::t)=none:=by simp[oE,e]
  rw[decide_eq_false e] at g;simp[-aae,j,d,l,g,h]
def wH(f v:List Nat)(i:Nat):Nat:=((aar (·*·) (f.drop 1) v).take i).sum
def jT(f v:List Nat):Nat:=(f.headD 0+wH f v 34)%4294967296
def zBn[ar G](f v:List Nat)(g:f.length=35)(j:v.length=34)(b:∀x∈f,x<4294967296):FP G 252 [.agg (av .u32 f),.agg (av .u32 v)] (.int .u32 (jT f v:Nat)):=by
 refine bA ar.adb (aab rfl) ?_
 obtain⟨c,t,rfl⟩:∃c t,f=c::t:=by cases f with|nil=>simp at g|cons c t=>exact⟨c,t,rfl⟩
 have d:t.length=34:=by simpa using g
 have n:av .u32 (c::t)=.int .u32 (c:Int)::av .u32 t:=rfl;have o:=e_ (k:=.u32) d;have u:=e_ (k:=.u32) j;have w:c<4294967296:=b c ir;simp[n,d,o];obtain⟨S,a⟩:∃S:Nat->Nat,∀i,S i=(c+wH (c::t) v i)%4294967296:=⟨_,λ_=>rfl⟩
 have p:S 0=c:=by rw[a];simp[wH];omega
 have e:S 34=jT (c::t) v:=by rw[a];rfl
 have q:∀(i:Nat) (h:i<34),(S i+(t[i]' an)*(v[i]' an))%4294967296=S (i+1):=λi h=>by
  rw[a,a,wH,wH,aaR,aat (by simp;omega)];simp;omega
 refine aN 34 (λi=>[(3,.ptr 1 0),(5,.int .u32 (S i:Nat)),(11,.agg (av .u32 t)),(12,.int .i64 i)]) (λ_=>[some (.cells (.int .u32 (c:Int)::av .u32 t)),some (.cells (av .u32 v))]) (λ_=>True) ?_ ?_
 .simp[au,p,ak,a_,V.cl]
 intro i hi _
 by_cases l:i<34
 .have q1:=CR .u32 (iX (show i<t.length by omega));have r:=CR .u32 (iX (show i<v.length by omega))
  have m:aB .u32 (S i:Int) (da .u32 (t[i]:Nat) (v[i]:Nat))=((S (i+1):Nat):Int):=by rw[<-q i l];simp[aB,da,EW]
  simp(disch:=omega)[bC,leFn,aA,l,d,j,q1,r,m,-aad,bF,au,ak,a_,V.cl]
 .have s:i=34:=an
  subst s;simp[e]
def mN(f:List Nat):Option Nat:=(aaL 34).find? λi=>decide (f=cH i)
def zDX[ar G](f:List Nat)(p:f.length=35):FP G 254 [.agg (av .u32 f)] (.bf [.int .i64 ((mN f).getD 0:Nat),.bool (mN f).isSome]):=by
 refine bA ar.ade (aab rfl) ?_
 obtain⟨c,t,rfl⟩:∃c t,f=c::t:=by cases f with|nil=>simp at p|cons c t=>exact⟨c,t,rfl⟩
 have g:t.length=34:=by simpa using p
 have s:av .u32 (c::t)=.int .u32 (c:Int)::av .u32 t:=rfl;have x:=e_ (k:=.u32) g;have u:=e_ (k:=.u32) p;rw[s] at u;have D:(aam 35 Kd.int)=Kd.int::aam 34 .int:=rfl;simp[-aae,s,g,x];refine aN 34 (λi=>[(1,.ptr 0 0),(9,.agg (av .u32 t)),(10,.int .i64 i)]) (λ_=>[some (.cells (.int .u32 (c:Int)::av .u32 t))]) (λi=>∀j,j<i->c::t≠cH j) ?_ ?_
 .simp[au,ak,a_,V.cl]
 intro i hi q
 by_cases r:i<34
 .have q1:=CR .u32 (iX (show i<t.length by omega));have hd:(av .u32 (aR 35)).drop 35=[]:=rfl
  have l:(cH i).length=35:=by simp[cH]
  have w:=e_ (k:=.u32) l;have m:=GO .u32 (n:=35) (a:=cH i) (b:=c::t) l p;rw[s] at m
  have y:c::t=cH i->t[i]=1:=λe=>by
   have d:(c::t)[i+1]?=some 1:=by rw[e,cH,aaP (by simp;omega)]
   rw[abw,iX an] at d;exact abB.inj d
  simp(disch:=omega)[-aae,bC,aA,g,q1];refine aw (Vj i r) ?_
  by_cases d:t[i]=1
  .by_cases e:cH i=c::t
   .have z:mN (c::t)=some i:=by rw[mN,abr];exact⟨by simpa using e.symm,abg.2 r,λj o=>by simpa using q j o⟩
    rw[decide_eq_true e] at m;simp(disch:=omega)[-aae,leFn,g,l,w,u,hd,d,m,z]
   .rw[decide_eq_false e] at m
    have v:∀j,j<i+1->c::t≠cH j:=λj o=>by
     by_cases e':j=i
     .subst e';exact λh=>e h.symm
     .exact q j an
    simp(disch:=omega)[-aae,leFn,r,g,l,w,u,hd,d,m,-aad,bF,au,ak,a_,V.cl];exact v
  .have v:∀j,j<i+1->c::t≠cH j:=λj o=>by
    by_cases e':j=i
    .subst e';exact λh=>d (y h)
    .exact q j an
   have A:((t[i]:Int)==1)=false:=by rw[beq_eq_false_iff_ne];omega
   simp(disch:=omega)[-aae,r,l,hd,A,-aad,bF,au,ak,a_,V.cl];exact v
 .have B:i=34:=an
  subst B
  have C:mN (c::t)=none:=by rw[mN,List.find?_eq_none];intro j o;simpa using q j (abg.1 o)
  simp[C]
open Go Go.RowKit
variable {G:aP}
def zGz(b:bG G){kind:Int}{fv gv vs:List Int}{ft gt tab:List Nat}(a:oS kind fv gv ft gt)(c:∀w∈ft,w<4294967296)(d:∀w∈gt,w<4294967296)(e:Right vs tab)
  (f:∀p,cZ vs tab p=(dg kind (cZ fv ft p) (cZ gv gt p)).1):FP G 109 [.int .i64 kind,FV fv ft,FV gv gt] (.bf [FV vs tab,.bool true]):=by
 have g:=a.2.1.1;have i:=a.2.2.1.1;have m:=BT g a.2.1.2.1;have n:=BT i a.2.2.1.2.1;obtain⟨r,j,h|⟨_,o,q,rfl,k,_,l⟩⟩:=zDe b kind fv gv ft gt an an an an c d
 .exact absurd a h.1
 .obtain⟨rfl,rfl⟩:=zDh k e λp=>by rw[f,l]
  exact j
def zFp(vs:List Int)(tab:List Nat)(r:Int->Nat):val vs tab r<4294967296:=uQ _ 32
def zyT{kind:Int}{fv gv vs:List Int}{ft gt tab:List Nat}(h:kind=68\/kind=84\/kind=164)(a:∀p,cZ vs tab p=(dg kind (cZ fv ft p) (cZ gv gt p)).1)(r:Int->Nat) :
  val vs tab r=(dg kind (val fv ft r) (val gv gt r)).1:=by
 refine abb λi=>?_
 have b:∀(v:List Int) (t:List Nat),(val v t r).testBit i=(decide (i<32)&&(cZ v t λu=>(r u).testBit i).testBit i):=λv t=>by rw[val,BU]
 rcases h with rfl|rfl|rfl<;>simp only[dg] at a |-<;>simp at a |-<;>(rw[b,a];simp[b];try (cases decide (i<32)<;>simp))
variable {H:ae} {b z m:Nat} {L:List Nd}
def zBo{f:List Nat}(a:f.length=35):(eP f).ok:=⟨a,rfl,rfl⟩
def bc(L:List Nd)(a:Nd):Int×List Nd:=((L.idxOf a:Nat),iz L a)
def BF(G:aP)(f:Nat)(args:List V)(H:ae)(b z m:Nat)(p:Int×List Nd):Prop:=SF G f (.ptr b 0::args) H (.int .i64 p.1) (dw H b z m p.2)
def BV[aM G](f:List Nat)(a:f.length=35)(h:Bk H b z m L)(c:L.length<1000000):BF G 260 [.agg (av .u32 f)] H b z m (bc L (eP f)):=by
 have d:=e_ (k:=.u32) a
 have e:Bk (H++[some (.cells (av .u32 f))]) b z m L:=h.app λn=>by simp[az.cl]
 have g:=h.bW [some (.cells (av .u32 f))] (iz L (eP f));have i:=h.back (iz L (eP f)) [some (.cells (av .u32 f))];refine j_ aM.adf (aab rfl) ?_;simp[-aae,a,d,-nV,nz,zCa f a,leFn];refine cN (JF (eP f) (zBo a) e c) ?_;simp[bc,g,i]
def JH[ar G][aM G](c:Nat)(h:Bk H b z m L)(d:L.length<1000000):BF G 262 [.int .u32 c] H b z m (bc L (eP (c::aR 34))):=by have a:=h.back (iz L (eP (c::aR 34))) [];refine j_ aM.adg (aab rfl) ?_;simp at a;simp;refine aw (Vk c) ?_;simp;refine cN (BV (c::aR 34) ir h d) ?_;simp[bc,a]
def j5(L:List Nd)(i:Int):Int×List Nd:=if 0<=i/\i<34 then bc L (eP (cH i.toNat)) else(-1,L)
def zwE[ar G][aM G](i:Int)(h:Bk H b z m L)(f:L.length<1000000):BF G 263 [.int .i64 i] H b z m (j5 L i):=by
 refine j_ aM.adh (aab rfl) ?_;have hd:(av .u32 (aR 35)).drop 35=[]:=rfl
 by_cases hi:i<0\/34<=i
 .have a:j5 L i=(-1,L):=by rw[j5,if_neg an]
  have c:=h.shut.back;simp[a,h.fM];refine aw (zzD i hi) ?_;simp[hd,c]
 .obtain⟨n,rfl⟩:=aaj (show 0<=i by omega)
  have a:j5 L n=bc L (eP (cH n)):=by rw[j5,if_pos an];rfl
  have d:(cH n).length=35:=by simp[cH]
  have g:=e_ (k:=.u32) d
  have e:Bk (H++[some (.cells (av .u32 (cH n)))]) b z m L:=h.app λn=>by simp[az.cl]
  have j:=h.bW [some (.cells (av .u32 (cH n)))] (iz L (eP (cH n)));have c:=h.back (iz L (eP (cH n))) [some (.cells (av .u32 (cH n)))];have l:=e.shut.self;simp at l;simp[a];refine aw (Vj n an) ?_;simp[hd,d,g];refine cN (BV (cH n) d e f) ?_;simp[bc,j,c]
def u5(fv:List Int)(ft:List Nat):Nd:={ rU with kind:=1,n:=fv.length,vars:=fv.map aa1++aR (4-fv.length),tab:=ft++aR (16-ft.length) }
def ones:Nat:=4294967295
def sC(L:List Nd)(fv:List Int)(ft:List Nat):Int×List Nd :=
 match fv with
 | []=>bc L (eP (ft.headD 0::aR 34))
 | [i]=>if ft=[0,ones] then bc L (eP (cH i.toNat)) else if ft=[ones,0] then bc L (eP (fe (ones::aR 34) (cH i.toNat))) else bc L (u5 [i] ft)
 | fv=>bc L (u5 fv ft)
def zBp[ar G][aM G](fv:List Int)(ft:List Nat)(hR:Right fv ft)(h:Bk H b z m L)(J:L.length<1000000):BF G 261 [FV fv ft] H b z m (sC L fv ft):=by
 refine j_ aM.adi (aab rfl) ?_
 have K:Bk (H++[some (.cells [.vs (ints .i64 fv) .no,.vs (ah .u32 ft) .no])]) b z m L:=h.app λn=>by simp[az.cl,a_,V.cl]
 obtain⟨Y,d,Z⟩:=hR
 match fv,Y,d,Z,K with
 | [],_,d,_,K => 
  obtain⟨c,rfl⟩:∃c,ft=[c]:=by match ft,d with|[c],_=>exact⟨c,rfl⟩
  have g:=h.bW [some (.cells [.vs (ints .i64 []) .no,.vs (ah .u32 [c]) .no])] (iz L (eP (c::aR 34)));have o:=h.back (iz L (eP (c::aR 34))) [some (.cells [.vs (ints .i64 []) .no,.vs (ah .u32 [c]) .no])];have hn:∀x:Nat,ah .u32 [x]=[[.int .u32 (x:Int)]]:=λ_=>rfl;simp only[hn,zB9] at K g o;have fz:=K.shut.self;simp at fz;simp[FV,sC,aA,leFn,hn];refine cN (JH c K J) ?_
  simp[bc,g,o]
 | i::t,Y,d,Z,K => 
  have aj:t.length+1<=4:=by simpa using Y
  have hb:∀v∈t,0<=v:=λv A=>by
   obtain⟨j,hj,rfl⟩:=abT A;obtain⟨w,hw,CZ,_⟩:=Z (j+1) (by simp;omega);rw[abw,aat hj] at hw;cases hw;exact CZ
  obtain⟨v,A,Qs,Vl,_⟩:=Z 0 ir
  obtain rfl:i=v:=by simpa using A
  obtain⟨n,rfl⟩:=aaj Qs;have hd:(av .u32 (aR 35)).drop 35=[]:=rfl
  have s:(cH n).length=35:=by simp[cH]
  have ht:=e_ (k:=.u32) s
  obtain⟨p,q,r,rfl⟩:∃p q r,ft=p::q::r:=by
   match ft,d with
   | p::q::r,_=>exact⟨p,q,r,rfl⟩
   | [p],d=>exfalso;have:=ab0 (n:=t.length);simp[aci] at d;omega
   | [],d=>exfalso;have:=ab0 (n:=t.length);simp[aci] at d;omega
  have h2:Bk (H++[some (.cells [.vs (ints .i64 ((n:Int)::t)) .no,.vs (ah .u32 (p::q::r)) .no]),some (.cells (av .u32 (cH n)))]) b z m L:=h.app λn=>by simp[az.cl,a_,V.cl]
  have Vm:=K.shut.self;have GU:=h2.shut.self;simp at Vm GU;simp(disch:=omega)[FV,aL,kO,aA,leFn];refine aw (Vj n an) ?_
  have cs:(t=[]/\p=0/\q=ones)\/(t=[]/\p=ones/\q=0)\/(t≠[]\/t=[]/\p≠0/\p≠ones\/t=[]/\p=0/\q≠ones\/t=[]/\p=ones/\q≠0):=by
   by_cases e1:t=[]
   .simp only[e1,true_and,ne_eq,not_true,false_or,ones];omega
   .exact .inr (.inr (.inl e1))
  rcases cs with⟨rfl,rfl,rfl⟩|⟨rfl,rfl,rfl⟩|cs
  .obtain rfl:r=[]:=by simpa using d
   have g:=h.bW [some (.cells [.vs (ints .i64 [(n:Int)]) .no,.vs (ah .u32 [0,ones]) .no]),some (.cells (av .u32 (cH n)))] (iz L (eP (cH n)));have o:=h.back (iz L (eP (cH n))) [some (.cells [.vs (ints .i64 [(n:Int)]) .no,.vs (ah .u32 [0,ones]) .no]),some (.cells (av .u32 (cH n)))];have Q:=h2;simp[ones,ah] at g o Q;simp(disch:=omega)[ones,ah,kO,gY,aA,leFn,hd,ht,s];refine cN (BV (cH n) s Q J) ?_
   simp[bc,g,o,sC,ones]
  .obtain rfl:r=[]:=by simpa using d
   have C4:(fe (ones::aR 34) (cH n)).length=35:=by simp[fe,s]
   have g:=h.bW [some (.cells [.vs (ints .i64 [(n:Int)]) .no,.vs (ah .u32 [ones,0]) .no]),some (.cells (av .u32 (cH n)))] (iz L (eP (fe (ones::aR 34) (cH n))));have o:=h.back (iz L (eP (fe (ones::aR 34) (cH n)))) [some (.cells [.vs (ints .i64 [(n:Int)]) .no,.vs (ah .u32 [ones,0]) .no]),some (.cells (av .u32 (cH n)))];have Q:=h2
   have rC:∀x∈cH n,x<4294967296:=λx M=>by
    rw[cH] at M
    rcases abp M with M|rfl
    .rw[aR,ab1] at M;omega
    .omega
   simp[ones,ah] at g o Q C4;simp(disch:=omega)[ones,ah,aL,kO,gY,aA,leFn,hd,s];refine aw (Vk 4294967295) ?_;simp(disch:=omega)[gY,leFn,ht,s];refine aw (Vi (4294967295::aR 34) (cH n) ir s rC) ?_;simp;refine cN (BV _ C4 Q J) ?_;simp[bc,g,o,sC,ones]
  .have Vn:sC L ((n:Int)::t) (p::q::r)=bc L (u5 ((n:Int)::t) (p::q::r)):=by
    cases t with
    | cons _ _=>rfl
    | nil =>
     obtain rfl:r=[]:=by simpa using d
     simp only[sC];rw[if_neg,if_neg]
     .intro e;simp at e;simp at cs;omega
     .intro e;simp at e;simp at cs;omega
   obtain⟨a,ha⟩:∃a,a=u5 ((n:Int)::t) (p::q::r):=⟨_,rfl⟩
   have u:(p::q::r).length<=16:=by rw[d];exact aap (n:=2) aga Y
   have R:a.ok:=by
    rw[ha];refine⟨rfl,?_,?_⟩
    .simp[u5];omega
    .simp[u5] at u |-;omega
   have Vo:(av .u32 (aR 35)).length=35:=by simp
   obtain⟨a1,F⟩:∃a1:Nd,a1={ rU with kind:=1,n:=t.length+1 }:=⟨_,rfl⟩;obtain⟨a2,jk⟩:∃a2:Nd,a2={ a1 with vars:=((n:Int)::t).map aa1++aR (4-(t.length+1)) }:=⟨_,rfl⟩
   have hf:a={ a2 with tab:=p::q::r++aR (16-(r.length+2)) }:=by rw[ha,jk,F];rfl
   have sD:∀r:List (Nat×V),nV (gP ((66,.int .i64 ((t.length:Int)+1))::r)) rU.cs [(0,1,.c (.int .i64 1)),(36,1,.t 66)]=some a1.cs:=λr=>by
    have he:(gP ((66,.int .i64 ((t.length:Int)+1))::r)) 66=.int .i64 ((t.length:Int)+1):=by simp
    have hd:∀r:List V,(av .u32 (aR 35)++r).drop 36=r.drop 1:=λr=>by rw[show 36=(av .u32 (aR 35)).length+1 by simp,List.drop_append];simp
    simp[nV,rU,Nd.cs,F,hd]
   have lP:a1.cs.length=60:=Nd.len (by rw[F];exact⟨rfl,rfl,rfl⟩);have Af:a1.cs.take 60=a1.cs:=aai an;have qE:rU.cs.length=60:=rfl;have ug:rU.cs.drop 60=[]:=rfl;obtain⟨O,uV⟩:=ax (t.length+1);obtain⟨P,nW⟩:=ax (r.length+2)
   have hg:∀l:List Int,((ints .i64 l).map abC).sum=l.length:=λl=>by induction l with
    | nil=>rfl
    | cons x l I=>simp only[C5,aaV,abL,I,ab_,List.length_nil];omega
   have hh:∀l:List Nat,((ah .u32 l).map abC).sum=l.length:=λl=>by rw[Vp,ints,ab2];induction l with
    | nil=>rfl
    | cons x l I=>simp only[aaV,abL,ab2] at I |-;rw[I];simp;omega
   have hk:min ((ints .i64 ((n:Int)::t)).map abC).sum 4=O:=by rw[hg];simp;omega
   have Vq:min ((ah .u32 (p::q::r)).map abC).sum 16=P:=by rw[hh];simp at u |-;omega
   have wi:(ints .i64 ((n:Int)::t)).flatten=av .i64 (((n:Int)::t).map aa1):=by
    have:∀l:List Int,(∀v∈l,0<=v)->(ints .i64 l).flatten=av .i64 (l.map aa1):=λl=>by
     induction l with
     | nil=>intro _;rfl
     | cons x l I =>
      intro M;rw[C5,ab6,I (λv A=>M v (by simp[A]))];have:=M x ir;simp[av];omega
    exact this _ λv A=>by rcases abm.1 A with rfl|A;omega;exact hb v A
   have S:(ah .u32 (p::q::r)).flatten=av .u32 (p::q::r):=by
    have:∀l:List Nat,(ah .u32 l).flatten=av .u32 l:=λl=>by
     induction l with
     | nil=>rfl
     | cons x l I=>rw[zsQ,ab6,I];rfl
    exact this _
   have B:(av .i64 (((n:Int)::t).map aa1)).take O=av .i64 (((n:Int)::t).map aa1):=aai (by simp;omega);have C:(av .u32 (p::q::r)).take P=av .u32 (p::q::r):=aai (by simp;omega)
   have T:∀c:Nd,c.ok->c.cs.take 37=.int .i64 (c.kind:Int)::(av .u32 c.f++[.int .i64 (c.n:Int)])/\c.cs.drop 37=av .i64 c.vars++(av .u32 c.tab++[.int .i64 c.op,.int .i64 (c.x:Int),.int .i64 (c.y:Int)]):=λc hc=>by
    have e:c.cs=(.int .i64 (c.kind:Int)::(av .u32 c.f++[.int .i64 (c.n:Int)]))++(av .i64 c.vars++(av .u32 c.tab++[.int .i64 c.op,.int .i64 (c.x:Int),.int .i64 (c.y:Int)])):=by simp[Nd.cs]
    have d:(V.int .i64 (c.kind:Int)::(av .u32 c.f++[.int .i64 (c.n:Int)])).length=37:=by simp[hc.1]
    rw[e];exact⟨aaz d,aa0 d⟩
   have U:∀c:Nd,c.ok->c.cs.take 41=.int .i64 (c.kind:Int)::(av .u32 c.f++.int .i64 (c.n:Int)::av .i64 c.vars)/\c.cs.drop 41=av .u32 c.tab++[.int .i64 c.op,.int .i64 (c.x:Int),.int .i64 (c.y:Int)]:=λc hc=>by
    have e:c.cs=(.int .i64 (c.kind:Int)::(av .u32 c.f++.int .i64 (c.n:Int)::av .i64 c.vars))++(av .u32 c.tab++[.int .i64 c.op,.int .i64 (c.x:Int),.int .i64 (c.y:Int)]):=by simp[Nd.cs]
    have d:(V.int .i64 (c.kind:Int)::(av .u32 c.f++.int .i64 (c.n:Int)::av .i64 c.vars)).length=41:=by simp[hc.1,hc.2.1]
    rw[e];exact⟨aaz d,aa0 d⟩
   have LZ:a1.ok:=by rw[F];exact⟨rfl,rfl,rfl⟩
   have GV:a2.ok:=by rw[jk,F];refine⟨rfl,?_,rfl⟩;simp;omega
   have dz:∀(k:IntKind) (n j:Nat) (r:List V),j<=n->(av k (aR n)++r).drop j=av k (aR (n-j))++r:=λk n j r h=>by
    rw[List.drop_append_of_le_length (by simp;exact h),av,<-List.map_drop,aR,List.drop_replicate];rfl
   have D:a1.cs.take 37++(av .i64 (((n:Int)::t).map aa1)++a1.cs.drop (37+O))=a2.cs:=by rw[<-aaJ,(T a1 LZ).1,(T a1 LZ).2,show a1.vars=aR 4 by rw[F];rfl,dz .i64 4 O _ an,jk,uV];simp[Nd.cs,F,av]
   have E:a2.cs.take 41++(av .u32 (p::q::r)++a2.cs.drop (41+P))=a.cs:=by rw[<-aaJ,(U a2 GV).1,(U a2 GV).2,show a2.tab=aR 16 by rw[jk,F];rfl,dz .u32 16 P _ (by simp at u;omega),hf,nW];simp[Nd.cs,av]
   have yB:=Nd.len R;have C7:=Nd.len GV;have Qt:a.cs.take 60=a.cs:=aai an
   have C8:∀(c:Nd) (n:Nat),a_ n c.cs=c.cs:=λc n=>by rw[iW];simp[Nd.cs,av,abo,V.cl]
   have N:Bk (H++[some (.cells [.vs (ints .i64 ((n:Int)::t)) .no,.vs (ah .u32 (p::q::r)) .no]),some (.cells (av .u32 (cH n))),some (.cells a.cs)]) b z m L:=h.app λn=>by simp[az.cl,C8,a_,V.cl]
   have g:=h.bW [some (.cells [.vs (ints .i64 ((n:Int)::t)) .no,.vs (ah .u32 (p::q::r)) .no]),some (.cells (av .u32 (cH n))),some (.cells a.cs)] (iz L a);have o:=h.back (iz L a) [some (.cells [.vs (ints .i64 ((n:Int)::t)) .no,.vs (ah .u32 (p::q::r)) .no]),some (.cells (av .u32 (cH n))),some (.cells a.cs)];rw[Vn,<-ha];rw[uV] at D B;rw[nW] at E C;rw[show r.length+2=r.length+1+1 from rfl] at E C
   simp only[aaV,aa4] at D B
   rcases cs with cs|⟨rfl,cs,fZ⟩|⟨rfl,rfl,cs⟩|⟨rfl,rfl,cs⟩
   .have gA:0<t.length:=List.length_pos_iff.2 cs;simp(disch:=omega)[-nV,nz,aL,kO,gY,aA,leFn,hd,s,sD,lP,qE,ug,wi,S,B,C,D,E,yB,C7,Qt];refine cN (JF a R N J) ?_;simp[bc,g,o]
   .have Qu:((p:Int)==0)=false:=aL an;have W:((p:Int)==4294967295)=false:=aL (by rw[ones] at fZ;omega);have X:∀r,nV (gP ((66,.int .i64 1)::r)) rU.cs [(0,1,.c (.int .i64 1)),(36,1,.t 66)]=some a1.cs:=λr=>sD r;simp at D B E C N g o;simp(disch:=omega)[Qu,W,X,-nV,nz,kO,gY,aA,leFn,hd,s,lP,qE,ug,wi,S,B,C,D,E,yB,C7,Qt];refine cN (JF a R N J) ?_;simp[bc,g,o]
   .have W:((q:Int)==4294967295)=false:=aL (by rw[ones] at cs;omega);have X:∀r,nV (gP ((66,.int .i64 1)::r)) rU.cs [(0,1,.c (.int .i64 1)),(36,1,.t 66)]=some a1.cs:=λr=>sD r;simp at D B E C N g o;simp(disch:=omega)[W,X,-nV,nz,aL,kO,gY,aA,leFn,hd,s,lP,qE,ug,wi,S,B,C,D,E,yB,C7,Qt];refine cN (JF a R N J) ?_;simp[bc,g,o]
   .have W:((q:Int)==0)=false:=aL an;have X:∀r,nV (gP ((66,.int .i64 1)::r)) rU.cs [(0,1,.c (.int .i64 1)),(36,1,.t 66)]=some a1.cs:=λr=>sD r;simp[ones] at D B E C N g o;simp only[ones] at Vq S;simp(disch:=omega)[ones,W,X,-nV,nz,aL,kO,gY,aA,leFn,hd,s,lP,qE,ug,wi,S,B,C,D,E,yB,C7,Qt];refine cN (JF a R N J) ?_;simp[bc,g,o]
def fR(a:Nd):Option (List Int×List Nat) :=
 if a.kind=1 then some ((a.vars.take a.n).map fun(x:Nat)=>(x:Int),a.tab.take (2^a.n))
 else if a.kind=0 then(match oE a.f with
  | some c=>some ([],[c])
  | none=>match mN a.f with
   | some i=>some ([(i:Int)],[0,ones])
   | none=>match mN (fe (ones::aR 34) a.f) with
    | some i=>some ([(i:Int)],[ones,0])
    | none=>none)
 else none
def rW(o:Option (List Int×List Nat)):V:=match o with
 | some p=>.bf [FV p.1 p.2,.bool true]
 | none=>.bf [.agg [.vs [] .full,.vs [] .full],.bool false]
def Vr(k:IntKind)(r:List V):∀(n:Nat) (l:List Nat),n<=l.length->pg 1 n (av k l++r)=ah k (l.take n)
 | 0,_,_=>by simp[pg]
 | n+1,[],h=>by simp at h
 | n+1,x::l,h=>by
  have a:=Vr k r n l (by simpa using h);simp only[av,aaV,aaK,pg,List.take_succ_cons,zsQ];rw[show(V.int k (x:Int)::((l.map fun(x:Nat)=>V.int k (x:Int))++r)).drop 1=av k l++r from rfl,a];rfl
def Nd.kA(n:Nat)(c:Nd):a_ n c.cs=c.cs:=by rw[iW];simp[Nd.cs,av,abo,V.cl]
def Vs(i:Nat)(hi:i<34):Right [(i:Int)] [0,ones]/\Right [(i:Int)] [ones,0]:=by
 constructor
 all_goals
  refine⟨ir,ir,λj a=>?_⟩
  obtain rfl:j=0:=by simpa using a
  exact⟨_,rfl,an,an,λu h=>absurd h an,aga⟩
def zBq[bG G](i:Nat)(hi:i<34):FP G 109 [.int .i64 164,FV [(i:Int)] [0,ones],FV [] [ones]] (.bf [FV [(i:Int)] [ones,0],.bool true]):=by
 obtain⟨a,b⟩:=Vs i hi;have c:Right [] [ones]:=⟨ir,ir,λj d=>by simp at d⟩
 exact zGz (by infer_instance) ⟨aga,a,c,by simp[eW]⟩ (by simp[ones]) (by simp[ones]) b λp=>by cases h:p (i:Int)<;>simp[cZ,idx,h,dg,ones]
def zyU[ar G][bG G][aM G](x:Nat)(a:Nd)(h:Bk H b z m L)(A:L[x]?=some a)(hn:a.kind=1->a.n<=4)(B:∀c∈a.f,c<4294967296):SF G 265 [.ptr b 0,.int .i64 x] H (rW (fR a)) H:=by
 refine j_ aM.adj (aab rfl) ?_;have Y:=h.lb;have hb:=h.cM
 have P:∀r:ae,(H++r)[b]?=some (some (.cells [.vs (rR L) (.own z),.mp m])):=λr=>by rw[aaf Y];exact hb
 have Q:=Vf A;have l:=h.ok a (aaF A);have q:=Nd.len l;have R:a.cs.take 60=a.cs:=aai an;have S:rU.cs.drop 60=[]:=rfl;have T:rU.cs.length=60:=rfl;have u:=h.shut.back;have g0:a.cs.head?=some (.int .i64 (a.kind:Int)):=rfl;have U:a.cs.take 1=[.int .i64 (a.kind:Int)]:=rfl
 have Z:a.cs=(.int .i64 (a.kind:Int)::av .u32 a.f)++(.int .i64 (a.n:Int)::(av .i64 a.vars++(av .u32 a.tab++[.int .i64 a.op,.int .i64 (a.x:Int),.int .i64 (a.y:Int)]))):=by simp[Nd.cs]
 have ha:(V.int .i64 (a.kind:Int)::av .u32 a.f).length=36:=by simp[l.1]
 have C:a.cs.drop 36=.int .i64 (a.n:Int)::(av .i64 a.vars++(av .u32 a.tab++[.int .i64 a.op,.int .i64 (a.x:Int),.int .i64 (a.y:Int)])):=by rw[Z];exact aa0 ha
 have D:a.cs.drop 37=av .i64 a.vars++(av .u32 a.tab++[.int .i64 a.op,.int .i64 (a.x:Int),.int .i64 (a.y:Int)]):=by rw[show 37=36+1 from rfl,<-aaJ,C];rfl
 have he:a.cs.drop 41=av .u32 a.tab++[.int .i64 a.op,.int .i64 (a.x:Int),.int .i64 (a.y:Int)]:=by rw[show 41=37+4 from rfl,<-aaJ,D];exact aa0 (by simp[l.2.1])
 have hf:(a.cs.drop 36).take 1=[.int .i64 (a.n:Int)]:=by rw[C];rfl
 have hh:(a.cs.drop 1).take 35=av .u32 a.f:=by show(av .u32 a.f++_).take 35=_;rw[aaz (by simp[l.1])]
 have E:a.cs.tail.take 35=av .u32 a.f:=by rw[<-abn];exact hh
 have mK:(H.length=b)=False:=af9;have hq:(b=H.length)=False:=af9
 by_cases s:a.kind=1
 .have F:((a.kind:Int)==1)=true:=C9 an;have I:=hn s;have Vt:((a.n:Int)<=4)=True:=af8;have L0:2^a.n<=16:=aap (n:=2) aga I;obtain⟨w,B⟩:=ax (2^a.n)
  have fz:je .i64 1 (a.n:Int)=(w:Int):=by rw[B];exact uY an
  rw[<-B] at L0;have wo:((a.n:Int)<0)=False:=af9
  have nS:a.cs.all V.pure=true:=by simp[Nd.cs,av,V.pure]
  have yH:pg 1 a.n (a.cs.drop 37)=ints .i64 ((a.vars.take a.n).map fun(x:Nat)=>(x:Int)):=by rw[D,Vr _ _ _ _ (by rw[l.2.1];exact I),Vp];rfl
  have uT:pg 1 w (a.cs.drop 41)=ah .u32 (a.tab.take w):=by rw[he,Vr _ _ _ _ (by rw[l.2.2];exact L0)]
  have o:fR a=some ((a.vars.take a.n).map fun(x:Nat)=>(x:Int),a.tab.take w):=by rw[fR,if_pos s,B]
  have L3:((w:Int)<=16)=True:=af8;simp(disch:=omega)[nz,Vt,fz,L3,wo,nS,yH,uT,o,rW,FV,u,P,Q,q,R,S,T,kO,gY,aA,leFn,U,hf,F]
 .have F:((a.kind:Int)==1)=false:=aL an
  by_cases J:a.kind=0
  .have W:((a.kind:Int) !=0)=false:=Ah an;have wG:=Qr (G:=G) a.f l.1;have wJ:=e_ (k:=.u32) l.1;have fz:∀r:List az,True:=λ_=>trivial
   cases v:oE a.f with
   | some c =>
    have o:fR a=some ([],[c]):=by rw[fR,if_neg s,if_pos J,v]
    simp(disch:=omega)[-aae,nz,W,o,rW,FV,P,Q,q,R,S,T,kO,gY,aA,leFn,U,E,F];refine aw wG ?_;simp(disch:=omega)[-aae,v];refine aw (zuU (by infer_instance) c) ?_
    simp(disch:=omega)[-aae,FV,u,kO]
   | none =>
    have X:(fe (ones::aR 34) a.f).length=35:=by simp[fe,l.1]
    obtain⟨d,xR⟩:∃d,d=fe (ones::aR 34) a.f:=⟨_,rfl⟩;have K:=Vi (G:=G) (ones::aR 34) a.f ir l.1 B;rw[<-xR] at X K;have Ai:=e_ (k:=.u32) X;have qI:(av .u32 (aR 35)).drop 35=[]:=rfl;simp(disch:=omega)[-aae,nz,W,P,Q,q,R,S,T,kO,gY,aA,leFn,U,E,F];refine aw wG ?_;simp(disch:=omega)[-aae,v];refine aw (Vk 4294967295) ?_;simp(disch:=omega)[-aae,q,gY,aA,leFn,E];refine aw K ?_
    simp(disch:=omega)[-aae,q,gY,aA,leFn,E,X,Ai,l.1,qI]
    have h3:Bk (H++[some (.cells [.vs [] .full,.vs [] .full]),some (.cells a.cs),some (.cells (av .u32 d))]) b z m L:=h.app λn=>by simp[az.cl,a_,V.cl,Nd.kA]
    have sE:=h3.shut.back;have M:=h3.shut.self;simp at sE M;have iJ:(((aam 2 (av .u32 (aR 35))).set 0 (av .u32 a.f)).set 1 (av .u32 d))=[av .u32 a.f,av .u32 d]:=rfl;rw[iJ]
    refine aN 2 (λi=>[(4,.ptr H.length 0),(6,.ptr (H.length+1) 0),(56,.vs [av .u32 a.f,av .u32 d] .full),(57,.int .i64 2),(58,.int .i64 i)]) (λ_=>H++[some (.cells [.vs [] .full,.vs [] .full]),some (.cells a.cs),some (.cells (av .u32 d))])
     (λi=>(0<i->mN a.f=none)/\(1<i->mN d=none)) ?_ ?_
    .simp[au,M]
    intro i hi N
    by_cases Y:i<2
    .obtain⟨g,dL,O,Qo⟩:∃g,[av .u32 a.f,av .u32 d][i]?=some (av .u32 g)/\g.length=35/\(i=0/\g=a.f\/i=1/\g=d):=by
      rcases(show i=0\/i=1 by omega) with rfl|rfl
      .exact⟨a.f,rfl,l.1,.inl ⟨rfl,rfl⟩⟩
      .exact⟨d,rfl,X,.inr ⟨rfl,rfl⟩⟩
     have hm:=zDX (G:=G) g O;have km:=e_ (k:=.u32) O;have xS:([av .u32 a.f,av .u32 d][i]'(by simp;omega))=av .u32 g:=(aag.1 dL).2;have p:=GO .u32 (n:=35) (a:=g) (b:=a.f) O l.1
     have ho:∀(r:ae),ak (H.length+3) (H++some (.cells [.vs [] .full,.vs [] .full])::some (.cells a.cs)::some (.cells (av .u32 d))::r)=H++[some (.cells [.vs [] .full,.vs [] .full]),some (.cells a.cs),some (.cells (av .u32 d))]:=λr=>by
      have:=h3.shut.back r;simpa using this
     simp(disch:=omega)[-aae,bC,xS,O,km,qI,gY,leFn];refine aw hm ?_
     cases t:mN g with
     | none =>
      have gT:mN a.f=none/\(0<i->mN d=none):=by
       rcases Qo with⟨rfl,rfl⟩|⟨rfl,rfl⟩
       .exact⟨t,λh=>by omega⟩
       .exact⟨N.1 an,λ_=>t⟩
      simp(disch:=omega)[-aae,Y,-aad,bF,au,gT,ho]
      exact gT.2
     | some j =>
      have hj:j<34:=by have:=abq t;exact abg.1 this
      have hv:=zFV (G:=G) (by infer_instance) (j:Int);rw[if_pos ⟨an,an⟩] at hv;simp(disch:=omega)[-aae];refine aw hv ?_;simp(disch:=omega)[FV,-aae,O,km,gY,aA,leFn,E,q]
      rcases Qo with⟨rfl,rfl⟩|⟨rfl,rfl⟩
      .have o:fR a=some ([(j:Int)],[0,ones]):=by rw[fR,if_neg s,if_pos J,v];simp only[t]
       simp only[decide_true] at p;simp(disch:=omega)[o,rW,FV,ones,u,-aae,p,kO,gY,leFn]
      .have GX:g≠a.f:=λe=>by rw[e,N.1 an] at t;cases t
       have o:fR a=some ([(j:Int)],[ones,0]):=by rw[fR,if_neg s,if_pos J,v];simp only[N.1 an,<-xR,t]
       rw[decide_eq_false GX] at p;simp(disch:=omega)[o,rW,FV,ones,-aae,p,gY,leFn];refine aw (zuU (by infer_instance) 4294967295) ?_;simp(disch:=omega)[FV,-aae];have A:=zBq (G:=G) j hj;simp only[FV,ones] at A;refine aw A ?_;simp(disch:=omega)[u,-aae,kO,gY,leFn]
    .obtain rfl:i=2:=by omega
     have h1:=N.1 an;have h2:=N.2 an
     have o:fR a=none:=by rw[fR,if_neg s,if_pos J,v];simp only[h1,<-xR,h2]
     simp(disch:=omega)[-aae,o,rW,u,kO]
  .have o:fR a=none:=by rw[fR,if_neg s,if_neg J]
   have W:((a.kind:Int) !=0)=true:=jY an;simp(disch:=omega)[-aae,nz,W,o,rW,u,P,Q,q,R,S,T,kO,gY,aA,leFn,U,F]
def Nd.wf(a:Nd):Prop:=(∀c∈a.f,c<4294967296)/\(a.kind=1->Right ((a.vars.take a.n).map fun(x:Nat)=>(x:Int)) (a.tab.take (2^a.n))/\a.n<=4/\∀w∈a.tab,w<4294967296)
def pW(a:Nd):Option Nat:=if a.kind=0 then oE a.f else none
def L4[aM G](x:Nat)(a:Nd)(h:Bk H b z m L)(c:L[x]?=some a):SF G 264 [.ptr b 0,.int .i64 x] H (.bf [.agg (av .u32 a.f),.bool (decide (a.kind=0))]) H :=
 ⟨_,_,zBl x a h c,ir,h.shut.back _⟩
def GY[aM G](i:Int)(h:Bk H b z m L):SF G 258 [.ptr b 0,.int .i64 i] H (.bool (bO L i)) H :=
 ⟨_,_,zFo i h,rfl,h.shut.self⟩
def dk(L:List Nd)(i:Int):Option Nat:=if bO L i then(L[i.toNat]?).bind pW else none
def zno[ar G][aM G](i:Int)(h:Bk H b z m L):SF G 266 [.ptr b 0,.int .i64 i] H (.bf [.int .u32 ((dk L i).getD 0:Nat),.bool (dk L i).isSome]) H:=by
 refine j_ aM.adk (aab rfl) ?_;have l:=h.shut.back;have p:=h.shut.self;have o:(av .u32 (aR 35)).drop 35=[]:=rfl;simp;refine cN (GY i h) ?_;cases hi:bO L i
 .simp[p,dk,hi]
 .obtain⟨q,u⟩:0<=i/\i<L.length:=by simpa[bO] using hi
  obtain⟨n,rfl⟩:=aaj q
  have s:n<L.length:=an
  obtain⟨a,e⟩:∃a,L[n]?=some a:=⟨_,iX s⟩;have c:=h.ok a (aaF e);have t:=e_ (k:=.u32) c.1
  have g:dk L n=pW a:=by simp[dk,hi,e]
  rw[g];simp;refine cN (L4 n a (h.app (r:=[none]) λn=>by simp) e) ?_
  by_cases d:a.kind=0
  .have j:pW a=oE a.f:=by rw[pW,if_pos d]
   simp[d,j,o,c.1,t];refine aw (Qr a.f c.1) ?_;simp[l]
  .have j:pW a=none:=by rw[pW,if_neg d]
   simp[d,j,o,c.1,l]
abbrev R3:=Int×Bool×List Nd
def mh(p:Int×List Nd):R3:=(p.1,true,p.2)
def kP(L:List Nd):R3:=(0,false,L)
def j6(L:List Nd)(kind:Int)(a c:Nd):R3 :=
 if a.kind=0/\c.kind=0 then
  if kind=4 then mh (bc L (eP (jN a.f c.f)))
  else if kind=20 then mh (bc L (eP (fe a.f c.f)))
  else match oE a.f,oE c.f with
   | some u,some v=>if kind=36 then mh (bc L (eP (eh a.f v))) else if kind=100 then mh (bc L (eP (eh a.f (dg 100 1 v).1)))
    else((bc L (eP ((dg kind u v).1::aR 34))).1,(dg kind u v).2,(bc L (eP ((dg kind u v).1::aR 34))).2)
   | none,some v=>if kind=36 then mh (bc L (eP (eh a.f v))) else if kind=100 then mh (bc L (eP (eh a.f (dg 100 1 v).1))) else kP L
   | some u,none=>if kind=36 then mh (bc L (eP (eh c.f u))) else kP L
   | none,none=>kP L
 else kP L
def BF3(G:aP)(f:Nat)(args:List V)(H:ae)(b z m:Nat)(p:R3):Prop:=SF G f (.ptr b 0::args) H (.bf [.int .i64 p.1,.bool p.2.1]) (dw H b z m p.2.2)
def xT{f:List Nat}{c:Nat}(h:oE f=some c)(a:∀x∈f,x<4294967296):c<4294967296:=by
 rw[oE] at h;split at h
 .exact a c (List.mem_of_mem_head? h)
 .cases h
def zDY[ef G][ar G][aM G](kind:Int)(x y:Nat)(a c:Nd)(h:Bk H b z m L)(q:L.length<1000000)(R:L[x]?=some a)(S:L[y]?=some c)(U:a.wf)(K:c.wf) :
  BF3 G 267 [.int .i64 kind,.int .i64 x,.int .i64 y] H b z m (j6 L kind a c):=by
 refine j_ aM.adl (aab rfl) ?_;have T:(av .u32 (aR 35)).drop 35=[]:=rfl;have e:=h.ok a (aaF R);have l:=h.ok c (aaF S);have w:=e_ (k:=.u32) e.1;have F:=e_ (k:=.u32) l.1
 have V:Bk (H++[some (.cells (av .u32 a.f))]) b z m L:=h.app λn=>by simp[az.cl]
 have p:Bk (H++[some (.cells (av .u32 a.f)),some (.cells (av .u32 c.f))]) b z m L:=h.app λn=>by simp[az.cl]
 have A:=h.shut.back;have W:=V.shut.self;have X:=p.shut.self;have s:∀L',dw (H++[some (.cells (av .u32 a.f)),some (.cells (av .u32 c.f))]) b z m L'=dw H b z m L'++[some (.cells (av .u32 a.f)),some (.cells (av .u32 c.f))]:=λL'=>h.bW _ L';have t:∀L' r,ak H.length (dw H b z m L'++r)=dw H b z m L':=λL' r=>h.back L' r;have B:=h.fM;simp at W X;simp;refine cN (L4 x a (h.app (r:=[none]) λn=>by simp) R) ?_
 simp[T,e.1];refine cN (L4 y c (h.app (r:=[some (.cells (av .u32 a.f)),none]) λn=>by simp[az.cl]) S) ?_;simp[T,l.1]
 by_cases g:a.kind=0
 case neg=>simp[g,j6,kP,B,A]
 by_cases o:c.kind=0
 case neg=>simp[g,o,j6,kP,B,A]
 have Y:=Qr (G:=G) a.f e.1;have Z:=Qr (G:=G) c.f l.1;simp[g,o,e.1,w,leFn];refine aw Y ?_;simp[l.1,F,aA,leFn];refine aw Z ?_;simp
 have Vu:(fe a.f c.f).length=35:=by simp[fe,e.1,l.1]
 have yB:(jN a.f c.f).length=35:=by simp[jN,e.1,l.1]
 have M:∀k,(eh a.f k).length=35:=λk=>by simp[eh,e.1]
 have Vv:∀k,(eh c.f k).length=35:=λk=>by simp[eh,l.1]
 by_cases C:kind=4
 .subst C
  have d:j6 L 4 a c=mh (bc L (eP (jN a.f c.f))):=by simp[j6,g,o]
  simp[e.1,w,l.1,F,aA,leFn];refine aw (zDW a.f c.f e.1 l.1) ?_;simp;refine cN (BV (jN a.f c.f) yB p q) ?_;simp[s,t,d,mh,bc]
 by_cases D:kind=20
 .subst D
  have d:j6 L 20 a c=mh (bc L (eP (fe a.f c.f))):=by simp[j6,g,o]
  simp[e.1,w,l.1,F,aA,leFn];refine aw (Vi a.f c.f e.1 l.1 K.1) ?_;simp;refine cN (BV (fe a.f c.f) Vu p q) ?_;simp[s,t,d,mh,bc]
 by_cases E:kind=36
 .subst E
  cases i:oE a.f<;>cases j:oE c.f
  .have d:j6 L 36 a c=kP L:=by simp[j6,g,o,i,j]
   simp[d,kP,B,A]
  .rename_i v
   have d:j6 L 36 a c=mh (bc L (eP (eh a.f v))):=by simp[j6,g,o,i,j]
   simp[e.1,w,leFn];refine aw (Qq a.f v e.1) ?_;simp;refine cN (BV (eh a.f v) (M v) p q) ?_;simp[s,t,d,mh,bc]
  .rename_i u
   have d:j6 L 36 a c=mh (bc L (eP (eh c.f u))):=by simp[j6,g,o,i,j]
   simp[l.1,F,aA,leFn];refine aw (Qq c.f u l.1) ?_;simp;refine cN (BV (eh c.f u) (Vv u) p q) ?_;simp[s,t,d,mh,bc]
  .rename_i u v
   have d:j6 L 36 a c=mh (bc L (eP (eh a.f v))):=by simp[j6,g,o,i,j]
   simp[e.1,w,leFn];refine aw (Qq a.f v e.1) ?_;simp;refine cN (BV (eh a.f v) (M v) p q) ?_;simp[s,t,d,mh,bc]
 have N:(kind==4)=false:=aL C;have O:(kind==20)=false:=aL D;have P:(kind==36)=false:=aL E
 by_cases I:kind=100
 .subst I
  cases j:oE c.f with
  | none =>
   have d:j6 L 100 a c=kP L:=by cases i:oE a.f<;>simp[j6,g,o,i,j]
   cases i:oE a.f<;>simp[d,kP,B,A]
  | some v =>
   have d:j6 L 100 a c=mh (bc L (eP (eh a.f (dg 100 1 v).1))):=by cases i:oE a.f<;>simp[j6,g,o,i,j]
   have J:=JD (G:=G) (by infer_instance) 100 1 v aga (xT j K.1);simp at J;simp;refine aw J ?_;simp[e.1,w,leFn];refine aw (Qq a.f (dg 100 1 v).1 e.1) ?_;simp;refine cN (BV (eh a.f (dg 100 1 v).1) (M _) p q) ?_;simp[s,t,d,mh,bc]
 have Q:(kind==100)=false:=aL I
 cases i:oE a.f with
 | none =>
  have d:j6 L kind a c=kP L:=by cases j:oE c.f<;>simp[j6,g,o,i,j,C,D,E,I]
  simp[N,O,P,Q,d,kP,B,A]
 | some u =>
  cases j:oE c.f with
  | none =>
   have d:j6 L kind a c=kP L:=by simp[j6,g,o,i,j,C,D,E]
   simp[N,O,P,Q,d,kP,B,A]
  | some v =>
   have d:j6 L kind a c=((bc L (eP ((dg kind u v).1::aR 34))).1,(dg kind u v).2,(bc L (eP ((dg kind u v).1::aR 34))).2):=by simp[j6,g,o,i,j,C,D,E,I]
   have J:=JD (G:=G) (by infer_instance) kind u v (xT i U.1) (xT j K.1);simp[N,O,P,Q];refine aw J ?_;simp;refine cN (JH (dg kind u v).1 p q) ?_;simp[s,t,d,bc]
def Qv{f:List Nat}{i:Nat}(h:mN f=some i):i<34:=abg.1 (abq h)
def G1{a:Nd}{p:List Int×List Nat}(d:a.wf)(h:fR a=some p):Right p.1 p.2/\∀w∈p.2,w<4294967296:=by
 rw[fR] at h;split at h
 .rename_i e;obtain⟨f,m,g⟩:=d.2 e;cases h;exact⟨f,λw b=>g w (List.mem_of_mem_take b)⟩
 .split at h
  .split at h
   .rename_i c k;cases h;exact⟨⟨ir,ir,λj l=>by simp at l⟩,λw b=>by rw[abX.1 b];exact xT k d.1⟩
   .split at h
    .rename_i i hi;cases h;exact⟨(Vs i (Qv hi)).1,by simp[ones]⟩
    .split at h
     .rename_i i hi;cases h;exact⟨(Vs i (Qv hi)).2,by simp[ones]⟩
     .cases h
  .cases h
open Classical in
noncomputable def yI(kind:Int)(p q:List Int×List Nat):Option (List Int×List Nat) :=
 if h:oS kind p.1 q.1 p.2 q.2/\∃r:List Int×List Nat,Right r.1 r.2/\(∀w∈r.2,w<4294967296)/\∀s,cZ r.1 r.2 s=(dg kind (cZ p.1 p.2 s) (cZ q.1 q.2 s)).1 then some (Classical.choose h.2) else none
def Db(o:Option (List Int×List Nat)):V:=match o with
 | some p=>.bf [FV p.1 p.2,.bool true]
 | none=>.bf [FV [] [],.bool false]
def Qw{kind:Int}{p q r:List Int×List Nat}(h:yI kind p q=some r):oS kind p.1 q.1 p.2 q.2/\Right r.1 r.2/\(∀w∈r.2,w<4294967296)/\∀s,cZ r.1 r.2 s=(dg kind (cZ p.1 p.2 s) (cZ q.1 q.2 s)).1:=by
 rw[yI] at h;split at h
 .rename_i a;cases h;exact⟨a.1,Classical.choose_spec a.2⟩
 .cases h
def zFq[j:bG G](kind:Int)(p q:List Int×List Nat)(c:Right p.1 p.2)(d:Right q.1 q.2)(k:∀w∈p.2,w<4294967296)(l:∀w∈q.2,w<4294967296) :
  FP G 109 [.int .i64 kind,FV p.1 p.2,FV q.1 q.2] (Db (yI kind p q))/\(yI kind p q=none->¬oS kind p.1 q.1 p.2 q.2):=by
 have b:=c.1;have m:=d.1;have y:=BT b c.2.1;have z:=BT m d.2.1;obtain⟨r,f,h|⟨n,o,t,rfl,g,u,i⟩⟩:=zDe j kind p.1 q.1 p.2 q.2 an an an an k l
 .have e:yI kind p q=none:=by rw[yI,dif_neg (λa=>h.1 a.1)]
  rw[e];obtain⟨b,rfl⟩:=h;exact⟨f,λ_=>b⟩
 .have a:oS kind p.1 q.1 p.2 q.2/\∃r:List Int×List Nat,Right r.1 r.2/\(∀w∈r.2,w<4294967296)/\∀s,cZ r.1 r.2 s=(dg kind (cZ p.1 p.2 s) (cZ q.1 q.2 s)).1:=⟨n,(o,t),g,u,i⟩
  have e:yI kind p q=some (Classical.choose a.2):=by rw[yI,dif_pos a]
  obtain⟨_,R,W,S⟩:=Qw e;rw[e];refine⟨?_,λh=>by cases h⟩
  obtain⟨v,x⟩:=zDh g R λs=>by rw[i,S]
  rw[Db,<-v,<-x];exact f
noncomputable def kQ(L:List Nd)(kind:Int)(a c:Nd):R3 :=
 match fR a,fR c with
 | some p,some q=>(match yI kind p q with|some r=>mh (sC L r.1 r.2)|none=>kP L)
 | _,_=>kP L
def G3[ar G][bG G][aM G](x:Nat)(a:Nd)(h:Bk H b z m L)(d:L[x]?=some a)(c:a.wf):SF G 265 [.ptr b 0,.int .i64 x] H (rW (fR a)) H :=
 zyU x a h d (λe=>(c.2 e).2.1) c.1
def lV(o:Option (List Int×List Nat)):List V:=match o with
 | some p=>[.vs (ints .i64 p.1) .no,.vs (ah .u32 p.2) .no]
 | none=>[.vs [] .full,.vs [] .full]
def JJ(o:Option (List Int×List Nat)):rW o=.bf [.agg (lV o),.bool o.isSome]:=by cases o<;>rfl
def JK(o:Option (List Int×List Nat)):(lV o).length=2:=by cases o<;>rfl
def JL(o:Option (List Int×List Nat))(n:Nat):a_ n (lV o)=lV o:=by cases o<;>simp[lV,a_,V.cl]
def zBr[ar G][bG G][aM G](kind:Int)(x y:Nat)(a c:Nd)(h:Bk H b z m L)(u:L.length<1000000)(v:L[x]?=some a)(w:L[y]?=some c)(k:a.wf)(l:c.wf) :
  BF3 G 268 [.int .i64 kind,.int .i64 x,.int .i64 y] H b z m (kQ L kind a c):=by
 refine j_ aM.adm (aab rfl) ?_
 have A:Bk (H++[some (.cells (lV (fR a)))]) b z m L:=h.app λn=>by simp[az.cl,JL]
 have o:Bk (H++[some (.cells (lV (fR a))),some (.cells (lV (fR c)))]) b z m L:=h.app λn=>by simp[az.cl,JL]
 have g:=h.shut.back;have B:=A.shut.self;have s:=o.shut.self;have C:∀L' r,ak H.length (dw H b z m L'++r)=dw H b z m L':=λL' r=>h.back L' r;have i:=h.fM;simp at B s;simp;refine cN (G3 x a (h.app (r:=[none]) λn=>by simp) v k) ?_;simp[JJ,JK];refine cN (G3 y c (h.app (r:=[some (.cells (lV (fR a))),none]) λn=>by simp[az.cl,JL]) w l) ?_;simp[JJ,JK]
 cases e:fR a with
 | none => 
  have d:kQ L kind a c=kP L:=by simp[kQ,e]
  simp[d,kP,i,g]
 | some p =>
  cases f:fR c with
  | none =>
   have d:kQ L kind a c=kP L:=by simp[kQ,e,f]
   simp[d,kP,i,g]
  | some q =>
   obtain⟨D,E⟩:=G1 k e;obtain⟨F,I⟩:=G1 l f;obtain⟨t,M⟩:=zFq (G:=G) kind p q D F E I;simp[e,f] at s o;simp[lV];simp only[FV] at t;refine aw t ?_
   cases j:yI kind p q with
   | none =>
    have d:kQ L kind a c=kP L:=by simp[kQ,e,f,j]
    simp[Db,FV,d,kP,i,g]
   | some r =>
    have d:kQ L kind a c=mh (sC L r.1 r.2):=by simp[kQ,e,f,j]
    simp[Db,FV,d,mh]
    have J:Bk (H++[some (.cells [.vs (ints .i64 p.1) .no,.vs (ah .u32 p.2) .no]),some (.cells [.vs (ints .i64 q.1) .no,.vs (ah .u32 q.2) .no]),some (.cells [.vs (ints .i64 r.1) .no,.vs (ah .u32 r.2) .no])]) b z m L :=
     h.app λn=>by simp[az.cl,a_,V.cl]
    have K:=h.bW [some (.cells [.vs (ints .i64 p.1) .no,.vs (ah .u32 p.2) .no]),some (.cells [.vs (ints .i64 q.1) .no,.vs (ah .u32 q.2) .no]),some (.cells [.vs (ints .i64 r.1) .no,.vs (ah .u32 r.2) .no])] (sC L r.1 r.2).2;refine cN (zBp r.1 r.2 (Qw j).2.1 J u) ?_;simp[K,C]
def ko(kind:Int)(a:Option Nat)(x y:Int):Int×Bool :=
 if kind=4\/kind=20\/kind=100\/kind=116 then(x,decide (a=some 0)) else if kind=68 then(x,decide (a=some 0)||decide (x=y)) else if kind=164 then(x,decide (a=some 0))
 else if kind=84 then(x,decide (a=some ones)||decide (x=y)) else(0,false)
def zsz[ar G][aM G](kind x y:Int)(h:Bk H b z m L) :
  SF G 269 [.ptr b 0,.int .i64 kind,.int .i64 x,.int .i64 y] H (.bf [.int .i64 (ko kind (dk L y) x y).1,.bool (ko kind (dk L y) x y).2]) H:=by
 refine j_ aM.adn (aab rfl) ?_;have a:=h.shut.self;simp;refine cN (zno y h) ?_
 have l:((x==y):Bool)=decide (x=y):=by rw[aaO];simp
 have n:∀(u w:Bool),u=decide (dk L y=some 0)->w=decide (dk L y=some ones)->True:=λ_ _ _ _=>trivial
 cases s:dk L y with
 | none =>
  simp
  by_cases d:kind=4
  .subst d;simp[a,ko]
  by_cases e:kind=20
  .subst e;simp[a,ko]
  by_cases f:kind=100
  .subst f;simp[a,ko]
  by_cases g:kind=116
  .subst g;simp[a,ko]
  by_cases i:kind=68
  .subst i;simp[a,ko,l]
  by_cases j:kind=164
  .subst j;simp[a,ko]
  by_cases k:kind=84
  .subst k;simp[a,ko,l]
  simp[a,ko,aL d,aL e,aL f,aL g,aL i,aL j,aL k,d,e,f,g,i,j,k]
 | some c =>
  have q:((c:Int)==0)=decide (c=0):=by rw[aaO];simp
  have r:((c:Int)==4294967295)=decide (c=4294967295):=by rw[aaO];simp;omega
  simp[q,r]
  by_cases d:kind=4
  .subst d;simp[a,ko]
  by_cases e:kind=20
  .subst e;simp[a,ko]
  by_cases f:kind=100
  .subst f;simp[a,ko]
  by_cases g:kind=116
  .subst g;simp[a,ko]
  by_cases i:kind=68
  .subst i
   by_cases o:c=0
   .simp[a,ko,o]
   .simp[a,ko,l,o]
  by_cases j:kind=164
  .subst j;simp[a,ko]
  by_cases k:kind=84
  .subst k
   by_cases p:c=4294967295
   .simp[a,ko,p,ones]
   .simp[a,ko,l,p,ones]
  simp[a,ko,aL d,aL e,aL f,aL g,aL i,aL j,aL k,d,e,f,g,i,j,k]
variable {L:List Nd}
def Nd.cu(n:Nat)(a:Nd):Prop:=a.ok/\a.wf/\(a.kind=0\/a.kind=1\/a.kind=2/\a.x<n/\a.y<n/\(dg a.op 0 1).2=true)
def Nd.cu.mono{n k:Nat}{a:Nd}(h:a.cu n)(c:n<=k):a.cu k:=⟨h.1,h.2.1,by rcases h.2.2 with h|h|⟨h,d,e,b⟩;exact .inl h;exact .inr (.inl h);exact .inr (.inr ⟨h,an,an,b⟩)⟩
structure Inv (L:List Nd):Prop where
 cu:∀(i:Nat) (a:Nd),L[i]?=some a->a.cu i
 one:L.Nodup
def Inv.ok(h:Inv L):∀a∈L,a.ok:=λa b=>by obtain⟨i,hi⟩:=abJ b;exact(h.cu i a hi).1
def Inv.wf(h:Inv L):∀a∈L,a.wf:=λa b=>by obtain⟨i,hi⟩:=abJ b;exact(h.cu i a hi).2.1
def Inv.nil:Inv []:=⟨λi a h=>by simp at h,List.nodup_nil⟩
structure Ext (L L':List Nd) (k:Nat):Prop where
 pre:L <+: L'
 inv:Inv L'
 len:L'.length<=L.length+k
def Ext.refl(h:Inv L)(k:Nat):Ext L L k:=⟨aca L,h,an⟩
def Ext.trans{L' L5:List Nd}{k l:Nat}(h:Ext L L' k)(a:Ext L' L5 l):Ext L L5 (k+l):=⟨h.pre.trans a.pre,a.inv,by have:=h.len;have:=a.len;omega⟩
def Ext.mono{L':List Nd}{k l:Nat}(h:Ext L L' k)(a:k<=l):Ext L L' l:=⟨h.pre,h.inv,by have:=h.len;omega⟩
def JM{α:Type}{l b:List α}(h:l <+: b){i:Nat}{a:α}(hi:l[i]?=some a):b[i]?=some a:=by obtain⟨t,rfl⟩:=h;rw[aaf (aag.1 hi).1];exact hi
def Ext.get{L':List Nd}{k i:Nat}{a:Nd}(h:Ext L L' k)(hi:L[i]?=some a):L'[i]?=some a:=JM h.pre hi
def vU(h:Inv L){a:Nd}(f:a.cu L.length):Ext L (bc L a).2 1/\∃i:Nat,(bc L a).1=i/\(bc L a).2[i]?=some a:=by
 by_cases c:a∈L
 .have e:(bc L a).2=L:=by show iz L a=L;rw[iz,if_pos c]
  refine⟨by rw[e];exact .refl h 1,L.idxOf a,rfl,?_⟩;rw[e,aat (List.idxOf_lt_length_of_mem c),List.getElem_idxOf]
 .have e:(bc L a).2=L++[a]:=by show iz L a=_;rw[iz,if_neg c]
  have g:(bc L a).1=(L.length:Nat):=by show((L.idxOf a:Nat):Int)=_;rw[zsy c]
  refine⟨⟨by rw[e];exact ab3 _ _,?_,by rw[e];simp⟩,L.length,g,by rw[e];simp⟩;rw[e];refine⟨λi x b=>?_,?_⟩
  .by_cases hi:i<L.length
   .rw[aaf hi] at b;exact h.cu i x b
   .have j:=(aag.1 b).1;simp at j
    obtain rfl:i=L.length:=by omega
    simp at b;subst b;exact f
  .rw[List.nodup_append];exact⟨h.one,ir,λx b y d e'=>by simp at d;rw[<-d,<-e'] at c;exact c b⟩
def yJ{f:List Nat}(a:f.length=35)(b:∀c∈f,c<4294967296)(n:Nat):(eP f).cu n:=⟨⟨a,rfl,rfl⟩,⟨b,λh=>by cases h⟩,.inl rfl⟩
def wQ(n:Nat):∀c∈aR n,c<4294967296:=λc a=>by rw[aR,ab1] at a;omega
def BW{c:Nat}(b:c<4294967296):∀x∈c::aR 34,x<4294967296:=λx a=>by
 rcases abm.1 a with rfl|a
 .exact b
 .exact wQ 34 x a
def Vy(i:Nat):∀x∈cH i,x<4294967296:=λx a=>by
 rw[cH] at a
 rcases abp a with a|rfl
 .exact wQ 35 x a
 .omega
def Qx(i:Nat):(cH i).length=35:=by simp[cH]
def Vz{o:Nat->Nat->Nat}(d:∀a b,o a b<4294967296):∀(f g:List Nat),∀x∈aar o f g,x<4294967296
 | [],_,x,c=>by simp at c
 | _::_,[],x,c=>by simp at c
 | a::f,b::g,x,c=>by
  simp only[aaQ,abm] at c
  rcases c with rfl|c
  .exact d a b
  .exact Vz d f g x c
def zwF(f g:List Nat):∀x∈jN f g,x<4294967296:=Vz (λa b=>abK _ aga) f g
def VA(f g:List Nat):∀x∈fe f g,x<4294967296:=Vz (λa b=>abK _ aga) f g
def EY(f:List Nat)(k:Nat):∀x∈eh f k,x<4294967296:=λx a=>by
 obtain⟨y,_,rfl⟩:=acg.1 a;exact abK _ aga
def zug{f g:List Nat}(a:f.length=35)(b:g.length=35):(jN f g).length=35:=by simp[jN,a,b]
def VB{f g:List Nat}(a:f.length=35)(b:g.length=35):(fe f g).length=35:=by simp[fe,a,b]
def EZ{f:List Nat}(k:Nat)(a:f.length=35):(eh f k).length=35:=by simp[eh,a]
def zqt{fv:List Int}{ft:List Nat}(h:∀v∈fv,0<=v)(a:ft.length=2^fv.length):((u5 fv ft).vars.take (u5 fv ft).n).map (fun(x:Nat)=>(x:Int))=fv/\(u5 fv ft).tab.take (2^(u5 fv ft).n)=ft:=by
 constructor
 .show((fv.map aa1++aR (4-fv.length)).take fv.length).map _=fv;rw[aaz ir,ab2]
  conv=>rhs;rw[<-List.map_id fv]
  exact List.map_congr_left λv b=>by have:=h v b;simp;omega
 .show(ft++aR (16-ft.length)).take (2^fv.length)=ft;rw[<-a];exact aaz rfl
def zuh{fv:List Int}{ft:List Nat}(h:Right fv ft):∀v∈fv,0<=v:=λv c=>by
 obtain⟨j,a,rfl⟩:=abT c;obtain⟨w,b,d,_⟩:=h.2.2 j a;rw[aat a] at b;cases b;exact d
def zBs{fv:List Int}{ft:List Nat}(h:Right fv ft)(d:∀c∈ft,c<4294967296)(n:Nat):(u5 fv ft).cu n:=by
 have a:=h.1
 have g:ft.length<=16:=by rw[h.2.1];exact aap (n:=2) aga a
 obtain⟨e,f⟩:=zqt (zuh h) h.2.1;refine⟨⟨rfl,by simp[u5];omega,by simp[u5];omega⟩,⟨wQ 35,λ_=>⟨?_,a,?_⟩⟩,.inr (.inl rfl)⟩
 .rw[e,f];exact h
 .intro w b;simp only[u5,acd] at b
  rcases b with h|h
  .exact d w h
  .exact wQ _ w h
def zDZ:∀i,i<34->fR (eP (cH i))=some ([(i:Int)],[0,ones])/\fR (eP (fe (ones::aR 34) (cH i)))=some ([(i:Int)],[ones,0]):=by decide +kernel
def zui(h:Inv L){fv:List Int}{ft:List Nat}(d:Right fv ft)(o:∀c∈ft,c<4294967296):Ext L (sC L fv ft).2 1/\∃(i:Nat) (a:Nd),(sC L fv ft).1=i/\(sC L fv ft).2[i]?=some a/\fR a=some (fv,ft):=by
 have b:sC L fv ft=bc L (u5 fv ft)->Ext L (sC L fv ft).2 1/\∃(i:Nat) (a:Nd),(sC L fv ft).1=i/\(sC L fv ft).2[i]?=some a/\fR a=some (fv,ft):=λe=>by
  obtain⟨l,m⟩:=zqt (zuh d) d.2.1;obtain⟨g,i,j,k⟩:=vU h (zBs d o _);rw[e];exact⟨g,i,_,j,k,by rw[fR,if_pos (show(u5 fv ft).kind=1 from rfl),l,m]⟩
 match fv,d,b with
 | [],d,b =>
  obtain⟨c,rfl⟩:∃c,ft=[c]:=by match ft,d.2.1 with|[c],_=>exact⟨c,rfl⟩
  obtain⟨g,i,j,k⟩:=vU h (yJ (f:=c::aR 34) ir (BW (o c ir)) _)
  exact⟨g,i,_,j,k,by simp[fR,eP,rU,oE]⟩
 | [v],d,b =>
  obtain⟨w,p,q,x,_⟩:=d.2.2 0 ir
  obtain rfl:v=w:=by simpa using p
  obtain⟨n,rfl⟩:=aaj q;obtain⟨r,s⟩:=zDZ n an
  by_cases l:ft=[0,ones]
  .have e:sC L [(n:Int)] ft=bc L (eP (cH n)):=by rw[l];rfl
   obtain⟨g,i,j,k⟩:=vU h (yJ (Qx n) (Vy n) _);rw[e];exact⟨g,i,_,j,k,by rw[r,l]⟩
  .by_cases m:ft=[ones,0]
   .have e:sC L [(n:Int)] ft=bc L (eP (fe (ones::aR 34) (cH n))):=by rw[m];rfl
    obtain⟨g,i,j,k⟩:=vU h (yJ (VB (f:=ones::aR 34) rfl (Qx n)) (VA _ _) _);rw[e];exact⟨g,i,_,j,k,by rw[s,m]⟩
   .exact b (by simp only[sC,l,m,if_false])
 | u::v::t,d,b=>exact b rfl
def gV.qJ{H:ae}(h:gV H){r:ae}(b:∀n,(H++r).length<=n->r.map (abd (az.cl n))=r):gV (H++r):=by intro m a;rw[List.map_append,b m a,h m (by rw[abY] at a;omega)]
def Bk.qJ(h:Bk H b z m L){r:ae}(a:∀n,(H++r).length<=n->r.map (abd (az.cl n))=r):Bk (H++r) b z m L :=
 ⟨by rw[aaf h.lb];exact h.hb,by rw[aaf h.lz];exact h.hz,by rw[aaf h.lm];exact h.hm,h.shut.qJ a,h.ok,h.small⟩
def Bk.to(h:Bk H b z m L){L':List Nd}(hi:Inv L')(a:L'.length<=1000000):Bk (dw H b z m L') b z m L':=h.GQ hi.ok a
def zsA(h:Bk H b z m L){L':List Nd}{p:Nat}{c:List V}(a:H[p]?=some (some (.cells c)))(d:p≠b):(dw H b z m L')[p]?=some (some (.cells c)):=by
 unfold dw
 have f:m≠p:=λe=>by subst e;rw[h.hm] at a;simp at a
 have g:z≠p:=λe=>by subst e;rw[h.hz] at a;simp at a
 rw[aaq f,aaq g,aaq (Ne.symm d)];exact a
def wT(kind:Int):Bool:=decide (kind≠20/\kind≠52/\kind≠100/\kind≠116)
def zJ(kind:Int)(x y:Nat):Nd:={ rU with kind:=2,op:=kind,x:=x,y:=y }
noncomputable def rX(L:List Nd)(kind:Int)(x y:Nat)(a c:Nd):Int×List Nd :=
 let b:=j6 L kind a c
 let d:=kQ b.2.2 kind a c
 let e:=ko kind (pW c) x y
 let f:=ko kind (pW a) y x
 if b.2.1=true then(b.1,b.2.2) else if d.2.1=true then(d.1,d.2.2) else if e.2=true then(e.1,b.2.2)
 else if wT kind=true/\f.2=true then(f.1,b.2.2)
 else if wT kind=true/\y<x then bc b.2.2 (zJ kind y x) else bc b.2.2 (zJ kind x y)
noncomputable def fN(L:List Nd)(kind x y:Int):Int×List Nd :=
 if(dg kind 0 1).2=true/\bO L x=true/\bO L y=true then(match L[x.toNat]?,L[y.toNat]? with|some a,some c=>rX L kind x.toNat y.toNat a c|_,_=>(-1,L)) else(-1,L)
def zD0(L:List Nd)(kind:Int)(a c:Nd)(h:(kQ L kind a c).2.1=false):(kQ L kind a c).2.2=L:=by
 cases b:fR a with
 | none=>simp[kQ,b,kP]
 | some p =>
  cases d:fR c with
  | none=>simp[kQ,b,d,kP]
  | some q =>
   cases e:yI kind p q with
   | none=>simp[kQ,b,d,e,kP]
   | some r=>simp[kQ,b,d,e,mh] at h
section
variable {K:ae} {kind:Int} {x y p0 p1 p2 p3 p4:Nat} {a c:Nd}
def zD1[ef G][ar G][aM G](h:Bk K b z m L)(e:L.length<1000000)(f:L[x]?=some a)(g:L[y]?=some c)(i:a.wf)(j:c.wf)
  (k:K[p0]?=some (some (.cells [.ptr b 0]))) (l:K[p1]?=some (some (.cells [.int .i64 kind]))) (n:K[p2]?=some (some (.cells [.int .i64 x]))) (o:K[p3]?=some (some (.cells [.int .i64 y]))) :
  SF G 270 [.ptr p0 0,.ptr p1 0,.ptr p2 0,.ptr p3 0] K (.bf [.int .i64 (j6 L kind a c).1,.bool (j6 L kind a c).2.1]) (dw K b z m (j6 L kind a c).2.2):=by
 refine j_ aM.ado (aab rfl) ?_;have d:=h.back (j6 L kind a c).2.2 [];simp at d;simp[k,l,n,o];refine cN (zDY kind x y a c h e f g i j) ?_;simp[d]
def zD2[ar G][bG G][aM G](h:Bk K b z m L)(e:L.length<1000000)(f:L[x]?=some a)(g:L[y]?=some c)(i:a.wf)(j:c.wf)
  (k:K[p0]?=some (some (.cells [.ptr b 0]))) (l:K[p1]?=some (some (.cells [.int .i64 kind]))) (n:K[p2]?=some (some (.cells [.int .i64 x]))) (o:K[p3]?=some (some (.cells [.int .i64 y]))) :
  SF G 271 [.ptr p0 0,.ptr p1 0,.ptr p2 0,.ptr p3 0] K (.bf [.int .i64 (kQ L kind a c).1,.bool (kQ L kind a c).2.1]) (dw K b z m (kQ L kind a c).2.2):=by
 refine j_ aM.adq (aab rfl) ?_;have d:=h.back (kQ L kind a c).2.2 [];simp at d;simp[k,l,n,o];refine cN (zBr kind x y a c h e f g i j) ?_;simp[d]
def zD3[ar G][aM G](h:Bk K b z m L)
  (a:K[p0]?=some (some (.cells [.ptr b 0]))) (c:K[p1]?=some (some (.cells [.int .i64 kind]))) (d:K[p2]?=some (some (.cells [.int .i64 x]))) (e:K[p3]?=some (some (.cells [.int .i64 y]))) :
  SF G 272 [.ptr p0 0,.ptr p1 0,.ptr p2 0,.ptr p3 0] K (.bf [.int .i64 (ko kind (dk L y) x y).1,.bool (ko kind (dk L y) x y).2]) K:=by
 refine j_ aM.adr (aab rfl) ?_;have f:=h.shut.self;simp[a,c,d,e];refine cN (zsz kind x y h) ?_;simp[f]
def zD4[ar G][aM G](a:Bool)(h:Bk K b z m L)(c:K[p4]?=some (some (.cells [.bool a])))
  (e:K[p0]?=some (some (.cells [.ptr b 0]))) (f:K[p1]?=some (some (.cells [.int .i64 kind]))) (g:K[p2]?=some (some (.cells [.int .i64 x]))) (i:K[p3]?=some (some (.cells [.int .i64 y]))) :
  SF G 273 [.ptr p4 0,.ptr p0 0,.ptr p1 0,.ptr p3 0,.ptr p2 0] K (.bf [.int .i64 (if a=true then(ko kind (dk L x) y x).1 else 0),.bool (a&&(ko kind (dk L x) y x).2)]) K:=by
 refine j_ aM.ads (aab rfl) ?_;have d:=h.shut.self;cases a
 .simp[c,d]
 .simp[e,f,g,i,c];refine cN (zsz kind y x h) ?_;simp[d]
end
def VC{kind:Int}{a c:Nd}(h:Inv L)(d:a.ok)(g:c.ok)(i:a.wf)(j:c.wf):Ext L (j6 L kind a c).2.2 1:=by
 have e:Ext L (kP L).2.2 1:=.refl h 1;have b:∀f:List Nat,f.length=35->(∀x∈f,x<4294967296)->Ext L (mh (bc L (eP f))).2.2 1:=λf k l=>(vU h (yJ k l _)).1;rw[j6];split
 .split
  .exact b _ (zug d.1 g.1) (zwF _ _)
  .split
   .exact b _ (VB d.1 g.1) (VA _ _)
   .split
    .rename_i u v m n;split
     .exact b _ (EZ _ d.1) (EY _ _)
     .split
      .exact b _ (EZ _ d.1) (EY _ _)
      .exact(vU h (yJ ir (BW (Qy kind (xT m i.1) (xT n j.1))) _)).1
    .split
     .exact b _ (EZ _ d.1) (EY _ _)
     .split
      .exact b _ (EZ _ d.1) (EY _ _)
      .exact e
    .split
     .exact b _ (EZ _ g.1) (EY _ _)
     .exact e
    .exact e
 .exact e
def zsB{y:Nat}{c:Nd}(a:L[y]?=some c):dk L y=pW c:=by
 have b:=(aag.1 a).1
 have d:bO L y=true:=by simp[bO];exact b
 simp[dk,d,a]
def Qz{f:Nat}{cap args:List V}{r:V}{H':ae}{base:Nat}{d:Option Nat}{os:List aF}{K:List Kt}{e:Env}{Q:Ex->Env->ae->Prop}(h:SF G f (args++cap) H r H')
  (a:WO G base os K (e.put d r) H' Q):JN G false (.fn f cap) args base d os K e H Q:=by
 obtain⟨i,H1,b,c,g⟩:=h;refine kF b ir ?_;rw[c,g];exact a
def QA[ef G][ar G][bG G][aM G](kind x y:Int)(h:Bk H b z m L)(hi:Inv L)(hs:L.length<999990):BF G 274 [.int .i64 kind,.int .i64 x,.int .i64 y] H b z m (fN L kind x y):=by
 refine j_ aM.adt (aab rfl) ?_;obtain⟨B0,Jk⟩:∃B0:ae,B0=[some (.cells [.ptr b 0]),some (.cells [.int .i64 kind]),some (.cells [.int .i64 x]),some (.cells [.int .i64 y])]:=⟨_,rfl⟩
 have X:∀n,H.length<=n->b<n:=λn D=>by have:=h.lb;omega
 have h1:Bk (H++[some (.cells [.ptr b 0]),some (.cells [.int .i64 kind]),some (.cells [.int .i64 x]),some (.cells [.int .i64 y])]) b z m L:=h.qJ λn D=>by simp[az.cl,a_,V.cl];exact X n (by simp at D;omega)
 have rD:=h1.shut.self;have fz:=h.shut.back;have T:=h.fM;simp at rD;have wM:=JD (G:=G) (by infer_instance) kind 0 1 aga aga;simp at wM
 have jd:∀p:Prop,fN L kind x y=(-1,L)->p->(fN L kind x y).1=-1/\dw H b z m (fN L kind x y).2=H:=λp e _=>by rw[e];exact⟨rfl,T⟩
 simp;refine aw wM ?_;simp
 cases jy:(dg kind 0 1).2 with
 | false =>
  have J:fN L kind x y=(-1,L):=by rw[fN,if_neg (by simp[jy])]
  simp[J,T,fz]
 | true =>
  simp;refine cN (GY x h1) ?_
  cases hx:bO L x with
  | false =>
   have J:fN L kind x y=(-1,L):=by rw[fN,if_neg (by simp[hx])]
   simp[J,T,fz]
  | true =>
   simp;refine cN (GY y h1) ?_
   cases hy:bO L y with
   | false =>
    have J:fN L kind x y=(-1,L):=by rw[fN,if_neg (by simp[hy])]
    simp[J,T,fz]
   | true =>
    obtain⟨sH,xW⟩:0<=x/\x<L.length:=by simpa[bO] using hx
    obtain⟨Dc,Aj⟩:0<=y/\y<L.length:=by simpa[bO] using hy
    obtain⟨f,rfl⟩:=aaj sH;obtain⟨g,rfl⟩:=aaj Dc;obtain⟨a,Y⟩:∃a,L[f]?=some a:=⟨_,iX an⟩;obtain⟨c,Z⟩:∃c,L[g]?=some c:=⟨_,iX an⟩
    have J:fN L kind f g=rX L kind f g a c:=by rw[fN,if_pos ⟨jy,hx,hy⟩];simp[Y,Z]
    rw[J];obtain⟨l,v⟩:=ax (wT kind)
    have h2:Bk (H++[some (.cells [.ptr b 0]),some (.cells [.int .i64 kind]),some (.cells [.int .i64 f]),some (.cells [.int .i64 g]),some (.cells [.bool l])]) b z m L:=h.qJ λn D=>by simp[az.cl,a_,V.cl];exact X n (by simp at D;omega)
    obtain⟨C,K⟩:∃C:List V,C=[.fn 270 [.ptr H.length 0,.ptr (H.length+1) 0,.ptr (H.length+2) 0,.ptr (H.length+3) 0],.fn 271 [.ptr H.length 0,.ptr (H.length+1) 0,.ptr (H.length+2) 0,.ptr (H.length+3) 0],
     .fn 272 [.ptr H.length 0,.ptr (H.length+1) 0,.ptr (H.length+2) 0,.ptr (H.length+3) 0],.fn 273 [.ptr (H.length+4) 0,.ptr H.length 0,.ptr (H.length+1) 0,.ptr (H.length+3) 0,.ptr (H.length+2) 0]]:=⟨_,rfl⟩
    have u6:=h2.shut.self;simp at u6
    have c5:kind=20/\l=false\/kind=52/\l=false\/kind=100/\l=false\/kind=116/\l=false\/(kind≠20/\kind≠52/\kind≠100/\kind≠116)/\l=true:=by
     by_cases a1:kind=20
     .simp[a1,v,wT]
     by_cases a2:kind=52
     .simp[a2,v,wT]
     by_cases a3:kind=100
     .simp[a3,v,wT]
     by_cases a4:kind=116
     .simp[a4,v,wT]
     simp[a1,a2,a3,a4,v,wT]
    have QB:kind≠20->(kind !=20)=true:=λh=>jY h;have VD:kind≠52->(kind !=52)=true:=λh=>jY h;have De:kind≠100->(kind !=100)=true:=λh=>jY h;have G7:kind≠116->(kind !=116)=true:=λh=>jY h
    have U:∀n,H.length+6<=n->a_ n C=C:=λn D=>by
     rw[K];simp[a_,V.cl,show H.length<n by omega,show H.length+1<n by omega,show H.length+2<n by omega,show H.length+3<n by omega,show H.length+4<n by omega]
    have h3:Bk (H++[some (.cells [.ptr b 0]),some (.cells [.int .i64 kind]),some (.cells [.int .i64 f]),some (.cells [.int .i64 g]),some (.cells [.bool l]),some (.cells C)]) b z m L:=h.qJ λn D=>by simp at D;simp[az.cl,a_,V.cl,U n an];exact X n an
    obtain⟨j,q⟩:∃j:List Nd->ae,∀L',j L'=dw H b z m L'++[some (.cells [.ptr b 0]),some (.cells [.int .i64 kind]),some (.cells [.int .i64 f]),some (.cells [.int .i64 g]),some (.cells [.bool l]),some (.cells C)]:=⟨_,λ_=>rfl⟩
    have bL:j L=H++[some (.cells [.ptr b 0]),some (.cells [.int .i64 kind]),some (.cells [.int .i64 f]),some (.cells [.int .i64 g]),some (.cells [.bool l]),some (.cells C)]:=by rw[q,T]
    have bU:∀L':List Nd,j L'=dw (H++[some (.cells [.ptr b 0]),some (.cells [.int .i64 kind]),some (.cells [.int .i64 f]),some (.cells [.int .i64 g]),some (.cells [.bool l]),some (.cells C)]) b z m L':=λL'=>by rw[h.bW,q]
    have bB:∀L':List Nd,Inv L'->L'.length<=1000000->Bk (j L') b z m L':=λL' sI nb=>by rw[bU];exact h3.to sI nb
    have W:∀d L2:List Nd,dw (j d) b z m L2=j L2:=λd L2=>by rw[bU,bU,h3.lI]
    have R:∀L':List Nd,(j L').length=H.length+6:=λL'=>by rw[q];simp[rS]
    have g0:∀(L':List Nd) (r:ae),(dw H b z m L'++r)[H.length]?=r[0]?:=λL' r=>by rw[<-rS H b z m L',kO]
    have S:∀(L':List Nd) (r:ae) (k:Nat),(dw H b z m L'++r)[H.length+k]?=r[k]?:=λL' r k=>by
     have:=gY (dw H b z m L') r k;rwa[rS] at this
    have sk:∀(L':List Nd) (r:ae) (k:Nat) (x:Option az),(dw H b z m L'++r).set (H.length+k) x=dw H b z m L'++r.set k x:=λL' r k x=>by
     have:=wF (dw H b z m L') r k x;rwa[rS] at this
    have M:∀L',(j L')[H.length]?=some (some (.cells [.ptr b 0])):=λL'=>by rw[q,g0];rfl
    have q1:∀L',(j L')[H.length+1]?=some (some (.cells [.int .i64 kind])):=λL'=>by rw[q,S];rfl
    have N:∀L',(j L')[H.length+2]?=some (some (.cells [.int .i64 f])):=λL'=>by rw[q,S];rfl
    have O:∀L',(j L')[H.length+3]?=some (some (.cells [.int .i64 g])):=λL'=>by rw[q,S];rfl
    have q4:∀L',(j L')[H.length+4]?=some (some (.cells [.bool l])):=λL'=>by rw[q,S];rfl
    have q5:∀L',(j L')[H.length+5]?=some (some (.cells C)):=λL'=>by rw[q,S];rfl
    have gX:=hi.cu f a Y;have ui:=hi.cu g c Z;have P:=VC (kind:=kind) hi gX.1 ui.1 gX.2.1 ui.2.1;obtain⟨d,E⟩:=ax ((j6 L kind a c).2.2);rw[<-E] at P;have l1:=P.len;have k0:=bB L hi an;have k1:=bB d P.inv an;have qj:=P.get Y;have yH:=P.get Z;have cx:=zsB qj;have cy:=zsB yH
    have tr:∀(L':List Nd),Inv L'->L'.length<=1000000->∀r,ak (H.length+6) (j L'++r)=j L':=λL' sI nb r=>by
     have:=(bB L' sI nb).shut.back r;rwa[R] at this
    have hb:=tr L hi an;have he:=tr d P.inv an
    have hf:ak (H.length+6) (j L)=j L:=by simpa using hb []
    have QC:ak (H.length+6) (j d)=j d:=by simpa using he []
    have hg:∀L' r,ak H.length (j L'++r)=dw H b z m L':=λL' r=>by rw[q,ab7];exact h.back L' _
    have iC:∀L',ak H.length (j L')=dw H b z m L':=λL'=>by simpa using hg L' []
    obtain⟨I,L7,QD⟩:∃I:Nat->List Nd,I 0=L/\∀i,I (i+1)=d:=⟨λi=>match i with|0=>L|_+1=>d,rfl,λ_=>rfl⟩
    have C0:C.take 1=[.fn 270 [.ptr H.length 0,.ptr (H.length+1) 0,.ptr (H.length+2) 0,.ptr (H.length+3) 0]]:=by rw[K];rfl
    have C1:C.tail.take 1=[.fn 271 [.ptr H.length 0,.ptr (H.length+1) 0,.ptr (H.length+2) 0,.ptr (H.length+3) 0]]:=by rw[K];rfl
    have C2:(C.drop 2).take 1=[.fn 272 [.ptr H.length 0,.ptr (H.length+1) 0,.ptr (H.length+2) 0,.ptr (H.length+3) 0]]:=by rw[K];rfl
    have C3:(C.drop 3).take 1=[.fn 273 [.ptr (H.length+4) 0,.ptr H.length 0,.ptr (H.length+1) 0,.ptr (H.length+3) 0,.ptr (H.length+2) 0]]:=by rw[K];rfl
    have lC:C.length=4:=by rw[K];rfl
    have A1:=zD1 (G:=G) (kind:=kind) k0 an Y Z gX.2.1 ui.2.1 (M L) (q1 L) (N L) (O L);have A2:=zD2 (G:=G) (kind:=kind) k1 an qj yH gX.2.1 ui.2.1 (M d) (q1 d) (N d) (O d);have A3:=zD3 (G:=G) (kind:=kind) k1 (M d) (q1 d) (N d) (O d);have A4:=zD4 (G:=G) (kind:=kind) l k1 (q4 d) (M d) (q1 d) (N d) (O d);rw[<-E,W] at A1;rw[W] at A2;rw[cy] at A3;rw[cx] at A4
    have L8:I 1=d:=QD 0;have L9:I 2=d:=QD 1;have L_:I 3=d:=QD 2;have Df:I 4=d:=QD 3;have G8:aB .i64 0 1=1:=rfl;have E0:aB .i64 1 1=2:=rfl;have hj:aB .i64 2 1=3:=rfl;have hl:aB .i64 3 1=4:=rfl;have sD:∀(u w:Nat) (r:List (Nat×V)),nV (gP ((80,.int .i64 w)::(79,.int .i64 u)::(78,.int .i64 kind)::r)) rU.cs [(0,1,.c (.int .i64 2)),(57,1,.t 78),(58,1,.t 79),(59,1,.t 80)]=some (zJ kind u w).cs:=λ_ _ _=>rfl
    have hd:=h.to P.inv an
    have s:∀u w:Nat,rX L kind f g a c=bc d (zJ kind u w) ->
      SF G 259 [.ptr b 0,.agg (zJ kind u w).cs] (dw H b z m d++[some (.cells [.ptr b 0]),some (.cells [.int .i64 kind]),some (.cells [.int .i64 u]),some (.cells [.int .i64 w]),some (.cells [.bool l]),some (.cells C)]) (.int .i64 (rX L kind f g a c).1)
       (dw H b z m (rX L kind f g a c).2++[some (.cells [.ptr b 0]),some (.cells [.int .i64 kind]),some (.cells [.int .i64 u]),some (.cells [.int .i64 w]),some (.cells [.bool l]),some (.cells C)]):=λu w o=>by
     have hm:Bk (dw H b z m d++[some (.cells [.ptr b 0]),some (.cells [.int .i64 kind]),some (.cells [.int .i64 u]),some (.cells [.int .i64 w]),some (.cells [.bool l]),some (.cells C)]) b z m d :=
      hd.qJ λn D=>by simp[rS] at D;simp[az.cl,a_,V.cl,U n an];exact X n an
     have:=JF (G:=G) (zJ kind u w) ⟨rfl,rfl,rfl⟩ hm an;rw[hd.bW,h.lI] at this;rw[o];exact this
    have wU:∀(L':List Nd) (r:ae),ak H.length (dw H b z m L'++r)=dw H b z m L':=λL' r=>h.back L' r
    rcases c5 with⟨hk,A⟩|⟨hk,A⟩|⟨hk,A⟩|⟨hk,A⟩|⟨⟨z1,z2,z3,z4⟩,A⟩
    all_goals
     first
      | simp[QB z1,VD z2,De z3,G7 z4]
      | simp[Ah (show kind=20 by omega)]
      | simp[QB an,Ah (show kind=52 by omega)]
      | simp[QB an,VD an,Ah (show kind=100 by omega)]
      | simp[QB an,VD an,De an,Ah (show kind=116 by omega)]
     rw[A] at bL;rw[<-K,<-bL]
     refine aN 4 (λi=>[(4,.ptr H.length 0),(5,.ptr (H.length+1) 0),(6,.ptr (H.length+2) 0),(7,.ptr (H.length+3) 0),(11,.ptr (H.length+4) 0),(55,.rs (H.length+5) 0 4 1),(56,.int .i64 4),(57,.int .i64 i)])
      (λi=>j (I i)) (λi=>(0<i->(j6 L kind a c).2.1=false)/\(1<i->(kQ d kind a c).2.1=false)/\(2<i->(ko kind (pW c) f g).2=false)/\(3<i->(l&&(ko kind (pW a) g f).2)=false)) ?_ ?_
     .simp[au,R,hf,L7]
     intro i wi B
     by_cases aj:i<4
     .rcases(show i=0\/i=1\/i=2\/i=3 by omega) with rfl|rfl|rfl|rfl
      .simp[L7,q5,C0,lC];refine Qz A1 ?_
       cases F:(j6 L kind a c).2.1 with
       | true =>
        have o:rX L kind f g a c=((j6 L kind a c).1,d):=by rw[E,rX];simp only[F,if_true]
        simp[o,iC]
       | false =>
        simp[R,au,QC,L8,G8]
      .have p1:=B.1 an;simp[L8,q5,C1,lC];refine Qz A2 ?_
       cases F:(kQ d kind a c).2.1 with
       | true =>
        have o:rX L kind f g a c=((kQ d kind a c).1,(kQ d kind a c).2.2):=by rw[rX];simp only[p1,<-E,F,if_true,aaC,if_false]
        simp[o,iC]
       | false =>
        have eL:=zD0 d kind a c F;simp[p1,R,au,QC,L9,eL,E0]
      .have p1:=B.1 an;have p2:=B.2.1 an;simp[L9,q5,C2,lC];refine Qz A3 ?_
       cases F:(ko kind (pW c) f g).2 with
       | true =>
        have o:rX L kind f g a c=((ko kind (pW c) f g).1,d):=by rw[rX];simp only[p1,p2,<-E,F,if_true,aaC,if_false]
        simp[o,iC]
       | false =>
        simp[p1,p2,R,au,QC,L_,hj]
      .have p1:=B.1 an;have p2:=B.2.1 an;have p3:=B.2.2.1 an;simp[L_,q5,C3,lC];refine Qz A4 ?_
       cases F:(l&&(ko kind (pW a) g f).2) with
       | true =>
        have G9:wT kind=true/\(ko kind (pW a) g f).2=true:=by rw[<-v];simpa using F
        have o:rX L kind f g a c=((ko kind (pW a) g f).1,d):=by rw[rX];simp only[p1,p2,p3,<-E,G9,if_true,aaC,if_false,and_self]
        have Q:l=true:=by rw[v];exact G9.1
        simp[o,iC,Q]
       | false =>
        simp[p1,p2,p3,R,au,QC,Df,hl]
        exact λhh=>by simpa[hh] using F
     .obtain rfl:i=4:=by omega
      have p1:=B.1 an;have p2:=B.2.1 an;have p3:=B.2.2.1 an;have p4:=B.2.2.2 an
      first
       | (
         have Q:wT kind=false:=by rw[<-v];exact A
         have o:rX L kind f g a c=bc d (zJ kind f g):=by rw[rX];simp only[p1,p2,p3,<-E,Q,aaC,if_false,false_and]
         simp[Df,q4,N,O,q1,M,A];rw[q];simp[-nV];refine cN (s f g o) ?_
         simp[wU])
       | (
         have ho:¬(wT kind=true/\(ko kind (pW a) g f).2=true):=λhh=>by rw[v,hh.1,hh.2] at p4;cases p4
         have Q:wT kind=true:=by rw[<-v];exact A
         have p5:(ko kind (pW a) g f).2=false:=by cases e:(ko kind (pW a) g f).2 with|false=>rfl|true=>exact absurd ⟨Q,e⟩ ho
         by_cases Ha:g<f
         .have o:rX L kind f g a c=bc d (zJ kind g f):=by rw[rX];simp only[p1,p2,p3,<-E,p5,Q,Ha,if_true,aaC,if_false,and_false,and_self]
          simp[Df,q4,N,O,q1,M,A,Ha];rw[q];simp[-nV,nz,S,sk,sD];refine cN (s g f o) ?_;simp[wU]
         .have o:rX L kind f g a c=bc d (zJ kind f g):=by rw[rX];simp only[p1,p2,p3,<-E,p5,Q,Ha,aaC,if_false,and_false]
          simp[Df,q4,N,O,q1,M,A,Ha];rw[q];simp[-nV];refine cN (s f g o) ?_
          simp[wU])
open Go Go.RowKit
variable {G:aP}
variable {H:ae} {b z m:Nat} {L:List Nd}
def yK(L:List Nd):Int×List Nd:=bc L (eP (0::aR 34))
noncomputable def kX(L:List Nd)(x:Int):Int×List Nd:=if bO L x=true then fN (yK L).2 20 (yK L).1 x else(-1,L)
def QE(h:Inv L):Ext L (yK L).2 1:=(vU h (yJ ir (BW aga) _)).1
def zD5[ef G][ar G][bG G][aM G](x:Int)(h:Bk H b z m L)(hi:Inv L)(l:L.length<999980):BF G 275 [.int .i64 x] H b z m (kX L x):=by
 refine j_ aM.adu (aab rfl) ?_;have g:=h.shut.self;have i:=h.fM;simp;refine cN (GY x h) ?_
 cases e:bO L x with
 | false =>
  have c:kX L x=(-1,L):=by rw[kX,if_neg (by simp[e])]
  simp[c,g,i]
 | true =>
  have c:kX L x=fN (yK L).2 20 (yK L).1 x:=by rw[kX,if_pos e]
  have d:=QE hi;have n:=d.len;have j:=h.to d.inv an;simp;have k:=JH (G:=G) 0 h an;refine cN k ?_;have f:=QA (G:=G) 20 (yK L).1 x j d.inv an;rw[BF,h.lI] at f;have a:=h.back (fN (yK L).2 20 (yK L).1 x).2 [];simp at a;simp;refine cN f ?_;simp[c,a]
def fT(kind:Int)(o o':Option Nat):Option Nat:=match o,o' with
 | some l,some r=>if(dg kind l r).2=true then some (dg kind l r).1 else none
 | _,_=>none
noncomputable def fO(v:List Nat)(b:List (Option Nat))(a:Nd):Option Nat :=
 if a.kind=0 then some (jT a.f v) else if a.kind=1 then(fR a).map λp=>val p.1 p.2 (pj v)
 else fT a.op b[a.x]?.join b[a.y]?.join
noncomputable def cV(v:List Nat)(L:List Nd):List (Option Nat):=L.foldl (λb a=>b++[fO v b a]) []
section
variable {v:List Nat}
def zsC(L:List Nd)(a:Nd):cV v (L++[a])=cV v L++[fO v (cV v L) a]:=by simp[cV]
def vV:∀L:List Nd,(cV v L).length=L.length:=by
 intro L
 have:∀(L:List Nd) (b:List (Option Nat)),(L.foldl (λb a=>b++[fO v b a]) b).length=b.length+L.length:=λL=>by
  induction L with
  | nil=>intro b;rfl
  | cons a L c=>intro b;simp only[acf,c];simp;omega
 simpa[cV] using this L []
def zBt:∀(L M:List Nd),cV v L <+: cV v (L++M):=by
 intro L M
 have:∀(M:List Nd) (b:List (Option Nat)),b <+: M.foldl (λb a=>b++[fO v b a]) b:=λM=>by
  induction M with
  | nil=>intro b;exact aca _
  | cons a M c=>intro b;exact(ab3 _ _).trans (c _)
 rw[cV,cV,List.foldl_append];exact this M _
def zuj{L L':List Nd}(h:L <+: L'):cV v L <+: cV v L':=by obtain⟨M,rfl⟩:=h;exact zBt L M
def JO(L:List Nd)(i:Nat):(cV v L).take i=cV v (L.take i):=by
 have h:=zuj (v:=v) (List.take_prefix i L);obtain⟨t,a⟩:=h
 by_cases hi:i<=L.length
 .rw[<-a,aaz (by rw[vV,aau];omega)]
 .rw[aai (by rw[vV];omega),aai an]
def zwG{i:Nat}{a:Nd}(h:L[i]?=some a):(cV v L)[i]?=some (fO v (cV v (L.take i)) a):=by
 have d:=(aag.1 h).1
 have e:L.take (i+1)=L.take i++[a]:=by rw[aaR,h];rfl
 have b:=JO (v:=v) L (i+1);rw[e,zsC] at b
 have c:((cV v L).take (i+1))[i]?=(cV v L)[i]?:=by rw[aay];simp
 rw[<-c,b,aan (by rw[vV,aau];omega),vV,aau];rw[show i-min i L.length=0 by omega];rfl
end
def zuk(f v:List Nat):jT f v<4294967296:=abK _ aga
def VE{v:List Nat}{k i:Nat}{o:Option Nat}(hi:Inv L)(h:(cV v (L.take k))[i]?=some o):o.getD 0<4294967296:=by
 have a:∀(i:Nat) (o:Option Nat),(cV v L)[i]?=some o->o.getD 0<4294967296:=λi=>by
  induction i using Nat.strongRecOn with
  | _ i n =>
   intro o m;have q:=(aag.1 m).1;rw[vV] at q;have s:=iX q;rw[zwG s] at m;cases m;have B:=hi.cu i _ s
   have b:∀j,j<i->(cV v (L.take i))[j]?=(cV v L)[j]?:=λj C=>by rw[<-JO,aay,if_pos C]
   rw[fO];split
   .exact zuk _ _
   .split
    .cases e:fR L[i] with
     | none=>simp
     | some p=>simp only[ace,aa_];exact zFp _ _ _
    .rcases B.2.2 with h|h|⟨_,t,u,_⟩
     .contradiction
     .contradiction
     .unfold fT;split
      .rename_i l r c d;split
       .rw[b _ t] at c;rw[b _ u] at d
        obtain⟨f,D,E⟩:∃f,(cV v L)[L[i].x]?=some f/\f=some l:=by
         cases e:(cV v L)[L[i].x]? with
         | none=>rw[e] at c;cases c
         | some f=>rw[e] at c;exact⟨f,rfl,c⟩
        obtain⟨g,F,G⟩:∃g,(cV v L)[L[i].y]?=some g/\g=some r:=by
         cases e:(cV v L)[L[i].y]? with
         | none=>rw[e] at d;cases d
         | some g=>rw[e] at d;exact⟨g,rfl,d⟩
        have w:=n _ t _ D;have z:=n _ u _ F;rw[E] at w;rw[G] at z;exact Qy _ w z
       .simp
      .simp
 by_cases A:i<k
 .rw[<-JO,aay,if_pos A] at h;exact a i o h
 .rw[<-JO,aay,if_neg A] at h;cases h
noncomputable def de(v:List Nat)(L:List Nd)(x:Int):Option Nat:=if bO L x=true then(cV v L)[x.toNat]?.join else none
def kn(l:List (Option Nat)):List V:=(l.map λo=>[V.int .u32 (o.getD 0:Nat),.bool o.isSome]).flatten
def Mb(l:List (Option Nat)):(kn l).length=2*l.length:=by
 induction l with
 | nil=>rfl
 | cons o l a=>simp[kn] at a |-;omega
def VF:∀(l:List (Option Nat)) (i:Nat),(kn l).drop (2*i)=kn (l.drop i)
 | [],i=>by simp[kn]
 | o::l,0=>rfl
 | o::l,i+1=>by
  have e:kn (o::l)=[V.int .u32 (o.getD 0:Nat),.bool o.isSome]++kn l:=rfl;have a:([V.int .u32 (o.getD 0:Nat),.bool o.isSome]++kn l).drop 2=kn l:=rfl;rw[e,show 2*(i+1)=2+2*i by omega,<-aaJ,a,VF l i];rfl
def zwH:∀(l:List (Option Nat)) (i:Nat),(kn l).take (2*i)=kn (l.take i)
 | [],i=>by simp[kn]
 | o::l,0=>rfl
 | o::l,i+1=>by
  have e:kn (o::l)=[V.int .u32 (o.getD 0:Nat),.bool o.isSome]++kn l:=rfl;rw[e,show 2*(i+1)=2*i+1+1 by omega];show V.int .u32 (o.getD 0:Nat)::.bool o.isSome::(kn l).take (2*i)=_;rw[zwH l i];rfl
def VG{l:List (Option Nat)}{i:Nat}{o:Option Nat}(h:l[i]?=some o):((kn l).drop (2*i)).take 2=[V.int .u32 (o.getD 0:Nat),.bool o.isSome]:=by rw[VF];obtain⟨a,rfl⟩:=aag.1 h;rw[List.drop_eq_getElem_cons a];rfl
def zFr{l:List (Option Nat)}{i:Nat}(h:i<l.length)(o:Option Nat):(kn l).take (2*i)++([V.int .u32 (o.getD 0:Nat),.bool o.isSome]++(kn l).drop (2*i+2))=kn (l.set i o):=by rw[zwH,show 2*i+2=2*(i+1) by omega,VF,List.set_eq_take_append_cons_drop,if_pos h];simp[kn]
def zDg(l:List (Option Nat))(n:Nat):a_ n (kn l)=kn l:=by
 induction l with
 | nil=>rfl
 | cons o l a =>
  have e:kn (o::l)=.int .u32 (o.getD 0:Nat)::.bool o.isSome::kn l:=rfl;rw[e];simp[a_,V.cl,a]
def zyV[ef G][ar G][hB:iT G][aM G][di G](x:Int)(v:List Nat)(h:Bk H b z m L)(hi:Inv L)(D:v.length=34)(rC:∀c∈v,c<4294967296) :
  SF G 276 [.ptr b 0,.int .i64 x,.agg (av .u32 v)] H (.bf [.int .u32 ((de v L x).getD 0:Nat),.bool (de v L x).isSome]) H:=by
 refine j_ di.adv (aab rfl) ?_;have EX:=e_ (k:=.u32) D
 have h1:Bk (H++[some (.cells (av .u32 v))]) b z m L:=h.app λn=>by simp[az.cl]
 have rD:=h1.shut.self;have fz:=h.shut.back;have aj:=h.lb;have hb:=h.cM
 have im:∀r:ae,(H++r)[b]?=some (some (.cells [.vs (rR L) (.own z),.mp m])):=λr=>by rw[aaf aj];exact hb
 have zY:=h.small;simp at rD;simp;refine cN (GY x h1) ?_
 cases U:bO L x with
 | false=>simp[de,U,fz]
 | true =>
  obtain⟨sH,xW⟩:0<=x/\x<L.length:=by simpa[bO] using U
  obtain⟨n,rfl⟩:=aaj sH
  have hn:n<L.length:=an
  have VH:(∀f∈rR L,f.length=60)=True:=eq_true (zyS h.ok);obtain⟨S,W⟩:=ax ((rR L).take (n+1))
  have zK:S.length=n+1:=by rw[W];simp;omega
  have X:∀(i:Nat) (a:Nd),i<n+1->L[i]?=some a->S[i]?=some a.cs:=λi a hi u=>by rw[W,aay,if_pos hi,Vf u]
  have yL:(aam (n+1) [V.int .u32 0,V.bool false]).flatten=kn (aam (n+1) none):=by simp[kn]
  simp(disch:=omega)[im,gY,bF,-aad,mf,aA,VH,<-W,zK,yL];obtain⟨T,B⟩:∃T:Nat->List (Option Nat),∀i,T i=cV v (L.take i)++aam (n+1-i) none:=⟨_,λ_=>rfl⟩
  have T0:T 0=aam (n+1) none:=by rw[B];simp[cV]
  have Tl:∀i,i<=n+1->(T i).length=n+1:=λi hi=>by rw[B];simp[vV];omega
  have Y:∀i j,i<=n+1->j<i->(T i)[j]?=(cV v (L.take i))[j]?:=λi j hi hj=>by rw[B,aaf (by simp[vV];omega)]
  have Ts:∀(i:Nat) (a:Nd),i<n+1->L[i]?=some a->(T i).set i (fO v (cV v (L.take i)) a)=T (i+1):=λi a hi u=>by
   have e:L.take (i+1)=L.take i++[a]:=by rw[aaR,u];rfl
   have E:(cV v (L.take i)).length=i:=by rw[vV];simp;omega
   rw[B,B,e,zsC,aba _ _ an,E,abt,show n+1-i=(n+1-(i+1))+1 by omega,aaH,ab4,ab7];rfl
  obtain⟨g,F⟩:∃g:Nat->ae,∀i,g i=H++[some (.cells (av .u32 v)),some (.cells (kn (T i)))]:=⟨_,λ_=>rfl⟩
  have CH:∀i,Bk (g i) b z m L:=λi=>by rw[F];exact h.app λn=>by simp[az.cl,zDg]
  have bl:∀i,(g i).length=H.length+2:=λi=>by rw[F];simp
  have tr:∀i r,ak (H.length+2) (g i++r)=g i:=λi r=>by have:=(CH i).shut.back r;rwa[bl] at this
  have I:∀i r,ak (H.length+2) (H++some (.cells (av .u32 v))::some (.cells (kn (T i)))::r)=g i:=λi r=>by have:=tr i r;rw[F] at this |-;simpa using this
  refine aN (n+1) (λi=>[(0,.ptr b 0),(1,.int .i64 n),(5,.ptr H.length 0),(8,.rs (H.length+1) 0 (n+1) 2),(32,.vs S .no),(33,.int .i64 (n+1:Nat)),(34,.int .i64 i)]) g (λ_=>True) ?_ ?_
  .have:=I 0 [];have w:(b<H.length+2)=True:=af8;simp[au,<-T0,this,w]
  intro i hu _
  by_cases Mc:i<n+1
  .obtain⟨a,u⟩:∃a,L[i]?=some a:=⟨_,iX an⟩;have hg:=X i a Mc u;have q:=hi.cu i a u;have E:=Nd.len q.1;have eT:a.cs.take 60=a.cs:=aai an;have ug:rU.cs.drop 60=[]:=rfl;have qE:rU.cs.length=60:=rfl;have xS:S[i]' an=a.cs:=(aag.1 hg).2;have t1:a.cs.take 1=[.int .i64 (a.kind:Int)]:=rfl
   have Z:a.cs.tail.take 35=av .u32 a.f:=by show(av .u32 a.f++_).take 35=_;rw[aaz (by simp[q.1.1])]
   have dV:=Ts i a Mc u;have C:=Tl i an;have s:=zFr (l:=T i) (i:=i) an (fO v (cV v (L.take i)) a);rw[dV,abe 2 i] at s;have jz:((i:Int)<(n:Int)+1)=True:=af8;have w:(b<H.length+2)=True:=af8
   have VI:i*2+2<=2*(n+1):=an
   rw[F];simp(disch:=omega)[bC,xS,E,eT,ug,qE,nz,gY,aA,leFn,t1];have K:∀r,ak (H.length+2) (H++some (.cells (av .u32 v))::some (.cells (kn (T (i+1))))::r)=g (i+1):=λr=>I (i+1) r
   by_cases M:a.kind=0
   .have N:((a.kind:Int)==0)=true:=C9 an
    have t:fO v (cV v (L.take i)) a=some (jT a.f v):=by rw[fO,if_pos M]
    rw[t] at s;simp only[aa_,abi,aaK,aby] at s;simp(disch:=omega)[N,Z,kO,gY,aA,leFn,E,D,EX];refine aw (zBn a.f v q.1.1 D q.2.1.1) ?_;simp(disch:=omega)[gY,aA,C,Mb,fL,s,K,au,w,bF,-aad]
   .have N:((a.kind:Int)==0)=false:=aL an
    by_cases O:a.kind=1
    .have kT:((a.kind:Int)==1)=true:=C9 an
     obtain⟨p,hp⟩:∃p,fR a=some p:=by rw[fR,if_pos O];exact⟨_,rfl⟩
     obtain⟨P,xV⟩:=G1 q.2.1 hp
     have t:fO v (cV v (L.take i)) a=some (val p.1 p.2 (pj v)):=by rw[fO,if_neg M,if_pos O,hp];rfl
     rw[t] at s;simp only[aa_,abi,aaK,aby] at s;have hw:=P.1;have hy:=BT P.1 P.2.1;have VJ:=zDQ hB p.1 p.2 v an an xV D rC;rw[ER.2 P,if_pos rfl] at VJ;simp only[FV] at VJ;simp(disch:=omega)[N,kT];refine cN (G3 i a (h.app (r:=[some (.cells (av .u32 v)),some (.cells (kn (T i))),some (.cells a.cs),none]) λn=>by simp[az.cl,zDg,Nd.kA]) u q.2.1) ?_;simp(disch:=omega)[hp,rW,FV,kO,gY,leFn,D,EX]
     refine aw VJ ?_;simp(disch:=omega)[gY,aA,C,Mb,fL,s,K,au,w,bF,-aad]
    .have kT:((a.kind:Int)==1)=false:=aL an
     obtain⟨Hd,hc,he,bw⟩:a.kind=2/\a.x<i/\a.y<i/\(dg a.op 0 1).2=true:=by rcases q.2.2 with h|h|h;exact absurd h M;exact absurd h O;exact h
     have hf:a.cs=(.int .i64 (a.kind:Int)::(av .u32 a.f++.int .i64 (a.n:Int)::(av .i64 a.vars++av .u32 a.tab)))++[.int .i64 a.op,.int .i64 (a.x:Int),.int .i64 (a.y:Int)]:=by simp[Nd.cs]
     have hh:(V.int .i64 (a.kind:Int)::(av .u32 a.f++.int .i64 (a.n:Int)::(av .i64 a.vars++av .u32 a.tab))).length=57:=by simp[q.1.1,q.1.2.1,q.1.2.2]
     have A:a.cs.drop 57=[.int .i64 a.op,.int .i64 (a.x:Int),.int .i64 (a.y:Int)]:=by rw[hf];exact aa0 hh
     have hm:(a.cs.drop 58).take 1=[.int .i64 (a.x:Int)]:=by rw[show 58=57+1 from rfl,<-aaJ,A];rfl
     have hq:(a.cs.drop 59).take 1=[.int .i64 (a.y:Int)]:=by rw[show 59=57+2 from rfl,<-aaJ,A];rfl
     have VK:(a.cs.drop 57).take 1=[.int .i64 a.op]:=by rw[A];rfl
     obtain⟨Q,Lx⟩:∃o,(cV v (L.take i))[a.x]?=some o:=⟨_,iX (by rw[vV,aau];omega)⟩;obtain⟨R,Dg⟩:∃o,(cV v (L.take i))[a.y]?=some o:=⟨_,iX (by rw[vV,aau];omega)⟩;have gx:=VG (l:=T i) (i:=a.x) (o:=Q) (by rw[Y i a.x an hc,Lx]);have gy:=VG (l:=T i) (i:=a.y) (o:=R) (by rw[Y i a.y an he,Dg]);rw[abe] at gx gy;have hr:((a.x:Int)<(n:Int)+1)=True:=af8;have hs:((a.y:Int)<(n:Int)+1)=True:=af8
     have QH:H.length+3+1=H.length+4:=rfl;simp(disch:=omega)[N,kT,gY,aA,leFn,E,VK,hm,hq,hr,hs,Mb,C,gx,gy,QH];have wM:=JD (G:=G) (by infer_instance) a.op (Q.getD 0) (R.getD 0) (VE hi Lx) (VE hi Dg);refine aw wM ?_;simp(disch:=omega)[gY,leFn]
     have t:fO v (cV v (L.take i)) a=fT a.op Q R:=by rw[fO,if_neg M,if_neg O,Lx,Dg];rfl
     have d:fO v (cV v (L.take i)) a=none->T (i+1)=T i:=λe=>by
      rw[e] at dV;rw[<-dV];apply CV;rw[B,aan (by rw[vV,aau];omega),vV,aau,List.getElem?_replicate,if_pos an]
     have S1:T (i+1)=T i->∀r,ak (H.length+2) (H++some (.cells (av .u32 v))::some (.cells (kn (T i)))::r)=g (i+1):=λe r=>by rw[<-e];exact K r
     cases Q with
     | none =>
      have J:=S1 (d t)
      simp(disch:=omega)[J,fL,au,w,bF,-aad]
     | some l =>
      cases R with
      | none =>
       have J:=S1 (d t)
       simp(disch:=omega)[J,gY,leFn,fL,au,w,bF,-aad]
      | some r =>
       cases hd:(dg a.op l r).2 with
       | false =>
        have J:=S1 (d (by rw[t,fT];simp only[hd,aaC,if_false]))
        simp(disch:=omega)[hd,J,gY,leFn,fL,au,w,bF,-aad]
       | true =>
        rw[fT] at t;simp only[hd,if_true] at t;rw[t] at s;simp only[aa_,abi,aaK,aby] at s;simp(disch:=omega)[hd,gY,aA,leFn,C,Mb,fL,s,K,au,w,bF,-aad]
  .obtain rfl:i=n+1:=by omega
   obtain⟨o,ho⟩:∃o,(cV v L)[n]?=some o:=⟨_,iX (by rw[vV];omega)⟩
   have JA:de v L n=o:=by rw[de,if_pos U];simp[ho]
   have ht:(T (n+1))[n]?=some o:=by rw[Y (n+1) n an an,<-JO,aay,if_pos an,ho]
   have JP:=VG ht;rw[abe] at JP;have C:=Tl (n+1) an;rw[F];have jz:((n:Int)<(n:Int)+1)=True:=af8
   have k1:((kn (T (n+1))).drop (n*2)).take 1=[.int .u32 (o.getD 0:Nat)]:=by have:=congrArg (List.take 1) JP;rwa[List.take_take] at this
   have k2:((kn (T (n+1))).drop (n*2+1)).take 1=[.bool o.isSome]:=by have:=congrArg (List.drop 1) JP;rw[List.drop_take,aaJ] at this;exact this
   simp(disch:=omega)[JA,gY,aA,Mb,C,jz,k1,k2,fz]
open Go Go.RowKit
variable {G:aP}
structure Md where
 kind:Int
 i:Int
 op:Int
 x:Int
 y:Int
 c:Nat
def Md.cs(a:Md):List V:=[.int .i64 a.kind,.int .i64 a.i,.int .i64 a.op,.int .i64 a.x,.int .i64 a.y,.int .u32 (a.c:Int)]
def mds(l:List Md):List (List V):=l.map Md.cs
@[simp] theorem zGA (l:List Md):(mds l).length=l.length:=by simp[mds]
def uk(l:List Md)(i:Int):Bool:=decide (0<=i/\i<l.length)&&(match l[i.toNat]? with|some a=>decide (a.kind≠4)|none=>false)
def Me:Md:=⟨4,0,0,0,0,0⟩
def mP(l:List Md)(a:Md):Md :=
 if a.kind=0 then⟨0,0,0,0,0,a.c⟩ else if a.kind=1/\0<=a.i/\a.i<34 then⟨1,a.i,0,0,0,0⟩
 else if a.kind=2/\(dg a.op 0 1).2=true/\uk l a.x=true/\uk l a.y=true then⟨2,0,a.op,a.x,a.y,0⟩
 else if a.kind=3/\uk l a.x=true then⟨3,0,0,a.x,0,0⟩ else Me
def Dh(v:List Nat)(b:List (Option Nat))(a:Md):Option Nat :=
 if a.kind=0 then some a.c else if a.kind=1 then some (v[a.i.toNat]?.getD 0) else if a.kind=2 then fT a.op b[a.x.toNat]?.join b[a.y.toNat]?.join
 else if a.kind=3 then(b[a.x.toNat]?.join).map rY else none
def refs(v:List Nat)(l:List Md):List (Option Nat):=l.foldl (λb a=>b++[Dh v b a]) []
section
variable {v:List Nat} {l:List Md}
def zyW(l:List Md)(a:Md):refs v (l++[a])=refs v l++[Dh v (refs v l) a]:=by simp[refs]
def VL:∀l:List Md,(refs v l).length=l.length:=by
 intro l
 have:∀(l:List Md) (b:List (Option Nat)),(l.foldl (λb a=>b++[Dh v b a]) b).length=b.length+l.length:=λl=>by
  induction l with
  | nil=>intro b;rfl
  | cons a l c=>intro b;simp only[acf,c];simp;omega
 simpa[refs] using this l []
def VM(l:List Md):Prop:=∀(i:Nat) (a:Md),l[i]?=some a->a.c<4294967296/\(a.kind=0\/a.kind=1/\0<=a.i/\a.i<34\/a.kind=2/\0<=a.x/\a.x<i/\0<=a.y/\a.y<i\/a.kind=3/\0<=a.x/\a.x<i\/a.kind=4)
end
open Go Go.RowKit
variable {G:aP}
variable {H:ae} {b z m:Nat} {L:List Nd}
def uo(l:List Int)(i:Int):Int:=if 0<=i/\i<l.length then l[i.toNat]?.getD 0 else -1
structure MS where
 L:List Nd
 ids:List Int
 made:List Md
noncomputable def vW(s:MS)(a:Md):Int×List Nd :=
 if a.kind=0 then bc s.L (eP (a.c::aR 34)) else if a.kind=1 then j5 s.L a.i else if a.kind=2 then fN s.L a.op (uo s.ids a.x) (uo s.ids a.y)
 else if a.kind=3 then kX s.L (uo s.ids a.x) else(-1,s.L)
noncomputable def E1(s:MS)(a:Md):MS:=⟨(vW s a).2,s.ids++[(vW s a).1],s.made++[mP s.made a]⟩
def zum{kind:Int}{a c:Nd}(h:Inv L)(i:a.wf)(j:c.wf):Ext L (kQ L kind a c).2.2 1:=by
 cases b:fR a with
 | none=>simp only[kQ,b,kP];exact .refl h 1
 | some p =>
  cases d:fR c with
  | none=>simp only[kQ,b,d,kP];exact .refl h 1
  | some q =>
   cases e:yI kind p q with
   | none=>simp only[kQ,b,d,e,kP];exact .refl h 1
   | some r =>
    simp only[kQ,b,d,e,mh];obtain⟨_,f,g,_⟩:=Qw e;exact(zui h f g).1
def VN{kind:Int}{x y n:Nat}(a:(dg kind 0 1).2=true)(b:x<n)(c:y<n):(zJ kind x y).cu n :=
 ⟨⟨rfl,rfl,rfl⟩,⟨wQ 35,λh=>by cases h⟩,.inr (.inr ⟨rfl,b,c,a⟩)⟩
def VO{kind x y:Int}(h:Inv L):Ext L (fN L kind x y).2 2:=by
 rw[fN];split
 case isFalse=>exact .refl h 2
 rename_i d;obtain⟨d,j,k⟩:=d
 obtain⟨l,q⟩:0<=x/\x<L.length:=by simpa[bO] using j
 obtain⟨m,r⟩:0<=y/\y<L.length:=by simpa[bO] using k
 obtain⟨n,rfl⟩:=aaj l;obtain⟨o,rfl⟩:=aaj m;obtain⟨a,g⟩:∃a,L[n]?=some a:=⟨_,iX an⟩;obtain⟨c,i⟩:∃c,L[o]?=some c:=⟨_,iX an⟩;have e:=h.cu _ _ g;have f:=h.cu _ _ i;simp only[aa4,g,i,rX];have b:=VC (kind:=kind) h e.1 f.1 e.2.1 f.2.1;have p:=zum (kind:=kind) b.inv e.2.1 f.2.1;have s:=b.pre.length_le;split
 .exact b.mono an
 .split
  .exact b.trans p
  .split
   .exact b.mono an
   .split
    .exact b.mono an
    .split
     .exact b.trans (vU b.inv (VN d an an)).1
     .exact b.trans (vU b.inv (VN d an an)).1
def Mf{i:Int}(h:Inv L):Ext L (j5 L i).2 1:=by
 rw[j5];split
 .exact(vU h (yJ (Qx _) (Vy _) _)).1
 .exact .refl h 1
def VP{x:Int}(h:Inv L):Ext L (kX L x).2 3:=by
 rw[kX];split
 .exact(QE h).trans (VO (QE h).inv)
 .exact .refl h 3
def zBu{s:MS}{a:Md}(h:Inv s.L)(b:a.c<4294967296):Ext s.L (E1 s a).L 3:=by
 show Ext s.L (vW s a).2 3;rw[vW];split
 .exact(vU h (yJ ir (BW b) _)).1.mono an
 .split
  .exact(Mf h).mono an
  .split
   .exact(VO h).mono an
   .split
    .exact VP h
    .exact .refl h 3
noncomputable def zD6(s:MS)(l:List Md):MS:=l.foldl E1 s
def Md.kA(a:Md)(n:Nat):a_ n a.cs=a.cs:=by simp[Md.cs,a_,V.cl]
variable {L:List Nd} {v:List Nat}
def dot:List Nat->List Nat->Int
 | a::f,b::v=>a*b+dot f v
 | _,_=>0
def zwI:∀(f v:List Nat),((aar (·*·) f v).sum:Nat)=dot f v
 | [],_=>by simp[dot]
 | _::_,[]=>by simp[dot]
 | a::f,b::v=>by
  have:=zwI f v;simp only[aaQ,abL,dot];omega
def BY{c:Nat}{t:List Nat}(a:t.length=34)(b:v.length=34):(jT (c::t) v:Int)=((c:Int)+dot t v)%4294967296:=by
 have e:(wH (c::t) v 34:Int)=dot t v:=by rw[wH,abn,List.tail_cons,aai (by simp[a,b]),zwI]
 rw[jT,List.headD_cons];rw[<-e];omega
def He(a b:Int):Prop:=∃k:Int,a=b+4294967296*k
def QI(a:Nat):∃q:Int,((a%4294967296:Nat):Int)=(a:Int)-4294967296*q:=⟨((a/4294967296:Nat):Int),an⟩
def zwJ:∀(f g v:List Nat),f.length=g.length->He (dot (jN f g) v) (dot f v+dot g v)
 | [],[],v,_=>⟨0,by simp[jN,dot]⟩
 | [],_::_,_,h=>by simp at h
 | _::_,[],_,h=>by simp at h
 | _::_,_::_,[],_=>⟨0,by simp[jN,dot]⟩
 | a::f,b::g,x::v,h=>by
  obtain⟨k,c⟩:=zwJ f g v (by simpa using h);obtain⟨q,d⟩:=QI (a+b);refine⟨k-q*x,?_⟩;simp only[jN,aaQ,dot] at c |-;rw[c,d];simp only[aad]
  grind
def zwK:∀(f g v:List Nat),f.length=g.length->(∀x∈g,x<4294967296)->He (dot (fe f g) v) (dot f v-dot g v)
 | [],[],v,_,_=>⟨0,by simp[fe,dot]⟩
 | [],_::_,_,h,_=>by simp at h
 | _::_,[],_,h,_=>by simp at h
 | _::_,_::_,[],_,_=>⟨0,by simp[fe,dot]⟩
 | a::f,b::g,x::v,h,c=>by
  obtain⟨k,d⟩:=zwK f g v (by simpa using h) λy j=>c y (by simp[j]);obtain⟨q,i⟩:=QI (a+4294967296-b);have l:=c b ir
  have e:((a+4294967296-b:Nat):Int)=(a:Int)+4294967296-b:=an
  rw[e] at i;refine⟨k-q*x+x,?_⟩;simp only[fe,aaQ,dot] at d |-;rw[d,i]
  grind
def zwL(k:Nat):∀(f v:List Nat),He (dot (eh f k) v) (dot f v*k)
 | [],v=>⟨0,by simp[eh,dot]⟩
 | _::_,[]=>⟨0,by simp[eh,dot]⟩
 | a::f,x::v=>by
  obtain⟨j,b⟩:=zwL k f v;obtain⟨q,c⟩:=QI (a*k);refine⟨j-q*x,?_⟩;simp only[eh,aaV,dot] at b |-;rw[b,c];simp only[aaZ]
  grind
def JQ{f:List Nat}(a:f.length=35):∃c t,f=c::t/\t.length=34:=by
 match f,a with
 | c::t,h=>exact⟨c,t,rfl,by simpa using h⟩
def zyX{f g:List Nat}(i:f.length=35)(j:g.length=35)(a:v.length=34):jT (jN f g) v=(jT f v+jT g v)%4294967296:=by obtain⟨c,t,rfl,b⟩:=JQ i;obtain⟨d,u,rfl,h⟩:=JQ j;have e:jN (c::t) (d::u)=((c+d)%4294967296)::jN t u:=rfl;have n:=BY (c:=c) b a;have o:=BY (c:=d) h a;have l:=BY (c:=(c+d)%4294967296) (t:=jN t u) (v:=v) (by simp[jN,b,h]) a;obtain⟨k,m⟩:=zwJ t u v an;rw[m] at l;rw[e];omega
def zsD{f g:List Nat}(j:f.length=35)(l:g.length=35)(b:∀x∈g,x<4294967296)(a:v.length=34):jT (fe f g) v=(jT f v+4294967296-jT g v)%4294967296:=by obtain⟨c,t,rfl,h⟩:=JQ j;obtain⟨d,u,rfl,i⟩:=JQ l;have e:fe (c::t) (d::u)=((c+4294967296-d)%4294967296)::fe t u:=rfl;have p:=BY (c:=c) h a;have q:=BY (c:=d) i a;have m:=BY (c:=(c+4294967296-d)%4294967296) (t:=fe t u) (v:=v) (by simp[fe,h,i]) a;obtain⟨k,n⟩:=zwK t u v an λx o=>b x (by simp[o]);have hd:=b d ir;rw[n] at m;rw[e];omega
def VQ{f:List Nat}(k:Nat)(g:f.length=35)(a:v.length=34):jT (eh f k) v=jT f v*k%4294967296:=by
 obtain⟨c,t,rfl,b⟩:=JQ g;have e:eh (c::t) k=(c*k%4294967296)::eh t k:=rfl;have h:=BY (c:=c) b a;have d:=BY (c:=c*k%4294967296) (t:=eh t k) (v:=v) (by simp[eh,b]) a;obtain⟨j,i⟩:=zwL k t v;obtain⟨q,l⟩:=QI (c*k);rw[i,l] at d;rw[e]
 have m:(jT (c*k%4294967296::eh t k) v:Int)=((c+dot t v)*k)%4294967296:=by
  rw[d]
  have:((c*k:Nat):Int)-4294967296*q+(dot t v*k+4294967296*j)=(c+dot t v)*k+4294967296*(j-q):=by simp only[aaZ];grind
  rw[this,Int.add_mul_emod_self_left]
 have n:((jT (c::t) v*k%4294967296:Nat):Int)=((c+dot t v)*k)%4294967296:=by rw[aao,aaZ,h,show((4294967296:Nat):Int)=4294967296 from rfl,acj,Int.emod_emod,<-acj]
 omega
def VR:∀(n:Nat) (v:List Nat),dot (aR n) v=0
 | 0,_=>by simp[aR,dot]
 | n+1,[]=>by simp[aR,aaH,dot]
 | n+1,x::v=>by
  have:=VR n v;simp only[aR,aaH,dot] at this |-;omega
def BZ{c:Nat}(b:c<4294967296)(a:v.length=34):jT (c::aR 34) v=c:=by have h:=BY (c:=c) (t:=aR 34) (v:=v) ir a;rw[VR] at h;omega
def zwM:∀(n i:Nat) (v:List Nat) (h:i<v.length),i<n->dot ((aR n).set i 1) v=(v[i]:Nat)
 | 0,i,v,h,hi=>by omega
 | n+1,i,[],h,hi=>by simp at h
 | n+1,0,x::v,h,hi=>by
  have:=VR n v;simp only[aR,aaH,ab4,dot,List.getElem_cons_zero] at this |-
  omega
 | n+1,i+1,x::v,h,hi=>by
  have:=zwM n i v (by simpa using h) an;simp only[aR,aaH,List.set_cons_succ,dot,List.getElem_cons_succ] at this |-;omega
def VT{i:Nat}(hi:i<34)(a:v.length=34)(b:∀x∈v,x<4294967296):jT (cH i) v=v[i]'(by omega):=by have e:cH i=0::(aR 34).set i 1:=rfl;have h:=BY (c:=0) (t:=(aR 34).set i 1) (v:=v) ir a;have d:=b _ (aaI (show i<v.length by omega));rw[zwM 34 i v an hi] at h;rw[e];omega
variable {L L':List Nd} {v:List Nat}
def zsE{c:Nat}(a:c<4294967296)(r:Int->Nat):val [] [c] r=c:=by
 rw[val,<-VU (w:=c) a]
 exact VV λi hi=>by simp[cZ,idx,VU (w:=c) a]
def zwN(i:Int)(r:Int->Nat)(a:r i<4294967296):val [i] [0,ones] r=r i:=by
 rw[val,<-VU (w:=r i) a];refine VV λj b=>?_
 have e:ones.testBit j=true:=by rw[ones,show 4294967295=2^32-1 from rfl,abl];simpa using b
 cases h:(r i).testBit j<;>simp[cZ,idx,h,e]
def zBv{a:Nat}(b:a<4294967296):a ^^^ ones=4294967295-a:=by
 refine abb λj=>?_;rw[Nat.testBit_xor,ones,show 4294967295=2^32-1 from rfl,abl,show 2^32-1-a=2^32-(a+1) by omega,Nat.testBit_two_pow_sub_succ b]
 by_cases c:j<32
 .simp[c]
 .simp only[c,decide_false,Bool.false_and,Bool.xor_false];exact abA (abV b (aap (n:=2) (i:=32) aga an))
def zD7(i:Int)(r:Int->Nat)(a:r i<4294967296):val [i] [ones,0] r=4294967295-r i:=by have h:=zyT (kind:=164) (fv:=[i]) (gv:=[]) (vs:=[i]) (ft:=[0,ones]) (gt:=[ones]) (tab:=[ones,0]) (.inr (.inr rfl)) (λp=>by cases h:p i<;>simp[cZ,idx,h,dg,ones]) r;rw[zwN i r a,zsE aga] at h;simp only[dg] at h;rw[h];simp;exact zBv a
def Hf{f:List Nat}{c:Nat}(a:f.length=35)(h:oE f=some c):f=c::aR 34:=by
 obtain⟨d,t,rfl,b⟩:=JQ a;rw[oE] at h;split at h
 .rename_i e;cases h;rw[<-e];rfl
 .cases h
def zwO{f:List Nat}{i:Nat}(h:mN f=some i):f=cH i:=by have:=List.find?_some h;simpa using this
def JR(i:Nat):de v L i=(cV v L)[i]?.join:=by
 rw[de]
 by_cases h:i<L.length
 .have:bO L i=true:=by simp[bO];exact h
  rw[if_pos this];rfl
 .have:¬bO L i=true:=by simp[bO];omega
  rw[if_neg this,List.getElem?_eq_none (by rw[vV];omega)];rfl
def zun{a:Nd}{i:Nat}(b:a.cu i)(e:i<=L.length):fO v (cV v (L.take i)) a=fO v (cV v L) a:=by
 rw[fO,fO];split
 .rfl
 .split
  .rfl
  .rcases b.2.2 with h|h|⟨_,c,d,_⟩
   .contradiction
   .contradiction
   .rw[<-JO,aay,if_pos c,aay,if_pos d]
def QJ{i:Nat}{a:Nd}(h:Inv L)(b:L[i]?=some a):de v L i=fO v (cV v L) a:=by rw[JR,zwG b,zun (h.cu i a b) (by have:=(aag.1 b).1;omega)];rfl
def Hg{k i:Nat}(h:Ext L L' k)(hi:i<L.length):de v L' i=de v L i:=by rw[JR,JR,JM (zuj h.pre) (iX (by rw[vV];exact hi)),iX (by rw[vV];exact hi)]
def VW{a:Nd}{p:List Int×List Nat}{k:List (Option Nat)}(o:a.ok)(q:a.wf)(b:fR a=some p)(g:v.length=34)(l:∀x∈v,x<4294967296):fO v k a=some (val p.1 p.2 (pj v)):=by
 by_cases m:a.kind=1
 .rw[fO,if_neg an,if_pos m,b];rfl
 .have j:a.kind=0:=by
   by_cases j:a.kind=0
   .exact j
   .rw[fR,if_neg m,if_neg j] at b;cases b
  have n:∀(i:Nat) (h:i<34),pj v (i:Int)=v[i]'(by omega):=λi h=>by
   rw[pj,aa4,aal,iX an];rfl
  have r:∀i:Nat,i<34->pj v (i:Int)<4294967296:=λi h=>by rw[n i h];exact l _ (aaI _)
  rw[fO,if_pos j];rw[fR,if_neg m,if_pos j] at b
  congr 1
  split at b
  .rename_i c s;cases b;have t:=xT s q.1;rw[Hf o.1 s,BZ t g,zsE t]
  .split at b
   .rename_i i hi;cases b;have d:=Qv hi;rw[zwO hi,VT d g l,zwN _ _ (r i d),n i d]
   .split at b
    .rename_i i hi;cases b;have d:=Qv hi
     have e:=congrArg (jT · v) (zwO hi)
     rw[zsD ir o.1 q.1 g,VT d g l,BZ aga g] at e;have u:=zuk a.f v;rw[zD7 _ _ (r i d),n i d,<-e];simp only[ones];omega
    .cases b
def vX(v:List Nat)(p:Int×List Nd)(o:Option Nat):Prop:=∃i:Nat,p.1=i/\i<p.2.length/\de v p.2 i=o
def zwP{a:Nd}(h:Inv L)(b:a.cu L.length):vX v (bc L a) (fO v (cV v L) a):=by
 obtain⟨e,i,d,c⟩:=vU h b;refine⟨i,d,(aag.1 c).1,?_⟩;rw[QJ e.inv c]
 have:L=(bc L a).2.take L.length:=by obtain⟨t,f⟩:=e.pre;rw[<-f,aaz rfl]
 conv=>rhs;rw[this]
 rw[zun b e.pre.length_le]
def QK{f:List Nat}(h:Inv L)(a:f.length=35)(b:∀c∈f,c<4294967296):vX v (bc L (eP f)) (some (jT f v)):=zwP h (yJ a b _)
def zBw{fv:List Int}{ft:List Nat}(h:Inv L)(f:Right fv ft)(g:∀c∈ft,c<4294967296)(j:v.length=34)(k:∀x∈v,x<4294967296):vX v (sC L fv ft) (some (val fv ft (pj v))):=by obtain⟨e,i,a,l,b,m⟩:=zui h f g;refine⟨i,l,(aag.1 b).1,?_⟩;have d:=e.inv.cu i a b;rw[QJ e.inv b,VW d.1 d.2.1 m j k]
def VX{kind:Int}{a c:Nat}(h:(dg kind a c).2=true):fT kind (some a) (some c)=some (dg kind a c).1:=by rw[fT];simp only[h,if_true]
def ztG{k:Nat}:(dg 100 1 k).1=2^(k%32)%4294967296:=by simp[dg]
def zBx{kind:Int}{a c:Nd}(h:Inv L)(j:a.ok)(l:c.ok)(B:a.wf)(s:c.wf)(i:v.length=34)(b:(j6 L kind a c).2.1=true) :
  a.kind=0/\c.kind=0/\vX v ((j6 L kind a c).1,(j6 L kind a c).2.2) (fT kind (some (jT a.f v)) (some (jT c.f v))):=by
 rw[j6] at b |-;split at b
 case isFalse=>simp[kP] at b
 rename_i w;rw[if_pos w];refine⟨w.1,w.2,?_⟩
 have conv:∀(f:List Nat) (n:Nat),f.length=35->(∀c∈f,c<4294967296)->jT f v=n->(dg kind (jT a.f v) (jT c.f v)).2=true->(dg kind (jT a.f v) (jT c.f v)).1=n ->
   vX v ((mh (bc L (eP f))).1,(mh (bc L (eP f))).2.2) (fT kind (some (jT a.f v)) (some (jT c.f v))):=λf n D E e F G=>by
  rw[VX F,G,<-e];exact QK h D E
 by_cases x:kind=4
 .simp only[x,if_true] at b |-;subst x;exact conv _ _ (zug j.1 l.1) (zwF _ _) (zyX j.1 l.1 i) (by simp[dg]) (by simp[dg])
 by_cases y:kind=20
 .simp only[y,if_true] at b |-;subst y;exact conv _ _ (VB j.1 l.1) (VA _ _) (zsD j.1 l.1 s.1 i) (by simp[dg]) (by simp[dg])
 simp only[x,y,if_false] at b |-
 have q:∀k,oE c.f=some k->kind=36->vX v ((mh (bc L (eP (eh a.f k)))).1,(mh (bc L (eP (eh a.f k)))).2.2) (fT kind (some (jT a.f v)) (some (jT c.f v))):=λk d g=>by
  have p:=xT d s.1
  have z:jT c.f v=k:=by rw[Hf l.1 d,BZ p i]
  subst g;exact conv _ _ (EZ _ j.1) (EY _ _) (VQ k j.1 i) (by simp[dg]) (by rw[z];simp[dg])
 have r:∀k,oE c.f=some k->kind=100->vX v ((mh (bc L (eP (eh a.f (dg 100 1 k).1)))).1,(mh (bc L (eP (eh a.f (dg 100 1 k).1)))).2.2) (fT kind (some (jT a.f v)) (some (jT c.f v))):=λk d m=>by
  have p:=xT d s.1
  have z:jT c.f v=k:=by rw[Hf l.1 d,BZ p i]
  subst m;refine conv _ _ (EZ _ j.1) (EY _ _) (VQ _ j.1 i) (by simp[dg]) ?_;rw[z,ztG];simp[dg,Nat.mul_mod]
 split at b
 .rename_i u k o d
  try simp only[o,d]
  split at b
  .rename_i g;rw[if_pos g];exact q k d g
  .rename_i g;rw[if_neg g];split at b
   .rename_i m;rw[if_pos m];exact r k d m
   .rename_i m;rw[if_neg m];simp only at b;have t:=xT o B.1;have C:=xT d s.1
    have A:jT a.f v=u:=by rw[Hf j.1 o,BZ t i]
    have H:jT c.f v=k:=by rw[Hf l.1 d,BZ C i]
    have p:=Qy kind t C;rw[A,H,VX b];have:=QK (v:=v) h (f:=(dg kind u k).1::aR 34) ir (BW p);rwa[BZ p i] at this
 .rename_i k o d
  try simp only[o,d]
  split at b
  .rename_i g;rw[if_pos g];exact q k d g
  .rename_i g;rw[if_neg g];split at b
   .rename_i m;rw[if_pos m];exact r k d m
   .simp[kP] at b
 .rename_i u o d
  try simp only[o,d]
  split at b
  .rename_i g;rw[if_pos g];have t:=xT o B.1
   have A:jT a.f v=u:=by rw[Hf j.1 o,BZ t i]
   subst g;refine conv _ _ (EZ _ l.1) (EY _ _) (VQ u l.1 i) (by simp[dg]) ?_;rw[A];simp[dg,abe]
  .simp[kP] at b
 .simp[kP] at b
def zBy{kind:Int}{a c:Nd}(h:Inv L)(n:a.wf)(o:c.wf)(i:v.length=34)(j:∀x∈v,x<4294967296)(d:(kQ L kind a c).2.1=true) :
  ∃p q,fR a=some p/\fR c=some q/\vX v ((kQ L kind a c).1,(kQ L kind a c).2.2) (fT kind (some (val p.1 p.2 (pj v))) (some (val q.1 q.2 (pj v)))):=by
 cases b:fR a with
 | none=>simp[kQ,b,kP] at d
 | some p =>
  cases e:fR c with
  | none=>simp[kQ,b,e,kP] at d
  | some q =>
   cases f:yI kind p q with
   | none=>simp[kQ,b,e,f,kP] at d
   | some r =>
    refine⟨p,q,rfl,rfl,?_⟩;simp only[kQ,b,e,f,mh];obtain⟨g,k,l,m⟩:=Qw f
    have hd:∀x y,(dg kind x y).2=true:=λx y=>by rcases g.1 with rfl|rfl|rfl<;>simp[dg]
    rw[VX (hd _ _),<-zyT g.1 m];exact zBw h k l i j
def zBz{a:Nat}(b:a<4294967296):a &&& 4294967295=a:=by rw[show 4294967295=2^32-1 from rfl,abc];exact ab9 b
def zsF{kind:Int}{c:Nd}{x y:Int}{b g:Option Nat}(m:∀w,b=some w->w<4294967296)(q:c.ok)(r:c.wf)(s:v.length=34)(t:c.kind=0->g=some (jT c.f v))(u:x=y->b=g)
  (a:(ko kind (pW c) x y).2=true):(ko kind (pW c) x y).1=x/\b=fT kind b g:=by
 have d:∀k,pW c=some k->g=some k:=λk d=>by
  rw[pW] at d;split at d
  .rename_i z;rw[t z,Hf q.1 d,BZ (xT d r.1) s]
  .cases d
 have zero:pW c=some 0->(∀w,w<4294967296->dg kind w 0=(w,true))->b=fT kind b g:=λn hd=>by
  rw[d 0 n]
  cases b with
  | none=>rfl
  | some w=>simp only[fT,hd w (m w rfl),if_true]
 have e:x=y->(∀w,w<4294967296->dg kind w w=(w,true))->b=fT kind b g:=λn hd=>by
  rw[<-u n]
  cases b with
  | none=>rfl
  | some w=>simp only[fT,hd w (m w rfl),if_true]
 rw[ko] at a |-;split at a
 .rename_i o;rw[if_pos o];refine⟨rfl,zero (by simpa using a) λw i=>?_⟩
  rcases o with rfl|rfl|rfl|rfl<;>simp[dg]<;>omega
 .rename_i A;rw[if_neg A];split at a
  .rename_i j;rw[if_pos j];subst j;refine⟨rfl,?_⟩;simp at a
   rcases a with h|h
   .exact zero h λw i=>by simp[dg]
   .exact e h λw i=>by simp[dg]
  .rename_i j;rw[if_neg j];split at a
   .rename_i l;rw[if_pos l];subst l;exact⟨rfl,zero (by simpa using a) λw i=>by simp[dg]⟩
   .rename_i l;rw[if_neg l];split at a
    .rename_i p;rw[if_pos p];subst p;refine⟨rfl,?_⟩;simp at a
     rcases a with h|h
     .rw[d _ h]
      cases b with
      | none=>rfl
      | some w=>simp[fT,dg,ones,zBz (m w rfl)]
     .exact e h λw i=>by simp[dg]
    .simp at a
def zBA{kind:Int}(h:wT kind=true)(a b:Nat):dg kind a b=dg kind b a:=by simp[wT] at h;obtain⟨c,d,e,f⟩:=h;simp only[dg,c,d,e,f,if_false,abZ a b,abe a b,ack a b,Nat.and_comm a b,Nat.xor_comm a b]
def zsG{kind:Int}(h:wT kind=true)(o o':Option Nat):fT kind o o'=fT kind o' o:=by
 cases o<;>cases o'<;>simp[fT]
 rw[zBA h]
def VY{i:Nat}{w:Nat}(h:Inv L)(a:de v L i=some w):w<4294967296:=by
 rw[JR] at a
 cases e:(cV v L)[i]? with
 | none=>rw[e] at a;cases a
 | some o =>
  rw[e] at a;have:=VE (k:=L.length) (o:=o) (i:=i) h (by rw[List.take_length];exact e);rw[show o=some w from a] at this;exact this
def zwQ{kind x y:Int}(h:Inv L)(n:v.length=34)(s:∀c∈v,c<4294967296)(I:(dg kind 0 1).2=true)(J:bO L x=true)(K:bO L y=true) :
  vX v (fN L kind x y) (fT kind (de v L x) (de v L y)):=by
 rw[fN,if_pos ⟨I,J,K⟩]
 obtain⟨N,V⟩:0<=x/\x<L.length:=by simpa[bO] using J
 obtain⟨O,W⟩:0<=y/\y<L.length:=by simpa[bO] using K
 obtain⟨j,rfl⟩:=aaj N;obtain⟨l,rfl⟩:=aaj O;obtain⟨a,t⟩:∃a,L[j]?=some a:=⟨_,iX an⟩;obtain⟨c,z⟩:∃c,L[l]?=some c:=⟨_,iX an⟩;have b:=h.cu _ _ t;have d:=h.cu _ _ z;simp only[aa4,t,z];have m:=VC (kind:=kind) h b.1 d.1 b.2.1 d.2.1;obtain⟨o,A⟩:=ax ((j6 L kind a c).2.2);rw[<-A] at m;have X:=m.pre.length_le;have B:=QJ (v:=v) h t;have C:=QJ (v:=v) h z;have D:=Hg (v:=v) m (i:=j) an
 have E:=Hg (v:=v) m (i:=l) an;have Y:=zum (kind:=kind) m.inv b.2.1 d.2.1;rw[rX];simp only[<-A];split
 .rename_i g;obtain⟨P,Q,F⟩:=zBx (v:=v) h b.1 d.1 b.2.1 d.2.1 n g;rw[B,C,fO,if_pos P,fO,if_pos Q,A];exact F
 .split
  .rename_i g;obtain⟨p,q,R,S,F⟩:=zBy (v:=v) m.inv b.2.1 d.2.1 n s g;rw[B,C,VW b.1 b.2.1 R n s,VW d.1 d.2.1 S n s];exact F
  .have T:a.kind=0->de v L j=some (jT a.f v):=λk=>by rw[B,fO,if_pos k]
   have ky:c.kind=0->de v L l=some (jT c.f v):=λk=>by rw[C,fO,if_pos k]
   split
   .rename_i g;obtain⟨G,H⟩:=zsF (v:=v) (x:=(j:Int)) (y:=(l:Int)) (λw r=>VY h r) d.1 d.2.1 n ky (λe=>by rw[e]) g;refine⟨j,G,by show j<o.length;omega,?_⟩;rw[<-H];exact D
   .split
    .rename_i g;obtain⟨G,H⟩:=zsF (v:=v) (x:=(l:Int)) (y:=(j:Int)) (λw r=>VY h r) b.1 b.2.1 n T (λe=>by rw[e]) g.2;refine⟨l,G,by show l<o.length;omega,?_⟩;rw[zsG g.1,<-H];exact E
    .have M:∀u w:Nat,u<L.length->w<L.length->vX v (bc o (zJ kind u w)) (fT kind (de v L u) (de v L w)):=λu w U r=>by
      have:=zwP (v:=v) m.inv (VN (kind:=kind) (x:=u) (y:=w) I an an)
      have e:fO v (cV v o) (zJ kind u w)=fT kind (de v L u) (de v L w):=by rw[<-Hg (v:=v) m U,<-Hg (v:=v) m r,JR,JR];rfl
      rwa[e] at this
     split
     .rename_i g;rw[zsG g.1];exact M l j an an
     .exact M j l an an
def zD8{i:Int}(h:Inv L)(a:v.length=34)(b:∀c∈v,c<4294967296)(d:0<=i)(e:i<34):vX v (j5 L i) (some (v[i.toNat]?.getD 0)):=by rw[j5,if_pos ⟨d,e⟩];have:=QK (v:=v) h (Qx i.toNat) (Vy _);rw[VT an a b] at this;rw[iX an];exact this
def zsH{c:Nat}(h:Inv L)(b:v.length=34)(a:c<4294967296):vX v (bc L (eP (c::aR 34))) (some c):=by have:=QK (v:=v) h (f:=c::aR 34) ir (BW a);rwa[BZ a b] at this
def zD9{x:Int}(h:Inv L)(b:v.length=34)(g:∀c∈v,c<4294967296)(d:bO L x=true):vX v (kX L x) ((de v L x).map rY):=by
 rw[kX,if_pos d]
 obtain⟨j,o⟩:0<=x/\x<L.length:=by simpa[bO] using d
 obtain⟨a,rfl⟩:=aaj j;have e:=QE h;obtain⟨i,f,k,l⟩:=zsH (v:=v) h b (c:=0) aga;have p:=e.pre.length_le;have r:=zwQ (v:=v) (kind:=20) (x:=(yK L).1) (y:=(a:Int)) e.inv b g aga (by rw[yK,f];simp[bO];exact k) (by simp[bO];omega)
 have m:de v (yK L).2 (yK L).1=some 0:=by rw[yK,f];exact l
 rw[m,Hg e an] at r
 have n:fT 20 (some 0) (de v L a)=(de v L a).map rY:=by
  cases de v L a with
  | none=>rfl
  | some w=>simp[fT,dg,rY]
 rwa[n] at r
end Go.Ev
