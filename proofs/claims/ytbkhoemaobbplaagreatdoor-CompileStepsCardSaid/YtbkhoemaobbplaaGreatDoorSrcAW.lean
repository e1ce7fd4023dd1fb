/- The numbers of which letters are made. -/
import Derived.Test.YtbkhoemaobbplaaGreatDoorEvWinCW
import Derived.Test.YtbkhoemaobbplaaGreatDoorCheckBW
import Derived.KernelRfl
import Derived.Test.YtbkhoemaobbplaaGreatDoorInsAW
set_option linter.defProp false
set_option linter.unusedSimpArgs false
set_option linter.unusedVariables false
set_option maxHeartbeats 16000000
set_option maxRecDepth 10000
open Nat renaming le_of_ble_eq_true→aaa,le_refl→aaj,zero_add→aaH,not_lt_zero→aaU,eq_or_lt_of_le→abe,mod_lt→abh,succ_mul→abi,lt_succ_iff_lt_or_eq→abj,mod_eq_of_lt→abk,zero_le→abp,pow_le_pow_right→abt,le_trans→abw,add_zero→abz,lt_or_ge→abA,div_eq_of_lt→abI
open List renaming getElem?_eq_some_iff→aab,getElem?_eq_getElem→aac,mem_cons→aaf,length_append→aag,length_cons→aai,take_of_length_le→aak,cons_append→aam,getElem?_append_left→aan,append_assoc→aao,mem_map→aap,mem_append→aar,not_mem_nil→aat,take_add_one→aau,length_take→aav,append_nil→aaw,map_cons→aax,getElem?_append_right→aay,take_length→aaz,getElem_mem→aaA,mem_of_getElem?→aaB,nil_append→aaD,mem_of_mem_tail→aaE,length_eq_zero_iff→aaF,mem_singleton→aaI,length_map→aaJ,concat_eq_append→aaK,takeWhile_cons_of_pos→aaL,drop_eq_getElem_cons→aaM,mem_of_mem_take→aaN,mem_of_mem_drop→aaO,mem_of_find?_eq_some→aaP,all_eq_true→aaQ,getElem?_cons_zero→aaR,getElem?_cons_succ→aaS,cons→aaT,drop_eq_nil_of_le→aaV,flatMap_cons→aaW,eq_nil_or_concat→aaX,mem_filter→aa1,find?_cons_of_neg→aa6,take_append_drop→aa9,map_append→aa_,length_nil→aba,foldl_cons→abc,range→abg,append_cancel_left→abm,nodup_cons→abn,find?_some→abo,getElem?_set_self→abq,set_append_right→abr,set_append_left→abu,length_pos_iff→abv,map_nil→aby,find?_eq_none→abB,getElem?_map→abD,all_eq_false→abE,mem_flatMap→abF,length_drop→abG,perm_middle→abH,length_set→abL,headD_cons→abM,mem_range→abN,tail_cons→abO,getD→abP
open Bool renaming and_eq_true→aae,or_eq_false_iff→aaC,false_or→aa7,or_eq_true→abb,false_eq_true→abx,eq_iff_iff→abK,true_or→abQ
open Int renaming natCast_add→aah,natCast_ediv→aaY,natCast_mul→aa0,natCast_emod→aa8,natCast_pow→abJ
open UInt8 renaming ofNat→aal,toNat_inj→aa2,toNat_ofNat'→aa4,toNat→abS
open Option renaming map→aaq,isSome_iff_exists→aas,map_eq_some_iff→aaG,some→aaZ,not_isNone→aa5,getD_some→abl
open BitVec renaming ofInt→aa3,toNat_ofNat→abd,ofNat→abR
open Function renaming comp_def→abf
open Prod renaming mk→abC
namespace Go.Ev
open Go Go.RowKit
variable {G:aN}
def jT(x:af):Bool:=((cH x.op).2.2&&!(cH x.op).2.1)||decide (x.op=0)||decide (x.op=1)
def jU(w:List af):List Nat:=(w.filter jT).map af.k
def zyA(w:List af)(x:af):jU (w++[x])=if jT x then jU w++[x.k] else jU w:=by
 unfold jU;rw[List.filter_append,aa_]
 by_cases h:jT x=true<;>simp[h]
def Q2(w:List af):(jU w).length<=w.length:=by simp[jU,List.length_filter_le]
noncomputable def yb(w:List af):List Nat :=
 (cV (aR [] w).L ((aR [] w).p.getD 0 0)).toList++((gL (aQ 34) (aR [] w).L ((aR [] w).p.getD 0 0)).toList++(gL (4294967295::aQ 33) (aR [] w).L ((aR [] w).p.getD 0 0)).toList)
def zCR[cu G](H:ae):bp G (.F 256 [] H (.ptr (H.length+1) 0) (H++[some (.map []),some (.cells [.vs [] .full,.mp H.length])])):=by refine eB cu.acN (aaa rfl) ?_;simp
def BH(a:Option aw)(L:List Nd):ae:=[a,some (.map (ents L)),some (wQ L 3 1),some (.zone L.length)]
def zBt{a:Option aw}{L:List Nd}(b:∀ n,a.map (aw.cl n)=a)(c:∀ x∈L,x.ok)(d:L.length<=1000000):Bk (BH a L) 2 3 1 L:=by refine⟨rfl,rfl,rfl,fun n e=>?_,c,d⟩;simp only[BH,aai,aba] at e;simp[BH,wQ,aw.cl,b,aX,V.cl,Tk.cl,ents,VM,show 3<n by omega,show 1<n by omega]
def zwA[dK G][dp G][aB G][aA G][aL G][au G][hB:il G][cu G][aI G][cT G][b_ G][fM G](w:List af)(hf:w.length<=maxLen)(hk:∀ x∈w,x.k<4294967296)(I:bn w=true) :
  FP G 326 [FL w] (.vs (aj .u32 (jU w++yb w)) .no):=by
 haveI:bw G:=hB.tobw
 refine bF fM.adF (aaa rfl) ?_;obtain⟨L,U⟩:∃ L,L=(aR [] w).L:=⟨_,rfl⟩;have W:=C5 Inv.nil w hk
 have hi:Inv L:=by rw[U];exact W.ext.inv
 have ow:w.length<=32:=by simp only[bn,aae,decide_eq_true_eq] at I;exact I.1
 have X0:L.length<=114:=by rw[U];have:=W.ext.len;simp at this;omega
 obtain⟨X,J⟩:∃ X,X=u5 [] w:=⟨_,rfl⟩
 have K:X.length=19:=by rw[J];exact Sv Inv.nil hk
 have l:∀ n,aX n X=X:=fun n=>by rw[J];exact Sw w n
 have nX:X.map V.j9=X:=by rw[J,u5,if_pos I,vcs];simp[kT,abf,V.j9]
 obtain⟨p0,PY⟩:∃ p0,p0=(aR [] w).p.getD 0 0:=⟨_,rfl⟩
 have M:X.take 1=[.int .i64 p0]:=by rw[J,u5,if_pos I,ZJ W.len,PY,abP,aac (show 0<(aR [] w).p.length by rw[W.len];decide)];rfl
 have IY:∀ k,Bk (BH (some (.zone k)) []) 2 3 1 []:=fun k=>zBt (fun n=>rfl) ir ir;have o:∀ k,Bk (BH (some (.zone k)) L) 2 3 1 L:=fun k=>zBt (fun n=>rfl) hi.ok an
 have YO:∀ k,Bk (BH (some (.zone k)) L++[some (.cells X)]) 2 3 1 L:=fun k=>(o k).app fun n=>by simp[aw.cl,l]
 have kK:=fun k=>Su (G:=G) w ((IY k).app (r:=[none]) fun n=>by simp) Inv.nil (by decide) hf hk
 have e1:∀ k,da (BH (some (.zone k)) []) 2 3 1 (xb [] w)=BH (some (.zone k)) L:=fun k=>by rw[U,xb,if_pos I];rfl
 have kK:∀ k,SF G 296 [.ptr 2 0,.vs (IL w) .no] (BH (some (.zone k)) []++[none]) (.bc [.agg X,.bool true]) (BH (some (.zone k)) L++[none]):=fun k=>by
  have:=kK k;rw[(IY k).bP,<-J,e1,I] at this;exact this
 have Y:=fun k=>zmW (G:=G) p0 (YO k);have wo:=fun(k:Nat) (r:ae) (hr:∀ n,r.map (aaq (aw.cl n))=r)=>zx8 (G:=G) p0 (aQ 34) ((o k).app hr) hi ir (uX 34);have sJ:=fun(k:Nat) (r:ae) (hr:∀ n,r.map (aaq (aw.cl n))=r)=>zx8 (G:=G) p0 (4294967295::aQ 33) ((o k).app hr) hi ir (fun c Y=>by rcases aaf.1 Y with rfl|h;decide;exact uX 33 c h)
 have D:yb w=(cV L p0).toList++((gL (aQ 34) L p0).toList++(gL (4294967295::aQ 33) L p0).toList):=by rw[U,PY];rfl
 rw[D];generalize cV L p0=m at Y |-;generalize gL (aQ 34) L p0=o2 at wo |-;generalize gL (4294967295::aQ 33) L p0=o3 at sJ |-;obtain⟨T,D⟩:∃ T:Nat->List Nat,∀ j,T j=jU (w.take j):=⟨_,fun _=>rfl⟩
 have T0:T 0=[]:=by rw[D];rfl
 have TN:T w.length=jU w:=by rw[D,aaz]
 have Tl:∀ i,(T i).length<=i:=fun i=>by rw[D];exact abw (Q2 _) (by rw[aav];omega)
 simp[FL];refine aP w.length (fun i=>[(0,FL w),(3,.vs (aj .u32 (T i)) (.own 0)),(18,FL w),(19,.int .i64 w.length),(20,.int .i64 i)]) (fun i=>[some (.zone (T i).length)]) (fun _=>True) ?_ ?_
 ·simp[aq,ai,FL,T0]
 intro i qY _
 by_cases q:i<w.length
 ·obtain⟨x,hx⟩:∃ x,x=w[i]:=⟨_,rfl⟩
  have hg:w[i]?=some x:=by rw[aac q,hx]
  have ef:=qT q;rw[<-hx] at ef;have fX:=Hx (G:=G) x;have dR:x.cs=[.int .i64 x.op,.int .i64 x.jt,.int .i64 x.jf,.int .u32 (x.k:Int)]:=rfl;have hl:=Tl i
  have d:T (i+1)=if jT x then T i++[x.k] else T i:=by rw[D,D,aau,hg];exact zyA _ _
  simp only[IV,dR] at fX;have e:aj .u32 (T i)++[[V.int .u32 (x.k:Int)]]=aj .u32 (T i++[x.k]):=IK .u32 (T i) x.k;simp(disch:=omega)[bC,FL,ef,dR];refine ax fX ?_
  cases ha:(cH x.op).2.2 with
  | true =>
   cases C:(cH x.op).2.1 with
   | false =>
    have g:jT x=true:=by simp[jT,ha,C]
    rw[if_pos g] at d
    have s:(T (i+1)).length=(T i).length+1:=by rw[d];simp
    rw[<-d] at e
    simp(disch:=omega)[az,q,e,s,bE,aq,ai,-aah]
   | true =>
    by_cases t:x.op=0
    ·have g:jT x=true:=by simp[jT,t]
     rw[if_pos g] at d
     have s:(T (i+1)).length=(T i).length+1:=by rw[d];simp
     rw[<-d] at e;simp(disch:=omega)[az,q,t,e,s,bE,aq,ai,-aah]
    by_cases m:x.op=1
    ·have g:jT x=true:=by simp[jT,m]
     rw[if_pos g] at d
     have s:(T (i+1)).length=(T i).length+1:=by rw[d];simp
     rw[<-d] at e;simp(disch:=omega)[az,q,m,e,s,bE,aq,ai,-aah]
    have g:jT x=false:=by simp[jT,C,t,m]
    rw[g] at d;simp only[abx,if_false] at d
    simp(disch:=omega)[az,q,aM t,aM m,d,bE,aq,ai,-aah]
  | false =>
    by_cases t:x.op=0
    ·have g:jT x=true:=by simp[jT,t]
     rw[if_pos g] at d
     have s:(T (i+1)).length=(T i).length+1:=by rw[d];simp
     rw[<-d] at e;simp(disch:=omega)[az,q,t,e,s,bE,aq,ai,-aah]
    by_cases m:x.op=1
    ·have g:jT x=true:=by simp[jT,m]
     rw[if_pos g] at d
     have s:(T (i+1)).length=(T i).length+1:=by rw[d];simp
     rw[<-d] at e;simp(disch:=omega)[az,q,m,e,s,bE,aq,ai,-aah]
    have g:jT x=false:=by simp[jT,ha,t,m]
    rw[g] at d;simp only[abx,if_false] at d;simp(disch:=omega)[az,q,aM t,aM m,d,bE,aq,ai,-aah]
 ·have ay:i=w.length:=an
  subst ay;have C9:=Q2 w;obtain⟨O,hO⟩:∃ O,O=jU w:=⟨_,rfl⟩;simp only[TN,<-hO];rw[<-hO] at C9;simp[FL];refine s7 (zCR _) ir ?_;simp;rw[show([some (.zone O.length),some (.map []),some (.cells [.vs [] (.own 3),.mp 1]),some (.zone 0),none]:ae)=BH (some (.zone O.length)) []++[none] from rfl];refine cC (kK _) ?_;have b:∀ k,(BH (some (.zone k)) L).length=4:=fun k=>rfl;have kk:∀(k:Nat) (r:ae),(BH (some (.zone k)) L++r)[4]?=r[0]?:=fun k r=>lW (b k)
  have k0:∀(k:Nat) (r:ae) x,(BH (some (.zone k)) L++r).set 4 x=BH (some (.zone k)) L++r.set 0 x:=fun k r x=>qW (b k) x;have N:∀(k:Nat) (r:ae),(BH (some (.zone k)) L++r)[0]?=some (some (.zone k)):=fun k r=>rfl;have P:∀(k n:Nat) (r:ae),(BH (some (.zone k)) L++r).set 0 (some (.zone n))=BH (some (.zone n)) L++r:=fun k n r=>rfl;obtain⟨Z,hZ⟩:∃ Z:List V,Z=vcs (List.replicate 18 0) [] .full:=⟨_,rfl⟩
  have lZ:Z.length=19:=by rw[hZ];rfl
  have EF:[V.int .i64 0,.int .i64 0,.int .i64 0,.int .i64 0,.int .i64 0,.int .i64 0,.int .i64 0,.int .i64 0,.int .i64 0,.int .i64 0,.int .i64 0,.int .i64 0,.int .i64 0,.int .i64 0,.int .i64 0,.int .i64 0,.int .i64 0,.int .i64 0,.vs [] .full]=Z:=by rw[hZ];rfl
  have tX:X.take 19=X:=aak an;have dZ:Z.drop 19=[]:=aaV an;simp[EF,lZ,kk,k0,K,dZ];simp[M];refine cC (Y _) ?_
  rcases m with _|a
  ·obtain⟨f,u⟩:∃ f,f=O++[]:=⟨_,rfl⟩
   have he:f.length<=40:=by rw[u];simp;omega
   obtain⟨F,v⟩:∃ F:Nat->List Nat,∀ i,F i=f++(if i=0 then [] else if i=1 then o2.toList else o2.toList++o3.toList):=⟨_,fun _=>rfl⟩
   have E:F 0=f:=by rw[v];simp
   have z:F 1=f++o2.toList:=by rw[v];simp
   have H:F 2=F 1++o3.toList:=by rw[v,z];simp
   have lF:∀ i,(F i).length<=42:=fun i=>by
    rw[v];split
    ·simp;omega
    ·split
     ·cases o2<;>simp<;>omega
     ·cases o2<;>cases o3<;>simp<;>omega
   simp(disch:=omega)[b,az]
   have hh:O=f:=by rw[u];simp
   refine aP 2 (fun i=>[(3,.vs (aj .u32 (F i)) (.own 0)),(9,.ptr 2 0),(10,.ptr 4 0),(71,.agg [.int .u32 0,.int .u32 4294967295]),(72,.int .i64 i)]) (fun i=>BH (some (.zone (F i).length)) L++[some (.cells X)]) (fun _=>True) ?_ ?_
   ·have:=((o f.length).app (r:=[some (.cells X)]) fun n=>by simp[aw.cl,l]).shut.self;simp[b] at this;simp[aq,b,E,this,hh]
   intro i Wj _;have hj:=lF i
   have Q:aD .i64 0 1=1:=by decide
   have R:aD .i64 1 1=2:=by decide
   have S:∀ k:Nat,ai 5 (BH (some (.zone k)) L++[some (.cells X)])=BH (some (.zone k)) L++[some (.cells X)]:=fun k=>by
    have:=((o k).app (r:=[some (.cells X)]) fun n=>by simp[aw.cl,l]).shut.self;simpa[b] using this
   have C:∀(k:Nat),ai 5 (BH (some (.zone k)) L++[some (.cells X),none])=BH (some (.zone k)) L++[some (.cells X)]:=fun k=>by
    have:=((o k).app (r:=[some (.cells X)]) fun n=>by simp[aw.cl,l]).shut.back [none];simpa[b] using this
   by_cases h0:i=0
   ·subst h0;simp[b,K,M];refine cC (wo _ _ fun n=>by simp[aw.cl,l]) ?_
    cases o2 with
    | none =>
     have A:F 1=F 0:=by rw[z,E];simp
     simp[b,aq,S,Q,A]
    | some y =>
     have A:F 1=F 0++[y]:=by rw[z,E];simp
     have l1:(F 1).length=(F 0).length+1:=by rw[A];simp
     have e:aj .u32 (F 0)++[[V.int .u32 (y:Int)]]=aj .u32 (F 1):=by rw[A];exact IK .u32 (F 0) y
     simp(disch:=omega)[b,N,P,az,aq,C,Q,e,l1]
   by_cases h1:i=1
   ·subst h1;simp[b,K,M];refine cC (sJ _ _ fun n=>by simp[aw.cl,l]) ?_
    cases o3 with
    | none =>
     have B:F 2=F 1:=by rw[H];simp
     simp[b,aq,S,R,B]
    | some y =>
     have B:F 2=F 1++[y]:=by rw[H];simp
     have l2:(F 2).length=(F 1).length+1:=by rw[B];simp
     have e:aj .u32 (F 1)++[[V.int .u32 (y:Int)]]=aj .u32 (F 2):=by rw[B];exact IK .u32 (F 1) y
     simp(disch:=omega)[b,N,P,az,aq,C,R,e,l2]
   obtain rfl:i=2:=by omega
   have cB:F 2=O++((none:Option Nat).toList++(o2.toList++o3.toList)):=by rw[H,z,u];simp
   simp[cB]
  ·obtain⟨f,u⟩:∃ f,f=O++[a]:=⟨_,rfl⟩
   have he:f.length<=40:=by rw[u];simp;omega
   obtain⟨F,v⟩:∃ F:Nat->List Nat,∀ i,F i=f++(if i=0 then [] else if i=1 then o2.toList else o2.toList++o3.toList):=⟨_,fun _=>rfl⟩
   have E:F 0=f:=by rw[v];simp
   have z:F 1=f++o2.toList:=by rw[v];simp
   have H:F 2=F 1++o3.toList:=by rw[v,z];simp
   have lF:∀ i,(F i).length<=42:=fun i=>by
    rw[v];split
    ·simp;omega
    ·split
     ·cases o2<;>simp<;>omega
     ·cases o2<;>cases o3<;>simp<;>omega
   simp(disch:=omega)[b,N,P,az]
   have hn:aj .u32 O++[[V.int .u32 (a:Int)]]=aj .u32 f:=by rw[u];exact IK .u32 O a
   have hm:O.length+1=f.length:=by rw[u];simp
   refine aP 2 (fun i=>[(3,.vs (aj .u32 (F i)) (.own 0)),(9,.ptr 2 0),(10,.ptr 4 0),(71,.agg [.int .u32 0,.int .u32 4294967295]),(72,.int .i64 i)]) (fun i=>BH (some (.zone (F i).length)) L++[some (.cells X),none]) (fun _=>True) ?_ ?_
   ·have:=((o f.length).app (r:=[some (.cells X),none]) fun n=>by simp[aw.cl,l]).shut.self;simp[b] at this;simp[aq,b,E,this,u.symm,hm]
   intro i Wj _;have hj:=lF i
   have Q:aD .i64 0 1=1:=by decide
   have R:aD .i64 1 1=2:=by decide
   have S:∀ k:Nat,ai 6 (BH (some (.zone k)) L++[some (.cells X),none])=BH (some (.zone k)) L++[some (.cells X),none]:=fun k=>by
    have:=((o k).app (r:=[some (.cells X),none]) fun n=>by simp[aw.cl,l]).shut.self;simpa[b] using this
   have C:∀(k:Nat),ai 6 (BH (some (.zone k)) L++[some (.cells X),none,none])=BH (some (.zone k)) L++[some (.cells X),none]:=fun k=>by
    have:=((o k).app (r:=[some (.cells X),none]) fun n=>by simp[aw.cl,l]).shut.back [none];simpa[b] using this
   by_cases h0:i=0
   ·subst h0;simp[b,K,M];refine cC (wo _ _ fun n=>by simp[aw.cl,l]) ?_
    cases o2 with
    | none =>
     have A:F 1=F 0:=by rw[z,E];simp
     simp[b,aq,S,Q,A]
    | some y =>
     have A:F 1=F 0++[y]:=by rw[z,E];simp
     have l1:(F 1).length=(F 0).length+1:=by rw[A];simp
     have e:aj .u32 (F 0)++[[V.int .u32 (y:Int)]]=aj .u32 (F 1):=by rw[A];exact IK .u32 (F 0) y
     simp(disch:=omega)[b,N,P,az,aq,C,Q,e,l1]
   by_cases h1:i=1
   ·subst h1;simp[b,K,M];refine cC (sJ _ _ fun n=>by simp[aw.cl,l]) ?_
    cases o3 with
    | none =>
     have B:F 2=F 1:=by rw[H];simp
     simp[b,aq,S,R,B]
    | some y =>
     have B:F 2=F 1++[y]:=by rw[H];simp
     have l2:(F 2).length=(F 1).length+1:=by rw[B];simp
     have e:aj .u32 (F 1)++[[V.int .u32 (y:Int)]]=aj .u32 (F 2):=by rw[B];exact IK .u32 (F 1) y
     simp(disch:=omega)[b,N,P,az,aq,C,R,e,l2]
   obtain rfl:i=2:=by omega
   have cB:F 2=O++((some a).toList++(o2.toList++o3.toList)):=by rw[H,z,u];simp
   simp[cB]
def o_(l:List af)(x:af):List af:=if x∈l then l else if bn [x]=true then l++[x] else l
def Q3(l:List af)(x:af):(o_ l x).length<=l.length+1:=by unfold o_;split;omega;split<;>simp
def uO(l:List af):List (V×V):=l.map fun x=>(IV x,.bool true)
def zyB{x:af}:∀{l:List af} (i:Nat),x∈l->js (.row [.int,.int,.int,.int]) (.agg x.cs) (uO l) i=some (some (i+l.idxOf x,.bool true))
 | [],i,h=>by cases h
 | y::l,i,h=>by
  simp only[uO,aax,js,jr,IV,yI]
  by_cases e:x=y
  ·subst e;simp
  ·have b:x∈l:=by simpa[e] using h
   have a:=zyB (i+1) b
   have c:(y::l).idxOf x=l.idxOf x+1:=by rw[List.idxOf_cons,beq_false_of_ne (Ne.symm e)];rfl
   simp only[uO,IV] at a;simp only[e,decide_false,a,c,show i+1+l.idxOf x=i+(l.idxOf x+1) from an]
def YP{x:af}:∀{l:List af} (i:Nat),x∉l->js (.row [.int,.int,.int,.int]) (.agg x.cs) (uO l) i=some none
 | [],i,_=>rfl
 | y::l,i,h=>by
  simp only[aaf,not_or] at h;have a:=YP (i+1) h.2;simp only[uO,IV] at a;simp only[uO,aax,js,jr,IV,yI,h.1,decide_false,a]
def oj(a b:List af)(n:Nat):ae:=[some (.cells [.vs (IL a) (.own 3)]),some (.map (uO b)),some (.cells [.mp 1]),some (.zone n)]
def BL(l:List af):ae:=oj l l l.length
def YQ(a b:List af)(n:Nat):fY (oj a b n):=by
 intro m c;simp only[oj,aai,aba] at c
 have d:(uO b).map (fun p=>(p.1.cl m,p.2.cl m))=uO b:=by simp[uO,IV,af.cs,V.cl,aX,abf]
 simp[oj,aw.cl,aX,V.cl,Tk.cl,show 3<m by omega,show 1<m by omega,d]
def Q4[aB G][aA G][aL G][fg G](l:List af)(x:af)(r:ae)(D:∀ n,r.map (aaq (aw.cl n))=r)(O:l.length<=1000000)(E:x.k<4294967296) :
  SF G 327 [IV x,.ptr 2 0,.ptr 0 0] (BL l++r) (.bc []) (BL (o_ l x)++r):=by
 refine jx fg.adG (aaa rfl) ?_;have h:∀ a b n,(oj a b n).length=4:=fun a b n=>rfl;have m:x.cs.length=4:=rfl;have o:x.cs.take 4=x.cs:=rfl
 have P:∀ n,aX n x.cs=x.cs:=fun n=>by simp[af.cs,aX,V.cl]
 have nx:x.cs.map V.j9=x.cs:=rfl;have F:∀ a b n (s:ae),(oj a b n++s)[0]?=some (some (.cells [.vs (IL a) (.own 3)])):=fun a b n s=>rfl;have v:∀ a b n (s:ae),(oj a b n++s)[1]?=some (some (.map (uO b))):=fun a b n s=>rfl;have w:∀ a b n (s:ae),(oj a b n++s)[2]?=some (some (.cells [.mp 1])):=fun a b n s=>rfl;have H:∀ a b n (s:ae),(oj a b n++s)[3]?=some (some (.zone n)):=fun a b n s=>rfl;have Q:∀ a c b n (s:ae),(oj a b n++s).set 0 (some (.cells [.vs (IL c) (.own 3)]))=oj c b n++s:=fun a c b n s=>rfl
 have I:∀ a b d n (s:ae),(oj a b n++s).set 1 (some (.map (uO d)))=oj a d n++s:=fun a b d n s=>rfl;have R:∀ a b n e (s:ae),(oj a b n++s).set 3 (some (.zone e))=oj a b e++s:=fun a b n e s=>rfl
 have kk:∀ a b n (s:ae),(oj a b n++(r++s))[4+r.length]?=s[0]?:=fun a b n s=>by
  rw[<-aao];exact lW (by simp[h])
 have J:∀ a b n (s:ae) y,(oj a b n++(r++s)).set (4+r.length) y=oj a b n++(r++s.set 0 y):=fun a b n s y=>by
  rw[<-aao,qW (by simp[h]),aao]
 have z:(∀ y∈x.cs,y.pure=true)=True:=eq_true (fun y i=>by simp only[af.cs,aaf,aat,or_false] at i;rcases i with rfl|rfl|rfl|rfl<;>rfl);have p:=yI x x;simp only[decide_true] at p;have A:=yH (G:=G) [x] (by simp[maxLen]) (fun y i=>by simp at i;rw[i];exact E);simp only[FL,IL,aax,aby] at A
 have q:∀ a b n (s:ae),ai (4+r.length) (oj a b n++(r++s))=oj a b n++r:=fun a b n s=>by
  have:=((YQ a b n).app D).back s;rw[aao,aag,h] at this;exact this
 simp[BL,h,IV,m,o,v,w,J,jr,p]
 by_cases g:x∈l
 ·have j:o_ l x=l:=if_pos g;simp[zyB 0 g,j,q]
 ·simp[YP 0 g,m,o,kk,z];refine ax A ?_
  cases B:bn [x] with
  | false =>
   have j:o_ l x=l:=by rw[o_,if_neg g,B];rfl
   simp[j,q]
  | true =>
   have j:o_ l x=l++[x]:=by rw[o_,if_neg g,B];rfl
   have K:uO l++[(V.agg x.cs,V.bool true)]=uO (l++[x]):=by simp[uO,IV]
   have S:IL l++[x.cs]=IL (l++[x]):=by simp[IL]
   have T:x.cs.all V.pure=true:=rfl
   have L:∀ f∈IL l,f.length=4:=fun f C=>by simp only[IL,aap] at C;obtain⟨y,_,rfl⟩:=C;rfl
   have M:(l.length+1)*32<=140737488355328:=an
   have t:∀ a c b n,(oj a b n).set 0 (some (.cells [.vs (IL c) (.own 3)]))=oj c b n:=fun a c b n=>rfl;have N:∀ a b d n,(oj a b n).set 1 (some (.map (uO d)))=oj a d n:=fun a b d n=>rfl;have u:∀ a b n e,(oj a b n).set 3 (some (.zone e))=oj a b e:=fun a b n e=>rfl;simp[YP 0 g,jr,p,m,o,F,v,w,H,h,K,I,z,t,u,M,j,q]
def Jm{f:Nat}{cap args:List V}{r:V}{H H':ae}{base:Nat}{d:Option Nat}{os:List aC}{K:List Kt}{e:Env}{Q:Ex->Env->ae->Prop}(h:SF G f (args++cap) H r H')
  (a:WO G base os K (e.put d r) H' Q):IH G false (.fn f cap) args base d os K e H Q:=by
 obtain⟨i,H1,b,c,g⟩:=h;refine jL b (fun h=>by cases h) ?_;rw[c,g];exact a
def eY(l xs:List af):List af:=xs.foldl o_ l
def Bj:∀(xs l:List af),(eY l xs).length<=l.length+xs.length
 | [],l=>aaj _
 | x::xs,l=>by
  have a:=Bj xs (o_ l x);have b:=Q3 l x;show(eY (o_ l x) xs).length<=_;rw[aai];omega
def zrI(l xs:List af)(x:af):eY l (xs++[x])=o_ (eY l xs) x:=by simp[eY]
def zuu(l xs ys:List af):eY l (xs++ys)=eY (eY l xs) ys:=by simp[eY]
def An:List Nat:=[0,1,4,84,68,164]
def lG(n:Nat):List af:=An.map fun(o:Nat)=>(⟨o,0,0,n⟩:af)
def Ez(w:List af)(a:List Nat):List af:=eY (eY (eY [] w) [⟨7,0,0,0⟩,⟨135,0,0,0⟩]) (a.flatMap lG)
def zwB[dK G][dp G][aB G][aA G][aL G][au G][y:il G][cu G][aI G][cT G][b_ G][fM G][fg G](w:List af)(O:w.length<=maxLen)(C:∀ x∈w,x.k<4294967296)(z:bn w=true)
  (P:∀ n∈jU w++yb w,n<4294967296):FP G 330 [FL w] (.bc [FL (Ez w (jU w++yb w)),.int .i64 0]):=by
 refine bF fg.adH (aaa rfl) ?_;have D:=yH (G:=G) w O C;have E:=zwA (G:=G) w O C z
 have ow:w.length<=32:=by simp only[bn,aae,decide_eq_true_eq] at z;exact z.1
 have X:(jU w++yb w).length<=35:=by
  have:=Q2 w;rw[aag,yb];simp only[aag]
  have b:∀ o:Option Nat,o.toList.length<=1:=fun o=>by cases o<;>simp
  have a1:=b (cV (aR [] w).L ((aR [] w).p.getD 0 0));have a2:=b (gL (aQ 34) (aR [] w).L ((aR [] w).p.getD 0 0));have a3:=b (gL (4294967295::aQ 33) (aR [] w).L ((aR [] w).p.getD 0 0));omega
 generalize jU w++yb w=eK at E X P |-;rw[z] at D;simp only[FL] at D E;simp[FL];refine ax D ?_;obtain⟨T,f⟩:∃ T:Nat->List af,∀ j,T j=eY [] (w.take j):=⟨_,fun _=>rfl⟩
 have Z:T 0=[]:=by rw[f];rfl
 have TN:T w.length=eY [] w:=by rw[f,aaz]
 have Tl:∀ i,i<=w.length->(T i).length<=i:=fun i hi=>by rw[f];have:=Bj (w.take i) [];rw[aav] at this;simp at this;omega
 have c:∀ l,(BL l).length=4:=fun l=>rfl;have kk:∀ l (r:ae),(BL l++r)[4]?=r[0]?:=fun l r=>lW (c l);have k0:∀ l (r:ae) x,(BL l++r).set 4 x=BL l++r.set 0 x:=fun l r x=>qW (c l) x;have bk:∀ l (r:ae),ai 4 (BL l++r)=BL l:=fun l r=>(YQ l l l.length).back r;have g:∀ l,ai 4 (BL l)=BL l:=fun l=>(YQ l l l.length).self;have F:∀ l,(BL l)[0]?=some (some (.cells [.vs (IL l) (.own 3)])):=fun l=>rfl;have hE:([some (.cells [.vs [] (.own 3)]),some (.map []),some (.cells [.mp 1]),some (.zone 0)]:ae)=BL []:=rfl
 simp[hE];refine aP w.length (fun i=>[(0,FL w),(4,.ptr 0 0),(6,.fn 327 [.ptr 2 0,.ptr 0 0]),(18,FL w),(19,.int .i64 w.length),(20,.int .i64 i)]) (fun i=>BL (T i)) (fun _=>True) ?_ ?_
 ·simp[aq,FL,Z,c,g]
 intro i hi _
 by_cases d:i<w.length
 ·obtain⟨x,H⟩:∃ x,x=w[i]:=⟨_,rfl⟩
  have hg:w[i]?=some x:=by rw[aac d,H]
  have Q:=qT d;rw[<-H] at Q;have eT:x.cs.length=4:=rfl;have j5:x.cs.take 4=x.cs:=rfl;have ha:([V.int .i64 0,.int .i64 0,.int .i64 0,.int .u32 0]:List V).drop 4=[]:=rfl;have wL:=C x (H▸aaA d);have nx:x.cs.map V.j9=x.cs:=rfl
  have I:T (i+1)=o_ (T i) x:=by rw[f,f,aau,hg];exact zrI _ _ _
  have h:=Q4 (G:=G) (T i) x [some (.cells x.cs)] (fun n=>by simp[aw.cl,af.cs,aX,V.cl]) (by have:=Tl i hi;omega) wL;simp only[IV] at h;simp(disch:=omega)[bC,FL,Q,eT,j5,c,kk,k0];refine Jm h ?_;simp(disch:=omega)[d,I,bE,aq,c,bk,-aah]
 ·have J:i=w.length:=an
  subst J;have q:=Q4 (G:=G) (eY [] w) ⟨7,0,0,0⟩ [] (fun n=>rfl) (by have:=Bj w [];simp at this;omega) (by decide);have K:=Q4 (G:=G) (o_ (eY [] w) ⟨7,0,0,0⟩) ⟨135,0,0,0⟩ [] (fun n=>rfl) (by have:=Bj w [];have:=Q3 (eY [] w) ⟨7,0,0,0⟩;simp at *;omega) (by decide);obtain⟨B,y⟩:∃ B,B=o_ (o_ (eY [] w) ⟨7,0,0,0⟩) ⟨135,0,0,0⟩:=⟨_,rfl⟩;rw[<-y] at K
  have MN:B.length<=34:=by rw[y];have b:=Bj w [];have M:=Q3 (eY [] w) ⟨7,0,0,0⟩;have R:=Q3 (o_ (eY [] w) ⟨7,0,0,0⟩) ⟨135,0,0,0⟩;simp at b;omega
  have zN:Ez w eK=eY B (eK.flatMap lG):=by rw[y];rfl
  simp only[IV,af.cs,aaw] at q K;simp[FL,TN];refine Jm q ?_;simp;refine Jm K ?_;simp;refine ax E ?_;obtain⟨U,s⟩:∃ U:Nat->List af,∀ j,U j=eY B ((eK.take j).flatMap lG):=⟨_,fun _=>rfl⟩
  have U0:U 0=B:=by rw[s];rfl
  have UN:U eK.length=Ez w eK:=by rw[s,aaz,zN]
  have Ul:∀ i,(U i).length<=34+6*35:=fun i=>by
   rw[s];have b:=Bj ((eK.take i).flatMap lG) B
   have M:((eK.take i).flatMap lG).length=6*(eK.take i).length:=by
    generalize eK.take i=l
    induction l with
    | nil=>rfl
    | cons a l ih=>rw[aaW,aag,ih,aai];simp[lG,An];omega
   rw[M,aav] at b;omega
  simp[F];refine aP eK.length (fun i=>[(4,.ptr 0 0),(6,.fn 327 [.ptr 2 0,.ptr 0 0]),(35,.vs (aj .u32 eK) .no),(36,.int .i64 eK.length),(37,.int .i64 i)]) (fun i=>BL (U i)) (fun _=>True) ?_ ?_
  ·simp[aq,U0,c,g]
  intro i Wj _
  by_cases d:i<eK.length
  ·obtain⟨n,N⟩:∃ n,n=eK[i]:=⟨_,rfl⟩
   have xT:eK[i]?=some n:=by rw[aac d,N]
   have QT:=P n (N▸aaA d);obtain⟨Y,t⟩:∃ Y:Nat->List af,∀ j,Y j=eY (U i) ((lG n).take j):=⟨_,fun _=>rfl⟩
   have Y0:Y 0=U i:=by rw[t];rfl
   have Y6:Y 6=U (i+1):=by rw[t,s,s,aak (show(lG n).length<=6 from aaj _),aau,xT];simp[zuu]
   have Yl:∀ j,(Y j).length<=34+6*35+6:=fun j=>by
    rw[t];have b:=Bj ((lG n).take j) (U i);have M:=Ul i;have R:(lG n).length=6:=rfl;rw[aav,R] at b;omega
   obtain⟨e,A⟩:∃ e:List V,e=[.int .i64 0,.int .i64 1,.int .i64 4,.int .i64 84,.int .i64 68,.int .i64 164]:=⟨_,rfl⟩
   have l6:e.length=6:=by rw[A];rfl
   have S:∀ m,aX m e=e:=fun m=>by rw[A];simp[aX,V.cl]
   have YU:∀ j,j<6->(e.drop j).take 1=[.int .i64 (An.getD j 0:Nat)]:=fun j hj=>by
    rw[A]
    rcases(by omega:j=0\/j=1\/j=2\/j=3\/j=4\/j=5) with rfl|rfl|rfl|rfl|rfl|rfl<;>rfl
   simp(disch:=omega)[bC,N.symm,<-A,F];refine aP 6 (fun j=>[(4,.ptr 0 0),(6,.fn 327 [.ptr 2 0,.ptr 0 0]),(10,.int .u32 n),(35,.vs (aj .u32 eK) .no),(36,.int .i64 eK.length),(37,.int .i64 i),(41,.agg e),(42,.int .i64 j)]) (fun j=>BL (Y j)) (fun _=>True) ?_ ?_
   ·simp[aq,Y0,c,g,S]
   intro j hj _
   by_cases u:j<6
   ·obtain⟨o,W⟩:∃ o,o=An.getD j 0:=⟨_,rfl⟩
    have I:Y (j+1)=o_ (Y j) ⟨o,0,0,n⟩:=by
     rw[t,t,aau,<-zrI]
     congr 2
     have:(lG n)[j]?=some ⟨o,0,0,n⟩:=by
      rw[W]
      rcases(by omega:j=0\/j=1\/j=2\/j=3\/j=4\/j=5) with rfl|rfl|rfl|rfl|rfl|rfl<;>rfl
     rw[this];rfl
    have v:=YU j u;rw[<-W] at v;have h:=Q4 (G:=G) (Y j) ⟨o,0,0,n⟩ [] (fun n=>rfl) (by have:=Yl j;omega) QT;simp only[IV,af.cs,aaw] at h;simp(disch:=omega)[bC,l6,v,az];refine Jm h ?_;simp(disch:=omega)[u,I,bE,aq,c,g,S,-aah]
   ·obtain rfl:j=6:=by omega
    simp(disch:=omega)[d,bE,aq,c,g,Y6,-aah]
  ·have J:i=eK.length:=an
   subst J;simp[F,UN]
def Q6(L:List af):List (List af):=L.flatMap fun x=>L.map fun y=>[x,y]
def qC(w L:List af):List (List af) :=
 if w.length=0 then [] else []::(if w.length=1 then [] else L.map (fun x=>[x])++(if w.length=2 then [] else Q6 L))
def zrJ{L:List af}{i j:Nat}{x y:af}:∀{K:List af},K[i]?=some x->L[j]?=some y->(K.flatMap fun x=>L.map fun y=>[x,y])[i*L.length+j]?=some [x,y]
 | [],h,_=>by simp at h
 | z::K,h,a=>by
  have b:=(aab.1 a).1;rw[aaW]
  cases i with
  | zero =>
   simp only[aaR,aaZ.injEq] at h;subst h
   rw[Nat.zero_mul,aaH,aan (by simpa using b),abD,a];rfl
  | succ i =>
   rw[aaS] at h;rw[aay (by rw[aaJ,abi];omega),aaJ,show(i+1)*L.length+j-L.length=i*L.length+j by rw[abi];omega];exact zrJ h a
def zrK(L:List af):∀ K:List af,(K.flatMap fun x=>L.map fun y=>[x,y]).length=K.length*L.length
 | []=>by simp
 | z::K=>by rw[aaW,aag,zrK L K,aaJ,aai,abi];omega
section
variable {w L:List af} {i j:Nat} {x y:af}
def zIp(a:w.length≠0):(qC w L)[0]?=some []:=by simp[qC,a]
def zIq(a:2<=w.length)(h:L[i]?=some x):(qC w L)[i+1]?=some [x]:=by have hi:=(aab.1 h).1;rw[qC,if_neg an,aaS,if_neg an,aan (by simpa using hi),abD,h];rfl
def zIr(b:3<=w.length)(h:L[i]?=some x)(a:L[j]?=some y):(qC w L)[L.length+1+(i*L.length+j)]?=some [x,y]:=by rw[qC,if_neg an,show L.length+1+(i*L.length+j)=(L.length+(i*L.length+j))+1 by omega,aaS,if_neg an,aay ir,aaJ,if_neg an,Nat.add_sub_cancel_left];exact zrJ h a
def zAI:(qC w L).length=if w.length=0 then 0 else if w.length=1 then 1 else if w.length=2 then L.length+1 else L.length+1+L.length*L.length:=by
 unfold qC;split
 ·rfl
 split
 ·rfl
 split
 ·simp
 ·simp only[aai,aag,aaJ,Q6,zrK];omega
def QE{c:List af}(h:c∈qC w L):c.length<w.length:=by
 unfold qC at h;split at h
 ·cases h
 ·split at h
  ·simp at h;subst h;simp;omega
  ·split at h
   ·simp at h
    rcases h with rfl|⟨a,_,rfl⟩
    ·simp;omega
    ·simp;omega
   ·simp[Q6] at h
    rcases h with rfl|⟨a,_,rfl⟩|⟨a,_,b,_,rfl⟩
    ·simp;omega
    ·simp;omega
    ·simp;omega
def QH{c:List af}(h:c∈qC w L):∀ x∈c,x∈L:=by
 unfold qC at h;split at h
 ·cases h
 ·split at h
  ·simp at h;subst h;simp
  ·split at h
   ·simp at h
    rcases h with rfl|⟨a,d,rfl⟩<;>simp_all
   ·simp[Q6] at h
    rcases h with rfl|⟨a,d,rfl⟩|⟨a,d,b,e,rfl⟩<;>simp_all
end
def sD(hit:Nat->List af->Bool):List (List af)->Nat->Option (Nat×List af)
 | [],_=>none
 | c::l,k=>if hit k c=true then some (k,c) else sD hit l (k+1)
def zn5{hit:Nat->List af->Bool}:∀{l:List (List af)} {k:Nat},(∀ j<l.length,∀ c,l[j]?=some c->hit (k+j) c=false)->sD hit l k=none
 | [],_,_=>rfl
 | c::l,k,h=>by
  rw[sD,if_neg (by rw[show k=k+0 by rfl,h 0 ir c rfl];simp)]
  exact zn5 fun j b c a=>by rw[show k+1+j=k+(j+1) by omega];exact h (j+1) (by simp;omega) c (by simpa using a)
def zrL{hit:Nat->List af->Bool}{c:List af}:∀{l:List (List af)} {k j:Nat},l[j]?=some c->hit (k+j) c=true->(∀ i<j,∀ c,l[i]?=some c->hit (k+i) c=false)->sD hit l k=some (k+j,c)
 | [],_,_,h,_,_=>by simp at h
 | d::l,k,0,h,a,_=>by
  simp only[aaR,aaZ.injEq] at h;subst h;rw[abz] at a
  rw[sD,if_pos a];rfl
 | d::l,k,j+1,h,a,b=>by
  rw[sD,if_neg (by rw[show k=k+0 by rfl,b 0 an d rfl];simp)];rw[show k+(j+1)=k+1+j by omega] at a |-
  exact zrL (by simpa using h) a fun i hi c e=>by rw[show k+1+i=k+(i+1) by omega];exact b (i+1) an c (by simpa using e)
open Go Go.RowKit
variable {G:aN}
def zyC[fh G]{H:ae}(eR:fY H){id i1 i2:Nat}{w L:List af}{tk:Tk}(As:w.length<=1000)(hL:L.length<=1000)
  (f:H[i1]?=some (some (.cells [.vs (IL w) .no]))) (M:H[i2]?=some (some (.cells [.vs (IL L) .no]))) (bx:id<H.length) {hit:Nat->List af->Bool} {H':Nat->List af->ae}
  (uZ:∀ k c,(qC w L)[k]?=some c->hit k c=false->∀ X:ae,(∀ n,X.map (aaq (aw.cl n))=X)->YS G id [.int .i64 k,.vs (IL c) .full] (H++X) true (H++X))
  (iz:∀ k c,(qC w L)[k]?=some c->hit k c=true->∀ X:ae,(∀ n,X.map (aaq (aw.cl n))=X)->YS G id [.int .i64 k,.vs (IL c) .full] (H++X) false (H' k c++X))
  (l9:∀ k c,(qC w L)[k]?=some c->hit k c=true->ai H.length (H' k c)=H' k c/\(H' k c).length=H.length) :
  SF G 328 [.yld id,.ptr i1 0,.ptr i2 0] H (.bc []) (match sD hit (qC w L) 0 with|some p=>H' p.1 p.2|none=>H):=by
 refine jx fh.adI (aaa rfl) ?_;have BG:i1<H.length:=(aab.1 f).1;have N:i2<H.length:=(aab.1 M).1;have B:=eR.self;have pz:=eR.back;have g1:=(aab.1 f).2;have g2:=(aab.1 M).2
 have e1:∀ X:ae,(H++X)[i1]?=some (some (.cells [.vs (IL w) .no])):=fun X=>by rw[aan BG];exact f
 have e2:∀ X:ae,(H++X)[i2]?=some (some (.cells [.vs (IL L) .no])):=fun X=>by rw[aan N];exact M
 have E6:∀(X:ae) h,(H++X)[i1]'h=some (.cells [.vs (IL w) .no]):=fun X h=>(aab.1 (e1 X)).2;have Az:∀(X:ae) h,(H++X)[i2]'h=some (.cells [.vs (IL L) .no]):=fun X h=>(aab.1 (e2 X)).2;have k0:∀(r:ae) x,(H++r).set H.length x=H++r.set 0 x:=fun r x=>qW rfl x;have kk:∀ r:ae,(H++r)[H.length]?=r[0]?:=fun r=>lW rfl;have ha:∀(r:ae) x,(H++r).set (H.length+1) x=H++r.set 1 x:=fun r x=>vS rfl 1 x;have hb:∀ r:ae,(H++r)[H.length+1]?=r[1]?:=fun r=>pb rfl 1
 have O:=zAI (w:=w) (L:=L);have kp:∀ x:af,(∀ y∈x.cs,y.pure=true)=True:=fun x=>eq_true (fun y d=>by simp only[af.cs,aaf,aat,or_false] at d;rcases d with rfl|rfl|rfl|rfl<;>rfl);have eT:∀ x:af,x.cs.length=4:=fun x=>rfl;have j5:∀ x:af,x.cs.take 4=x.cs:=fun x=>rfl;have nx:∀ x:af,x.cs.map V.j9=x.cs:=fun x=>rfl
 have kx:∀(x:af) n,aX n x.cs=x.cs:=fun x n=>by simp[af.cs,aX,V.cl]
 obtain⟨C,P⟩:∃ C,C=qC w L:=⟨_,rfl⟩;rw[<-P] at O |-
 have jb:∀ n,C.length<=n->(∀ j<n,∀ c,C[j]?=some c->hit j c=false)->sD hit C 0=none:=fun n g l=>zn5 fun j o c a=>by rw[aaH];exact l j an c a
 have sE:∀ k c,C[k]?=some c->hit k c=true->(∀ j<k,∀ c,C[j]?=some c->hit j c=false)->sD hit C 0=some (k,c):=fun k c a b l=>by
  have:=zrL (hit:=hit) (k:=0) a (by rw[aaH];exact b) fun i hi c a=>by rw[aaH];exact l i hi c a
  rwa[aaH] at this
 rw[<-P] at uZ iz l9
 by_cases t:w.length=0
 ·have g:sD hit C 0=none:=jb 0 (by rw[O,if_pos t];exact aaj _) fun j o=>by omega
  have Q:((w.length:Int)==0)=true:=by simp[t]
  simp[f,t,g,B]
 have Q:((w.length:Int)==0)=false:=aM an
 have D:C[0]?=some []:=by rw[P];exact zIp t
 simp[f,Q]
 cases E:hit 0 [] with
 | true =>
  have:=iz 0 [] D E [] (fun n=>rfl);simp only[aaw,IL,aby] at this;refine AA this ?_
  have F:=sE 0 [] D E fun j o=>by omega
  obtain⟨I,R⟩:=l9 0 [] D E
  simp[F,I]
 | false =>
 have:=uZ 0 [] D E [] (fun n=>rfl);simp only[aaw,IL,aby] at this;refine AA this ?_
 by_cases w1:w.length=1
 ·have g:sD hit C 0=none:=jb 1 (by rw[O,if_neg t,if_pos w1];exact aaj _) fun j o c a=>by
   obtain rfl:j=0:=by omega
   rw[D] at a;cases a;exact E
  simp[f,w1,g,B]
 have he:((w.length:Int)==1)=false:=aM an
 have uT:2<=w.length:=an
 simp[f,M,he]
 have P1:∀ j<1,∀ c,C[j]?=some c->hit j c=false:=fun j o c a=>by
  obtain rfl:j=0:=by omega
  rw[D] at a;cases a;exact E
 have oD:∀ X:ae,(∀ n,X.map (aaq (aw.cl n))=X)->ai H.length (H++X)=H:=fun X _=>pz X;obtain⟨u,v⟩:∃ u:Nat->Nat,∀ i,u i=i+1:=⟨_,fun _=>rfl⟩;have YV:u 0=1:=v 0;refine aP L.length (fun i=>[(0,.yld id),(1,.ptr i1 0),(2,.ptr i2 0),(4,.int .i64 (u i:Nat)),(24,.vs (IL L) .no),(25,.int .i64 L.length),(26,.int .i64 i)]) (fun _=>H) (fun i=>∀ j<i+1,∀ c,C[j]?=some c->hit j c=false) ?_ ?_
 ·simp[aq,B,bx,BG,N,YV];simpa using P1
 intro i hi l
 by_cases z:i<L.length
 ·obtain⟨x,S⟩:∃ x,x=L[i]:=⟨_,rfl⟩
  have hg:L[i]?=some x:=by rw[aac z,S]
  have T:=qT z;rw[<-S] at T
  have a:C[i+1]?=some [x]:=by rw[P];exact zIq uT hg
  have J:∀ n,([some (aw.cells x.cs)]:ae).map (aaq (aw.cl n))=[some (aw.cells x.cs)]:=fun n=>by simp[aw.cl,kx]
  have J7:∀ n,([some (aw.cells x.cs)]:ae).map (aaq (aw.cl n))=[some (aw.cells x.cs)]:=J;simp(disch:=omega)[bC,T,eT,j5,kk,k0,kp];have U:IL [x]=[x.cs]:=rfl
  cases b:hit (i+1) [x] with
  | true =>
   have d:=iz (i+1) [x] a b _ J;rw[U,<-v i] at d;refine AA d ?_;have F:=sE (i+1) [x] a b l;obtain⟨I,R⟩:=l9 (i+1) [x] a b;rw[<-v i] at I R F
   simp[F,JX I R]
  | false =>
   have d:=uZ (i+1) [x] a b _ J;rw[U,<-v i] at d;refine AA d ?_
   have sI:∀ j<i+1+1,∀ c,C[j]?=some c->hit j c=false:=fun j o c A=>by
    rcases abj.1 o with h|rfl
    ·exact l j h c A
    ·rw[a] at A;cases A;exact b
   have a1:aD .i64 (u i:Int) 1=(u (i+1):Int):=by rw[v,v];exact bE an
   simp(disch:=omega)[z,bE,a1,aq,pz,bx,BG,N,-aah];exact sI
 ·have ay:i=L.length:=an
  subst ay;simp
  by_cases w2:w.length=2
  ·have g:sD hit C 0=none:=jb (L.length+1) (by rw[O,if_neg t,if_neg w1,if_pos w2];exact aaj _) l;simp[f,w2,g,B]
  have hk:((w.length:Int)==2)=false:=aM an
  have hl:3<=w.length:=an
  have nn:L.length*L.length<=1000000:=abw (Nat.mul_le_mul hL hL) (by decide);simp[f,M,hk];obtain⟨s,Q7⟩:∃ s:Nat->Nat,∀ i,s i=L.length+1+i*L.length:=⟨_,fun _=>rfl⟩
  have YW:s 0=L.length+1:=by rw[Q7];omega
  have YX:u L.length=L.length+1:=v _;refine aP L.length (fun i=>[(0,.yld id),(2,.ptr i2 0),(4,.int .i64 (s i:Nat)),(42,.vs (IL L) .no),(43,.int .i64 L.length),(44,.int .i64 i)]) (fun _=>H) (fun i=>∀ j<s i,∀ c,C[j]?=some c->hit j c=false) ?_ ?_
  ·simp[aq,B,bx,N,YW,YX];exact l
  intro i hi hQ;have tP:i*L.length<=L.length*L.length:=Nat.mul_le_mul_right _ hi
  by_cases z:i<L.length
  ·obtain⟨x,S⟩:∃ x,x=L[i]:=⟨_,rfl⟩
   have hg:L[i]?=some x:=by rw[aac z,S]
   have T:=qT z;rw[<-S] at T
   have J:∀ n,([some (aw.cells x.cs)]:ae).map (aaq (aw.cl n))=[some (aw.cells x.cs)]:=fun n=>by simp[aw.cl,kx]
   have ho:ai (H.length+1) (H++[some (.cells x.cs)])=H++[some (.cells x.cs)]:=by have:=(eR.app J).self;simpa using this
   have k8:∀ r:ae,ai (H.length+1) (H++some (.cells x.cs)::r)=H++[some (.cells x.cs)]:=fun r=>by
    have:=(eR.app J).back r;simpa using this
   have hp:(i+1)*L.length=i*L.length+L.length:=abi _ _;have hr:∀ r:ae,(H++r)[i2]?=some (some (.cells [.vs (IL L) .no])):=e2;simp(disch:=omega)[bC,T,eT,j5,kk,k0,e2];obtain⟨e,K⟩:∃ e:Nat->Nat,∀ j,e j=L.length+1+(i*L.length+j):=⟨_,fun _=>rfl⟩
   have YY:e 0=s i:=by rw[K,Q7];omega
   have NA:e L.length=s (i+1):=by rw[K,Q7];omega
   have YZ:∀ j,e (j+1)=e j+1:=fun j=>by rw[K,K];omega
   have Y1:∀ j,j<=L.length->e j<=2000000:=fun j o=>by rw[K];omega
   refine aP L.length (fun j=>[(0,.yld id),(2,.ptr i2 0),(4,.int .i64 (e j:Nat)),(8,.ptr H.length 0),(42,.vs (IL L) .no),(43,.int .i64 L.length),(44,.int .i64 i),(48,.vs (IL L) .no),(49,.int .i64 L.length),(50,.int .i64 j)]) (fun _=>H++[some (.cells x.cs)]) (fun j=>∀ m<e j,∀ c,C[m]?=some c->hit m c=false) ?_ ?_
   ·simp[aq,ho,show id<H.length+1 by omega,show i2<H.length+1 by omega,YY];exact hQ
   intro j o hR
   by_cases wV:j<L.length
   ·obtain⟨y,d⟩:∃ y,y=L[j]:=⟨_,rfl⟩
    have Qx:L[j]?=some y:=by rw[aac wV,d]
    have qE:=qT wV;rw[<-d] at qE
    have a:C[L.length+1+(i*L.length+j)]?=some [x,y]:=by rw[P];exact zIr hl hg Qx
    have W:∀ n,([some (aw.cells x.cs),some (aw.cells y.cs)]:ae).map (aaq (aw.cl n))=[some (aw.cells x.cs),some (aw.cells y.cs)]:=fun n=>by simp[aw.cl,kx]
    have U:IL [x,y]=[x.cs,y.cs]:=rfl;rw[<-K j] at a;have XE:=Y1 j an;have Y:=YZ j;obtain⟨q,hq⟩:∃ q,q=e j:=⟨_,rfl⟩;rw[<-hq] at a XE Y
    have Gp:∀ m<q,∀ c,C[m]?=some c->hit m c=false:=by rw[hq];exact hR
    have a3:aD .i64 (q:Int) 1=((q+1:Nat):Int):=bE an;simp only[<-hq];simp(disch:=omega)[bC,qE,eT,j5,kk,hb,ha,kp]
    cases b:hit q [x,y] with
    | true =>
     have Z:=iz q [x,y] a b _ W;rw[U] at Z;refine AA Z ?_;have F:=sE q [x,y] a b Gp;obtain⟨I,R⟩:=l9 q [x,y] a b
     simp[F,JX I R]
    | false =>
     have Z:=uZ q [x,y] a b _ W;rw[U] at Z;refine AA Z ?_
     have sI:∀ m<q+1,∀ c,C[m]?=some c->hit m c=false:=fun m hm c A=>by
      rcases abj.1 hm with h|rfl
      ·exact Gp m h c A
      ·rw[a] at A;cases A;exact b
     simp(disch:=omega)[wV,bE,a3,Y,aq,k8,show id<H.length+1 by omega,show i2<H.length+1 by omega,-aah];exact sI
   ·obtain rfl:j=L.length:=by omega
    rw[NA] at hR;simp(disch:=omega)[NA,z,bE,aq,pz,bx,N,-aah,-aa0];exact hR
  ·have ay:i=L.length:=an
   subst ay;have g:sD hit C 0=none:=jb (s L.length) (by rw[Q7,O,if_neg t,if_neg w1,if_neg w2];exact aaj _) hQ;simp[g,B]
def NC:aY:=.seq (.region 0 [⟨some 11,.mv (.t 26),none⟩]) (.region 0 [⟨some 12,.mv (.t 27),none⟩])
def ND:aY:=.block 1 (.seq (.seq (.region 0 [⟨some 28,.mv (.t 11),none⟩,⟨some 29,.load 1 false false (.t 5),none⟩,⟨some 30,.bin .geq (.t 28) (.t 29),none⟩]) (.cond (.t 30) (.exit 0) .skip)) (.seq (.keep [3,4,6,7,8,12])
 (.seq (.region 1 [⟨some 32,.load 1 false false (.t 3),none⟩,⟨some 33,.mv (.t 12),none⟩,⟨some 34,.load 1 false false (.t 4),none⟩,⟨some 35,.pcall 312 [.t 32,.t 33,.t 34],none⟩,⟨some 31,.mv (.t 35),none⟩,⟨some 36,.ext 0 (.t 31),none⟩,⟨some 37,.ext 1 (.t 31),none⟩,
  ⟨some 13,.alloc 0 (dm 0 none),none⟩,⟨none,.store 28 (.t 13) (.t 36),none⟩,⟨some 14,.mv (.t 37),none⟩]) (.seq (.keep [6,7,8,12,13]) (.seq (.region 0 [⟨some 38,.nY 0 (.t 13),none⟩,⟨some 39,.load 1 false false (.t 38),none⟩,⟨some 40,.bin .eql (.t 39) (.c (.int .i64 0)),none⟩])
   (.cond (.t 40) (.seq (.region 0 [⟨some 41,.mv (.t 12),none⟩,⟨none,.store 1 (.t 6) (.t 41),none⟩,⟨none,.store 1 (.t 7) (.c (.bool true)),none⟩,⟨none,.store 1 (.t 8) (.c (.int .i64 0)),none⟩]) .ret) .skip))))))
def Jv:List (Nat×V):=[(3,.ptr 0 0),(4,.ptr 1 0),(5,.ptr 2 0),(6,.ptr 3 0),(7,.ptr 4 0),(8,.ptr 5 0)]
def FH(w L:List af)(live:Nat)(tries:Int)(o:List af)(b:Bool)(st:AD):ae :=
 [some (.cells [.vs (IL w) .no]),some (.cells [.int .u32 live]),some (.cells [.int .i64 tries]),some (.cells [.vs (IL o) .full]),some (.cells [.bool b]),some (.cells [.int .i64 0]),some (.cells [.vs (IL w) .no]),some (.cells [.vs (IL L) .no]),some (.loop Jv [26,27] NC ND st)]
section
variable {w L o:List af} {live:Nat} {tries:Int} {b:Bool} {st:AD}
def Q8:fY (FH w L live tries o b st):=by intro n a;simp only[FH,aai,aba] at a;simp[FH,Jv,aw.cl,aX,V.cl,Tk.cl,show 0<n by omega,show 1<n by omega,show 2<n by omega,show 3<n by omega,show 4<n by omega,show 5<n by omega]
noncomputable def qR(w:List af)(live:Nat)(tries:Int)(k:Nat)(c:List af):Bool:=decide (tries<=k)||decide ((dX w c live).1=0)
def ztL[dK G][dp G][aB G][aA G][bJ G][df G][cW G][aL G][cO G][cP G][bT G][b_ G][bI G][au G][BM:dM G][cu G][aI G][bV G][cJ G][eC G]
  (k:Nat) (c:List af) (p:w.length<=maxLen) (q:∀ x∈w,x.k<4294967296) (s:live<4294967296) (t:c.length<=maxLen) (u:∀ x∈c,x.k<4294967296) (X:ae) (v:∀ n,X.map (aaq (aw.cl n))=X) :
  YS G 8 [.int .i64 k,.vs (IL c) .full] (FH w L live tries [] false .ready++X) (!qR w live tries k c)
   (if tries<=k then FH w L live tries [] false (.done (.exit 0))++X else if(dX w c live).1=0 then FH w L live tries c true (.done .ret)++X else FH w L live tries [] false .ready++X):=by
 have nF:∀ o b st,(FH w L live tries o b st).length=9:=fun o b st=>rfl
 obtain⟨a,H',z,rfl,rfl⟩:=zBe (R:=fun a H'=>a=(!qR w live tries k c)/\H'=(if tries<=k then FH w L live tries [] false (.done (.exit 0))++X else if(dX w c live).1=0 then FH w L live tries c true (.done .ret)++X else FH w L live tries [] false .ready++X))
  (G:=G) (H:=FH w L live tries [] false .ready++X) (id:=8) (args:=[.int .i64 k,.vs (IL c) .full]) (e0:=Jv) (ps:=[26,27]) (as:=NC) (bo:=ND) rfl rfl (by
  have C:∀ o b st d (r:ae),(FH w L live tries o b st++r).set 8 (some (.loop Jv [26,27] NC ND d))=FH w L live tries o b d++r:=fun o b st d r=>rfl;have f:∀ o b st (r:ae),(FH w L live tries o b st++r)[8]?=some (some (.loop Jv [26,27] NC ND st)):=fun o b st r=>rfl;have D:∀ o b st (r:ae),(FH w L live tries o b st++r)[0]?=some (some (.cells [.vs (IL w) .no])):=fun o b st r=>rfl;have E:∀ o b st (r:ae),(FH w L live tries o b st++r)[1]?=some (some (.cells [.int .u32 live])):=fun o b st r=>rfl
  have F:∀ o b st (r:ae),(FH w L live tries o b st++r)[2]?=some (some (.cells [.int .i64 tries])):=fun o b st r=>rfl;have I:∀ o b st (r:ae),(FH w L live tries o b st++r)[3]?=some (some (.cells [.vs (IL o) .full])):=fun o b st r=>rfl;have J:∀ o b st (r:ae),(FH w L live tries o b st++r)[4]?=some (some (.cells [.bool b])):=fun o b st r=>rfl;have K:∀ o b st (r:ae),(FH w L live tries o b st++r)[5]?=some (some (.cells [.int .i64 0])):=fun o b st r=>rfl
  have M:∀ o e b st (r:ae),(FH w L live tries o b st++r).set 3 (some (.cells [.vs (IL e) .full]))=FH w L live tries e b st++r:=fun o e b st r=>rfl;have N:∀ o b a st (r:ae),(FH w L live tries o b st++r).set 4 (some (.cells [.bool a]))=FH w L live tries o a st++r:=fun o b a st r=>rfl;have O:∀ o b st (r:ae),(FH w L live tries o b st++r).set 5 (some (.cells [.int .i64 0]))=FH w L live tries o b st++r:=fun o b st r=>rfl
  have h:∀ o b st (r:ae),ai (9+X.length) (FH w L live tries o b st++(X++r))=FH w L live tries o b st++X:=fun o b st r=>by
   have:=((Q8 (w:=w) (L:=L) (live:=live) (tries:=tries) (o:=o) (b:=b) (st:=st)).app v).back r;rw[aao,aag,nF] at this;exact this
  have i:∀ o b st,ai (9+X.length) (FH w L live tries o b st++X)=FH w L live tries o b st++X:=fun o b st=>by
   have:=h o b st [];simpa using this
  have kk:∀ o b st (r:ae),(FH w L live tries o b st++(X++r))[9+X.length]?=r[0]?:=fun o b st r=>by
   rw[<-aao];exact lW (by simp[nF])
  have P:∀ o b st (r:ae) y,(FH w L live tries o b st++(X++r)).set (9+X.length) y=FH w L live tries o b st++(X++r.set 0 y):=fun o b st r y=>by
   rw[<-aao,qW (by simp[nF]),aao]
  have hd:=zq2 (G:=G) w c live p t q u s;simp only[FL] at hd;obtain⟨A,l⟩:∃ A,A=dm 0 none:=⟨_,rfl⟩
  have Q:A.length=28:=by rw[l];rfl
  obtain⟨g,B,S,T,kB,U,W⟩:∃(g:Int) (B:List V),(dX w c live).1=g/\B=dm (dX w c live).1 (dX w c live).2/\(∀ n,aX n B=B)/\B.length=28/\B.take 1=[.int .i64 g] :=
   ⟨_,_,rfl,rfl,fun n=>Oj _ _ n,zsF w c live,zuN _ _⟩
  have tB:B.take 28=B:=aak an;have Y:A.drop 28=[]:=aaV an;rw[<-T] at hd;simp only[qR,S];simp[NC,Jv,qJ];refine⟨_,_,_,_,f _ _ _ _,?_⟩;rw[C];simp[ND,nF,F];have Z:∀ o e b st,(FH w L live tries o b st).set 3 (some (.cells [.vs (IL e) .full]))=FH w L live tries e b st:=fun o e b st=>rfl;have ha:∀ o b a st,(FH w L live tries o b st).set 4 (some (.cells [.bool a]))=FH w L live tries o a st:=fun o b a st=>rfl
  have hb:∀ o b st,(FH w L live tries o b st).set 5 (some (.cells [.int .i64 0]))=FH w L live tries o b st:=fun o b st=>rfl
  by_cases m:tries<=(k:Int)
  ·simp[m,f];exact⟨_,_,_,_,⟨rfl,rfl,rfl,rfl⟩,i _ _ _⟩
  simp[m,nF,D,E];refine ax hd ?_;simp[nF,<-l,Q,U,Y,P,W]
  by_cases j:g=0
  ·simp[j,nF,I,J,K,M,N,O,f];exact⟨_,_,_,_,⟨rfl,rfl,rfl,rfl⟩,h _ _ _ _⟩
  ·simp[j,aM j,nF,f]
   exact⟨_,_,_,_,⟨rfl,rfl,rfl,rfl⟩,h _ _ _ _⟩)
 exact z
end
def zyD{L:List Nd}(h:Inv L){x:Int}{c:Nat}(e:cV L x=some c):c<4294967296:=by
 unfold cV at e;split at e
 ·cases b:L[x.toNat]? with
  | none=>rw[b] at e;cases e
  | some a =>
   rw[b] at e;simp only[Option.bind_some,ry] at e;split at e
   ·exact Gt e (h.wf a (aaB b)).1
   ·cases e
 ·cases e
def zvy{w:List af}(b:∀ x∈w,x.k<4294967296)(j:bn w=true):∀ n∈jU w++yb w,n<4294967296:=by
 have hi:Inv (aR [] w).L:=(C5 Inv.nil w b).ext.inv;intro n a;rw[aar] at a
 rcases a with a|a
 ·simp only[jU,aap,aa1] at a;obtain⟨x,⟨e,_⟩,rfl⟩:=a;exact b x e
 ·simp only[yb,aar,Option.mem_toList] at a
  have c:∀ v,gL v (aR [] w).L ((aR [] w).p.getD 0 0)=some n->n<4294967296:=fun v h=>by
   have f:0<=(aR [] w).p.getD 0 0:=by
    unfold gL at h;split at h
    ·rename_i d;simp only[dL,decide_eq_true_eq] at d;exact d.1
    ·cases h
   obtain⟨i,g⟩:=Int.eq_ofNat_of_zero_le f;rw[g] at h;exact zCA hi h
  rcases a with h|h|h
  ·exact zyD hi h
  ·exact c _ h
  ·exact c _ h
noncomputable def fT(w:List af):List af:=Ez w (jU w++yb w)
def zIs{l:List af}{x:af}(a:∀ y∈l,y.k<4294967296)(b:x.k<4294967296):∀ y∈o_ l x,y.k<4294967296:=by
 unfold o_;split
 ·exact a
 ·split
  ·intro y c
   rcases aar.1 c with h|h
   ·exact a y h
   ·rw[aaI.1 h];exact b
  ·exact a
def Q9:∀{xs l:List af},(∀ y∈l,y.k<4294967296)->(∀ y∈xs,y.k<4294967296)->∀ y∈eY l xs,y.k<4294967296
 | [],_,a,_=>a
 | x::xs,l,a,b=>by
  show ∀ y∈eY (o_ l x) xs,y.k<4294967296;exact Q9 (zIs a (b x ir)) fun y c=>b y (by simp[c])
def zyE{w:List af}{b:List Nat}(c:∀ x∈w,x.k<4294967296)(d:∀ n∈b,n<4294967296):∀ y∈Ez w b,y.k<4294967296:=by
 refine Q9 (Q9 (Q9 ir c) ?_) ?_
 ·intro y a;simp only[aaf,aat,or_false] at a
  rcases a with rfl|rfl<;>decide
 ·intro y a;simp only[abF,lG,aap] at a;obtain⟨n,e,o,_,rfl⟩:=a;exact d n e
def zuv(w:List af)(b:List Nat):(Ez w b).length<=w.length+2+6*b.length:=by
 unfold Ez;have c:=Bj w [];have d:=Bj [⟨7,0,0,0⟩,⟨135,0,0,0⟩] (eY [] w);have f:=Bj (b.flatMap lG) (eY (eY [] w) [⟨7,0,0,0⟩,⟨135,0,0,0⟩])
 have g:(b.flatMap lG).length=6*b.length:=by
  generalize b=l
  induction l with
  | nil=>rfl
  | cons a l e=>rw[aaW,aag,e,aai];simp[lG,An];omega
 simp at c d;omega
def zAJ(w:List af):(yb w).length<=3:=by
 have a:∀ o:Option Nat,o.toList.length<=1:=fun o=>by cases o<;>simp
 have b:=a (cV (aR [] w).L ((aR [] w).p.getD 0 0));have c:=a (gL (aQ 34) (aR [] w).L ((aR [] w).p.getD 0 0));have d:=a (gL (4294967295::aQ 33) (aR [] w).L ((aR [] w).p.getD 0 0));rw[yb,aag,aag];omega
def zpU{w:List af}(a:∀ x∈w,x.k<4294967296)(b:bn w=true):∀ y∈fT w,y.k<4294967296:=zyE a (zvy a b)
def ztM{w:List af}(a:bn w=true):(fT w).length<=300:=by
 have c:w.length<=32:=by simp only[bn,aae,decide_eq_true_eq] at a;exact a.1
 have b:=zuv w (jU w++yb w);have d:=Q2 w;have e:=zAJ w;rw[aag] at b;unfold fT;omega
def zCS[fh G](H:ae)(w L:List af):bp G (.F 329 [.vs (IL w) .no,.vs (IL L) .no] H (.fn 328 [.ptr H.length 0,.ptr (H.length+1) 0]) (H++[some (.cells [.vs (IL w) .no]),some (.cells [.vs (IL L) .no])])):=by refine eB fh.adJ (aaa rfl) ?_;simp
noncomputable def ja(w:List af)(live:Nat)(tries:Int):Option (List af) :=
 match sD (qR w live tries) (qC w (fT w)) 0 with
 | some p=>if tries<=p.1 then none else some p.2
 | none=>none
def zpV{hit:Nat->List af->Bool}{p:Nat×List af}:∀{l:List (List af)} {k:Nat},sD hit l k=some p->k<=p.1/\l[p.1-k]?=some p.2/\hit p.1 p.2=true
 | [],_,h=>by cases h
 | c::l,k,h=>by
  rw[sD] at h;split at h
  ·rename_i a;cases h;exact⟨aaj _,ir,a⟩
  ·obtain⟨e,b,d⟩:=zpV h;refine⟨an,?_,d⟩;rw[show p.1-k=(p.1-(k+1))+1 by omega];exact b
def zCT[dK G][dp G][aB G][aA G][bJ G][df G][cW G][aL G][cO G][cP G][bT G][b_ G][bI G][au G][v:dM G][cu G][aI G][cT G][bV G][cJ G][eC G][fM G][fg G][fh G][iU G]
  (w:List af) (live:Nat) (tries:Int) (m:w.length<=maxLen) (h:∀ x∈w,x.k<4294967296) (g:bn w=true) (t:live<4294967296) :
  FP G 333 [FL w,.int .u32 live,.int .i64 tries] (.bc [FL ((ja w live tries).getD []),.bool (ja w live tries).isSome,.int .i64 0]):=by
 haveI:il G:=v.toil
 refine bF iU.adK (aaa rfl) ?_;have j:=zwB (G:=G) w m h g (zvy h g);have n:=zpU h g;have y:=ztM g
 have z:w.length<=32:=by simp only[bn,aae,decide_eq_true_eq] at g;exact g.1
 have a:ja w live tries=ja w live tries:=rfl
 conv at a=>rhs;unfold ja
 change FP G 330 [FL w] (.bc [FL (fT w),.int .i64 0]) at j;generalize fT w=L at j n y a;simp only[FL] at j;simp[FL];refine ax j ?_;simp;refine s7 (zCS _ w L) ir ?_;simp
 have e:=zyC (G:=G) (H:=FH w L live tries [] false .ready) Q8 (id:=8) (i1:=6) (i2:=7) (w:=w) (L:=L) (tk:=.no) an an rfl rfl (show 8<9 by decide) (hit:=qR w live tries)
  (H':=fun k c=>if tries<=(k:Int) then FH w L live tries [] false (.done (.exit 0)) else FH w L live tries c true (.done .ret))
  (fun k c l f X q=>by
   have i:=aaB l;have:=ztL (G:=G) (L:=L) (tries:=tries) k c m h t (by have:=QE i;simp only[maxLen];omega) (fun x r=>n x (QH i x r)) X q;rw[f] at this;simp only[qR,aaC,decide_eq_false_iff_not] at f;rw[if_neg f.1,if_neg f.2] at this
   exact this)
  (fun k c l f X q=>by
   have i:=aaB l;have:=ztL (G:=G) (L:=L) (tries:=tries) k c m h t (by have:=QE i;simp only[maxLen];omega) (fun x r=>n x (QH i x r)) X q;rw[f] at this;simp only[qR,abb,decide_eq_true_eq] at f
   by_cases d:tries<=(k:Int)
   ·rw[if_pos d] at this |-;exact this
   ·rw[if_neg d,if_pos (f.resolve_left d)] at this;rw[if_neg d]
    exact this)
  (fun k c l f=>by
   by_cases d:tries<=(k:Int)
   ·rw[if_pos d];exact⟨(Q8 (w:=w) (L:=L) (live:=live) (tries:=tries) (o:=[]) (b:=false) (st:=.done (.exit 0))).self,rfl⟩
   ·rw[if_neg d];exact⟨(Q8 (w:=w) (L:=L) (live:=live) (tries:=tries) (o:=c) (b:=true) (st:=.done .ret)).self,rfl⟩)
 have s:∀ o b st,ai 8 (FH w L live tries o b st)=[some (.cells [.vs (IL w) .no]),some (.cells [.int .u32 live]),some (.cells [.int .i64 tries]),some (.cells [.vs (IL o) .full]),some (.cells [.bool b]),some (.cells [.int .i64 0]),some (.cells [.vs (IL w) .no]),some (.cells [.vs (IL L) .no])]:=fun o b st=>by
  simp[ai,FH,aw.cl,aX,V.cl,Tk.cl]
 cases u:sD (qR w live tries) (qC w L) 0 with
 | none =>
  rw[u] at e a;simp only[] at e a;refine J4 e rfl (.inl ⟨rfl,rfl⟩) ?_
  simp[s,a]
 | some p =>
  rw[u] at e a;simp only[] at e a
  by_cases d:tries<=(p.1:Int)
  ·rw[if_pos d] at e a;refine J4 (x:=.exit 0) e rfl (.inr ⟨rfl,ir⟩) ?_;simp[s,a]
  ·rw[if_neg d] at e a;refine J4 (x:=.ret) e rfl (.inr ⟨rfl,ir⟩) ?_;simp[s,a]
open Go Go.RowKit
variable {G:aN}
section
variable {w:List af} {live:Nat} {tries:Int}
def zm7{hit:Nat->List af->Bool}{p:Nat×List af}:∀{l:List (List af)} {k:Nat},sD hit l k=some p->∀ i,k+i<p.1->∀ c,l[i]?=some c->hit (k+i) c=false
 | [],_,h=>by cases h
 | d::l,k,h=>by
  rw[sD] at h;split at h
  ·cases h;intro i hi;omega
  ·rename_i b;intro i hi c a
   cases i with
   | zero =>
    simp only[aaR,aaZ.injEq] at a;subst a
    simpa using b
   | succ i =>
    rw[show k+(i+1)=k+1+i by omega];exact zm7 h i an c (by simpa using a)
def zAK{c:List af}(h:ja w live tries=some c):∃ k:Nat,(k:Int)<tries/\(qC w (fT w))[k]?=some c/\(dX w c live).1=0/\∀ j<k,∀ c,(qC w (fT w))[j]?=some c->(dX w c live).1≠0:=by
 unfold ja at h;split at h
 ·rename_i p a;obtain⟨_,b,d⟩:=zpV a;have e:=zm7 a;rw[Nat.sub_zero] at b;split at h
  ·cases h
  ·rename_i f;cases h;simp only[qR,abb,decide_eq_true_eq] at d;refine⟨p.1,an,b,d.resolve_left f,fun j i c g=>?_⟩;have:=e j an c g;simp only[qR,aaH,aaC,decide_eq_false_iff_not] at this;exact this.2
 ·cases h
end
def zCU{l:List af}{x:af}(a:∀ y∈l,bn [y]=true):∀ y∈o_ l x,bn [y]=true:=by
 unfold o_;split
 ·exact a
 ·split
  ·rename_i b;intro y c
   rcases aar.1 c with h|h
   ·exact a y h
   ·rw[aaI.1 h];exact b
  ·exact a
def Q_:∀{xs l:List af},(∀ y∈l,bn [y]=true)->∀ y∈eY l xs,bn [y]=true
 | [],_,a=>a
 | x::xs,l,a=>by
  show ∀ y∈eY (o_ l x) xs,bn [y]=true;exact Q_ (zCU a)
def zuw{w:List af}{a:List Nat}:∀ y∈Ez w a,qD y=true:=by intro y b;have:=Q_ (Q_ (Q_ (l:=[]) ir)) y b;simpa[bn] using this
def zAL{w L c:List af}(b:∀ y∈L,qD y=true)(a:c∈qC w L)(f:w.length<=32):bn c=true:=by have g:=QE a;have d:=QH a;simp only[bn,aae,decide_eq_true_eq,aaQ];exact⟨an,fun x e=>b x (d x e)⟩
open Go Go.RowKit
variable {G:aN}
def sA(a:Nat):St:=⟨a,0,aQ 16⟩
def Prd(f:List af)(i:Nat):Prop:=∃ j x o,f[j]?=some x/\o∈aZ x/\j+1+o=i
def x6(f:List af):Prop:=∀ i,0<i->i<f.length->Prd f i
def M6(f:List af)(m:List Bool):Prop:=∀ i,m[i]?=some true->0<i->∃ j x o,f[j]?=some x/\m[j]?=some true/\o∈aZ x/\j+1+o=i
def Ya(m:List Bool)(i o:Nat):bG m (i+o)=bG m i+bG (m.drop i) o:=by simp only[bG];rw[List.take_add,List.countP_append]
def zAM{m:List Bool}{i:Nat}(h:m[i]?=some true):bG m (i+1)=bG m i+1:=by rw[Ya];have a:=(aab.1 h);obtain⟨b,c⟩:=a;have:=aaM b;rw[c] at this;rw[this];simp[bG]
def Y4:∀(m:List Bool) (p:Nat),p<m.countP id->∃ i,m[i]?=some true/\bG m i=p
 | [],p,h=>by simp at h
 | true::m,0,_=>⟨0,rfl,Fc _⟩
 | true::m,p+1,h=>by
  obtain⟨i,a,b⟩:=Y4 m p (by simpa using h)
  exact⟨i+1,by simpa using a,by rw[SR,b];simp;omega⟩
 | false::m,p,h=>by
  obtain⟨i,a,b⟩:=Y4 m p (by simpa using h);exact⟨i+1,by simpa using a,by rw[SR,b];simp⟩
def zEe{f:List af}{m:List Bool}{i:Nat}{x:af}(d:f.length=m.length)(e:f[i]?=some x)(g:m[i]?=some true):(dC f m)[bG m i]?=some (j_ (m.drop (i+1)) x):=by
 have a:=OA f m i d;obtain⟨h,j⟩:=aab.1 e;obtain⟨k,l⟩:=aab.1 g;have b:=aaM h;have c:=aaM k;rw[j] at b;rw[l] at c;rw[b,c,dC] at a
 have n:((dC f m).drop (bG m i))[0]?=some (j_ (m.drop (i+1)) x):=by rw[a];rfl
 rwa[List.getElem?_drop,abz] at n
def zAN(m:List Bool){x:af}{o:Nat}(h:o∈aZ x):bG m o∈aZ (j_ m x):=by
 unfold aZ at h |-;rw[Fe];split at h
 ·cases h
 rename_i c;rw[if_neg c];split at h
 ·rename_i a;rw[if_pos a];simp only[aaI] at h;subst h;simp[j_,a]
 ·rename_i a;rw[if_neg a];split at h
  ·rename_i b;rw[if_pos b];simp only[aaf,aat,or_false] at h
   have d:j_ m x={ x with jt:=(bG m x.jt.toNat:Nat),jf:=(bG m x.jf.toNat:Nat) }:=by rw[j_,if_neg a,if_pos b]
   rw[d]
   rcases h with rfl|rfl<;>simp
  ·rename_i b;rw[if_neg b];simp only[aaI] at h |-;subst h;exact Fc _
def zAO{f:List af}{m:List Bool}(e:mc f m)(g:M6 f m):x6 (dC f m):=by
 have a:=H6 e;intro p r b;rw[Fg f m a] at b;obtain⟨i,k,c⟩:=Y4 m p b
 have hi:0<i:=by
  rcases Nat.eq_zero_or_pos i with rfl|h
  ·rw[Fc] at c;omega
  ·exact h
 obtain⟨j,x,o,l,d,n,q⟩:=g i k hi;refine⟨bG m j,_,_,zEe a l d,zAN (m.drop (j+1)) n,?_⟩;rw[<-c,<-q,Ya,zAM d]
def zyF:∀ a b:List UInt8,Op.bytesLess a b=false->a≠b->Op.bytesLess b a=true
 | [],[],_,h=>absurd rfl h
 | [],_::_,h,_=>by simp[Op.bytesLess] at h
 | _::_,[],_,_=>by simp[Op.bytesLess]
 | x::a,y::b,h,d=>by
  simp only[Op.bytesLess,aaC,Bool.and_eq_false_iff,decide_eq_false_iff_not,beq_eq_false_iff_ne] at h;simp only[Op.bytesLess,abb,aae,decide_eq_true_eq,beq_iff_eq]
  by_cases e:x=y
  ·subst e;exact .inr ⟨rfl,zyF a b (h.2.resolve_left (fun h=>h rfl)) (fun e=>d (by rw[e]))⟩
  ·refine .inl ?_;have c:=h.1;rw[UInt8.not_lt] at c;exact UInt8.lt_of_le_of_ne c (fun e'=>e e'.symm)
def ztN:∀ a b c:List UInt8,Op.bytesLess a b=true->Op.bytesLess b c=true->Op.bytesLess a c=true
 | _,[],_,h,_=>by cases ‹List UInt8›<;>simp[Op.bytesLess] at h
 | _,_::_,[],_,h=>by simp[Op.bytesLess] at h
 | [],_::_,_::_,_,_=>by simp[Op.bytesLess]
 | x::a,y::b,z::c,e,d=>by
  simp only[Op.bytesLess,abb,aae,decide_eq_true_eq,beq_iff_eq] at e d |-
  rcases e with e|⟨rfl,e⟩
  ·rcases d with d|⟨rfl,d⟩
   ·exact .inl (UInt8.lt_trans e d)
   ·exact .inl e
  ·rcases d with d|⟨rfl,d⟩
   ·exact .inl d
   ·exact .inr ⟨rfl,ztN a b c e d⟩
structure TR where
 fr:List af
 to:List af
 lv:Nat
def Ra(k:Nat):List UInt8:=(abg 4).map fun i=>aal (k/2^(8*i)%256)
def Y5(x:af):List UInt8:=[aal (x.op.toNat%256),aal (x.op.toNat/256%256),aal (x.jt.toNat%256),aal (x.jf.toNat%256)]++Ra x.k
def CT(w:List af):List UInt8:=w.flatMap Y5
def TR.by(r:TR):List UInt8:=Ra r.lv++([aal (r.fr.length%256),aal (r.to.length%256)]++(CT r.fr++CT r.to))
def TR.may(r:TR):Bool:=bn r.fr&&bn r.to&&decide (r.to.length<r.fr.length)&&decide (r.lv<262144)
def vH(a b:TR):Bool:=Op.bytesLess a.by b.by
def s6:List TR->Bool
 | []=>true
 | [_]=>true
 | a::b::l=>vH a b&&s6 (b::l)
def dD(t:List TR):Bool:=t.all TR.may&&s6 t&&decide (t.length<=64)
def og(t:List TR)(r:TR):Nat:=(t.takeWhile fun y=>vH y r).length
def qi(t:List TR)(r:TR):Bool:=match t[og t r]? with
 | some y=>decide (y.by=r.by)
 | none=>false
def qj(t:List TR)(r:TR):List TR×Int :=
 if(dD t&&r.may)=true then if qi t r=true then(t,0) else if t.length=64 then(t,3) else(t.take (og t r)++r::t.drop (og t r),0)
 else(t,1)
def A9(t:List TR)(w:List af)(live:Nat):Option (List af) :=
 if dD t=true then(t.find? fun r=>decide (r.fr=w)&&decide (live%262144=r.lv)).map TR.to else none
def zyG{a:TR}{t:List TR}(h:s6 (a::t)=true):s6 t=true:=by
 cases t with
 | nil=>rfl
 | cons b l=>simp only[s6,aae] at h;exact h.2
def Y7{a:TR}:∀{t:List TR},s6 (a::t)=true->∀ b∈t,vH a b=true
 | [],_,b,hb=>by cases hb
 | c::t,h,b,hb=>by
  simp only[s6,aae] at h
  rcases aaf.1 hb with rfl|hb
  ·exact h.1
  ·exact ztN _ _ _ h.1 (Y7 h.2 b hb)
def zrM{a:TR}{t:List TR}(h:∀ b,t.head?=some b->vH a b=true)(c:s6 t=true):s6 (a::t)=true:=by
 cases t with
 | nil=>rfl
 | cons b l =>
  simp only[s6,aae];exact⟨h b rfl,c⟩
def ztO:∀{t:List TR} {r:TR},s6 t=true->qi t r=false->s6 (t.take (og t r)++r::t.drop (og t r))=true
 | [],r,_,_=>by simp[og,s6]
 | a::t,r,h,c=>by
  cases e:vH a r with
  | true =>
   have d:og (a::t) r=og t r+1:=by simp[og,e]
   have g:qi t r=false:=by rw[qi,d,aaS] at c;exact c
   have i:=ztO (zyG h) g;rw[d,List.take_succ_cons,List.drop_succ_cons,aam];refine zrM (fun b f=>?_) i;have hm:b∈t.take (og t r)++r::t.drop (og t r):=List.mem_of_mem_head? f;rw[aar,aaf] at hm
   rcases hm with hm|rfl|hm
   ·exact Y7 h b (aaN hm)
   ·exact e
   ·exact Y7 h b (aaO hm)
  | false =>
   have d:og (a::t) r=0:=by simp[og,e]
   rw[d,List.take_zero,List.drop_zero,aaD];refine zrM (fun b f=>?_) h;simp only[List.head?_cons,aaZ.injEq] at f;subst f;rw[qi,d] at c;simp only[aaR,decide_eq_false_iff_not] at c;exact zyF _ _ e c
def ztP(t:List TR)(r:TR):og t r<=t.length:=by unfold og;exact(List.takeWhile_prefix _).length_le
def zAP{t:List TR}{r:TR}(d:dD t=true)(e:r.may=true):dD (qj t r).1=true/\t.length<=(qj t r).1.length/\(qj t r).1.length<=t.length+1/\(∀ x∈(qj t r).1,x∈t\/x=r):=by
 unfold qj;rw[d,e,if_pos (show(true&&true)=true from rfl)];have c:dD t=true/\t.length<=t.length/\t.length<=t.length+1/\(∀ x∈t,x∈t\/x=r):=⟨d,aaj _,an,fun x b=>.inl b⟩;split
 ·exact c
 rename_i i;split
 ·exact c
 rename_i k;have l:=ztP t r;simp only[dD,aae,decide_eq_true_eq] at d;obtain⟨⟨f,j⟩,m⟩:=d
 have a:(t.take (og t r)++r::t.drop (og t r)).length=t.length+1:=by simp only[aag,aai,aav,abG];omega
 have g:∀ x∈t.take (og t r)++r::t.drop (og t r),x∈t\/x=r:=fun x b=>by
  rw[aar,aaf] at b
  rcases b with b|rfl|b
  ·exact .inl (aaN b)
  ·exact .inr rfl
  ·exact .inl (aaO b)
 refine⟨?_,by rw[a];omega,by rw[a];exact aaj _,g⟩;simp only[dD,aae,decide_eq_true_eq];refine⟨⟨?_,ztO j (by simpa using i)⟩,by rw[a];omega⟩;rw[aaQ] at f |-;intro x b
 rcases g x b with h|rfl
 ·exact f x h
 ·exact e
def Je(a:Nat):fB .u8 (a:Int)=((a%256:Nat):Int):=by unfold fB;simp[IntKind.wrap,IntKind.bits,IntKind.signed]
def oT(x:af):List Nat:=[x.op.toNat%256,x.op.toNat/256%256,x.jt.toNat%256,x.jf.toNat%256]++fE x.k 4
def zAQ(x:af):(oT x).length=8:=by simp[oT,fE]
def kQ(w:List af):List Nat:=w.flatMap oT
def El:∀ w:List af,(kQ w).length=8*w.length
 | []=>rfl
 | x::w=>by rw[kQ,aaW,aag,zAQ,<-kQ,El w,aai];omega
def zwC(w:List af)(x:af):kQ (w++[x])=kQ w++oT x:=by simp[kQ]
def ztQ(w:List af):CT w=(kQ w).map aal:=by
 rw[CT,kQ,List.map_flatMap]
 congr 1
def zyH{x:af}(h:jw x=true):(0<=x.op/\x.op<=255)/\(0<=x.jt/\x.jt<=255)/\0<=x.jf/\x.jf<=255:=by
 cases a:qu x.op with
 | none=>simp[jw,a] at h
 | some r =>
  obtain⟨c,d⟩:=Kc a
  have e:∀ r∈uJ,0<=r.1/\r.1<=255:=by decide
  have b:=e r d;rw[c] at b;refine⟨b,?_⟩;rw[jw,a] at h;simp only[aae] at h;obtain⟨_,h⟩:=h;split at h
  ·simp only[decide_eq_true_eq] at h;omega
  ·simp only[decide_eq_true_eq] at h;omega
def zAR[aB G][dU G](w:List af)(l:w.length<=4096)(m:∀ x∈w,x.k<4294967296)(d:∀ x∈w,jw x=true):FP G 350 [FL w] (.int .i64 0):=by
 refine bF dU.adP (aaa rfl) ?_;have e:((4096:Int)<(w.length:Int))=False:=eq_false an;simp[FL,e];refine aP w.length (fun i=>[(8,FL w),(9,.int .i64 w.length),(10,.int .i64 i)]) (fun _=>[]) (fun _=>True) ?_ ?_
 ·simp[aq,ai,FL]
 intro i hi _
 by_cases a:i<w.length
 ·obtain⟨x,b⟩:∃ x,x=w[i]:=⟨_,rfl⟩;have c:=qT a;rw[<-b] at c;have f:=d x (by rw[b];exact aaA a);have g:x.cs.length=4:=rfl;have h:x.cs.take 4=x.cs:=rfl;simp(disch:=omega)[bC,FL,c,g,h];refine ax (JD x) ?_;simp(disch:=omega)[f,a,bE,aq,ai,-aah]
 ·have j:i=w.length:=an
  subst j;simp
def YN[aB G][dU G](w:List af)(z:w.length<=4096)(n:∀ x∈w,x.k<4294967296)(p:∀ x∈w,jw x=true):FP G 351 [FL w] (.bc [.vs (aj .u8 (kQ w)) .no,.int .i64 0]):=by
 refine bF dU.adQ (aaa rfl) ?_;have A:=zAR (G:=G) w z n p;simp[FL];refine ax A ?_;simp;obtain⟨T,a⟩:∃ T:Nat->List Nat,∀ j,T j=kQ (w.take j):=⟨_,fun _=>rfl⟩
 have B:T 0=[]:=by rw[a];rfl
 refine aP w.length (fun i=>[(5,.vs (aj .u8 (T i)) (.own 0)),(14,FL w),(15,.int .i64 w.length),(16,.int .i64 i)]) (fun i=>[some (.zone (T i).length)]) (fun _=>True) ?_ ?_
 ·simp[aq,ai,FL,B]
 intro i hi _
 by_cases b:i<w.length
 ·obtain⟨x,f⟩:∃ x,x=w[i]:=⟨_,rfl⟩;have q:=qT b;rw[<-f] at q;have O:x.k<4294967296:=n x (by rw[f];exact aaA b);obtain⟨P,Q,R⟩:=zyH (p x (by rw[f];exact aaA b))
  have C:T (i+1)=T i++oT x:=by rw[a,a,aau,aac b,Option.toList_some,zwC,f]
  have r:(T i).length=8*i:=by rw[a,El,aav];omega
  obtain⟨o,s⟩:∃ o:Nat,x.op=o:=⟨x.op.toNat,an⟩;obtain⟨c,t⟩:∃ o:Nat,x.jt=o:=⟨x.jt.toNat,an⟩;obtain⟨d,e⟩:∃ o:Nat,x.jf=o:=⟨x.jf.toNat,an⟩;obtain⟨k,u⟩:∃ k,x.k=k:=⟨_,rfl⟩
  have D:x.cs=[.int .i64 o,.int .i64 c,.int .i64 d,.int .u32 k]:=by rw[af.cs,s,t,e,u]
  have E:oT x=[o%256,o/256%256,c%256,d%256]++fE k 4:=by rw[oT,s,t,e,u];rfl
  have g:jh .i64 (o:Int) 8=((o/256:Nat):Int):=yq (j:=8) (by decide);obtain⟨U,h⟩:∃ U:List Nat,U=T i++[o%256,o/256%256,c%256,d%256]:=⟨_,rfl⟩
  have v:U.length=8*i+4:=by rw[h,aag,r];rfl
  have F:aj .u8 (T i)++[[V.int .u8 (o%256:Nat)],[V.int .u8 (o/256%256:Nat)],[V.int .u8 (c%256:Nat)],[V.int .u8 (d%256:Nat)]]=aj .u8 U:=by rw[h];simp[aj]
  simp(disch:=omega)[bC,FL,q,D,Je,g,F,r,az,-aah,-aaY,-aa8]
  refine aP 4 (fun j=>[(5,.vs (aj .u8 (U++fE k j)) (.own 0)),(7,.ptr 1 0),(14,FL w),(15,.int .i64 w.length),(16,.int .i64 i),(36,.int .i64 j)])
   (fun j=>[some (.zone (8*i+4+j)),some (.cells [.int .i64 o,.int .i64 c,.int .i64 d,.int .u32 k]),none]) (fun _=>True) ?_ ?_
  ·have H:fE k 0=[]:=rfl;simp[aq,ai,FL,H]
  intro j S _
  by_cases l:j<4
  ·have I:eI .i64 8 (j:Int)=((8*j:Nat):Int):=by unfold eI;exact IntWalk.i64_in _ ⟨an,an⟩
   have J:jh .u32 (k:Int) ((8*j:Nat):Int)=((k/256^j:Nat):Int):=by rw[yT an,Nat.pow_mul]
   have K:(((8*j:Nat):Int)<0)=False:=eq_false an
   have L:aj .u8 (U++fE k j)++[[V.int .u8 (k/256^j%256:Nat)]]=aj .u8 (U++fE k (j+1)):=by rw[zwS];simp[aj]
   have M:(U++fE k j).length=8*i+4+j:=by rw[aag,v,Z2]
   simp(disch:=omega)[bC,K,I,J,Je,L,M,az,bE,l,aq,ai,FL,-aah,-aa0,-aaY,-aa8,-abJ];omega
  ·have m:j=4:=an
   subst m
   have y:U++fE k 4=T (i+1):=by rw[C,E,h,aao]
   have N:(T (i+1)).length=8*i+4+4:=by rw[<-y,aag,v,Z2]
   simp(disch:=omega)[y,N,b,bE,aq,ai,FL,-aah]
 ·have m:i=w.length:=an
  subst m
  have:T w.length=kQ w:=by rw[a,aaz]
  simp[this]
def TR.cs(r:TR):List V:=[.vs (IL r.fr) .no,.vs (IL r.to) .no,.int .u32 r.lv]
def TV(r:TR):V:=.agg r.cs
def TL(t:List TR):List (List V):=t.map TR.cs
def TF(t:List TR):V:=.vs (TL t) .no
@[simp] theorem zIR (t:List TR):(TL t).length=t.length:=by simp[TL]
theorem G3{t:List TR}{i:Nat}{r:TR}(h:t[i]?=some r):(TL t)[i]?=some r.cs:=by simp[TL,h]
def TR.ok(r:TR):Prop:=r.fr.length<=maxLen/\r.to.length<=maxLen/\(∀ x∈r.fr,x.k<4294967296)/\(∀ x∈r.to,x.k<4294967296)/\r.lv<4294967296
def Jf:∀ l:List Nat,(∀ b∈l,b<256)->AK (aj .u8 l)=some (l.map aal)
 | [],_=>rfl
 | b::l,h=>by
  have a:=Jf l fun c d=>h c (by simp[d]);simp only[aj] at a;simp[aj,AK,a]
def Jc{w:List af}(h:bn w=true):w.length<=32/\∀ x∈w,jw x=true:=by simp only[bn,aae,decide_eq_true_eq,aaQ,qD] at h;exact⟨h.1,fun x a=>(h.2 x a).1.2⟩
def zvz{x:af}:∀ b∈oT x,b<256:=by
 intro b a;simp only[oT,fE,aar,aaf,aat,or_false,aap,abN] at a
 rcases a with(rfl|rfl|rfl|rfl)|⟨j,_,rfl⟩<;>exact abh _ (by decide)
def TR.rD(r:TR):List Nat:=fE r.lv 4++[r.fr.length%256,r.to.length%256]++kQ r.fr++kQ r.to
def zyI(r:TR):r.by=r.rD.map aal:=by
 have a:Ra r.lv=(fE r.lv 4).map aal:=by simp[Ra,fE,abg,abg.loop]
 rw[TR.by,TR.rD,a,ztQ,ztQ];simp
def QC(r:TR):∀ b∈r.rD,b<256:=by
 intro b a;simp only[TR.rD,aar,aaf,aat,or_false,kQ,abF] at a
 rcases a with((a|rfl|rfl)|⟨x,_,a⟩)|⟨x,_,a⟩
 ·simp only[fE,aap,abN] at a;obtain⟨j,_,rfl⟩:=a;exact abh _ (by decide)
 ·exact abh _ (by decide)
 ·exact abh _ (by decide)
 ·exact zvz b a
 ·exact zvz b a
def zrN[aB G][aA G][aL G][cI G](r:TR)(h:r.ok):FP G 352 [TV r] (.bool r.may):=by
 refine bF cI.adR (aaa rfl) ?_;obtain⟨i,j,k,l,m⟩:=h;have e:=yH (G:=G) r.fr i k;have f:=yH (G:=G) r.to j l;simp only[FL] at e f;simp[TV,TR.cs];refine ax e ?_
 cases a:bn r.fr with
 | false=>simp[TR.may,a]
 | true =>
  simp;refine ax f ?_
  cases b:bn r.to with
  | false=>simp[TR.may,a,b]
  | true =>
   by_cases c:r.to.length<r.fr.length
   ·by_cases g:r.lv<262144
    ·have d:((r.lv:Int)<262144)=True:=eq_true an;simp[TR.may,a,b,c,g,d]
    ·have d:((r.lv:Int)<262144)=False:=eq_false an;simp[TR.may,a,b,c,g,d]
   ·simp[TR.may,a,b,c]
def SE(G:aN)(f:Nat)(args:List V)(H:ae)(r:V):Prop:=∃ H1,bp G (.F f args H r H1)/\ai H.length H1=H
def zBu{f b:Nat}{body:aY}{a:List iM}{args:List V}{r:V}{H:ae}(d:G f=some ⟨b,body,a⟩)(e:args.length<=b)
  (h:W G body [] (fU (oJ 0 args)) H (QX a fun g H1=>g=r/\ai H.length H1=H)):SE G f args H r:=by
 obtain⟨x,m,H1,c,i,vs,j,k,l⟩:=h;rw[<-Lk] at c;rw[<-k];exact⟨_,.fn d e c i j,l⟩
def SE.vcall{f:Nat}{cap args:List V}{r:V}{H:ae}{base:Nat}{d:Option Nat}{os:List aC}{K:List Kt}{e:Env}{Q:Ex->Env->ae->Prop}{ro:Bool}(h:SE G f (args++cap) H r)(b:r.cl H.length=r)
  (c:WO G base os K (e.put d r) H Q):IH G ro (.fn f cap) args base d os K e H Q:=by
 obtain⟨H1,g,a⟩:=h;refine jL g (fun _=>a) ?_;rw[b,a];exact c
def SE.scall{f:Nat}{args:List V}{r:V}{H:ae}{base:Nat}{d:Option Nat}{os:List aC}{K:List Kt}{e:Env}{Q:Ex->Env->ae->Prop}(h:SE G f args H r)(a:r.cl H.length=r)
  (b:WO G base os K (e.put d r) H Q):PA G f args base d os K e H Q:=by
 obtain⟨H1,c,g⟩:=h;refine xG c ?_;rw[a,g];exact b
def MH[aB G][dU G][cI G](r:TR)(C:r.ok)(p:r.may=true)(H:ae)(q:fY H):SE G 353 [TV r] H (.str r.by):=by
 refine zBu cI.adS (aaa rfl) ?_;have c:=LB q;have E:∀ s:ae,ai H.length (H++s)=H:=fun s=>q.back s;obtain⟨S,T,F,I,U⟩:=C;simp only[TR.may,aae,decide_eq_true_eq] at p;obtain⟨⟨⟨J,K⟩,_⟩,_⟩:=p;obtain⟨W,L⟩:=Jc J;obtain⟨X,M⟩:=Jc K;have t:=YN (G:=G) r.fr an F L;have u:=YN (G:=G) r.to an I M;simp only[FL] at t u;obtain⟨v,e⟩:∃ v,r.lv=v:=⟨_,rfl⟩;have N:jh .u32 (v:Int) 8=((v/256:Nat):Int):=yT (j:=8) (by decide)
 have O:jh .u32 (v:Int) 16=((v/65536:Nat):Int):=yT (j:=16) (by decide);have P:jh .u32 (v:Int) 24=((v/16777216:Nat):Int):=yT (j:=24) (by decide);obtain⟨B,d⟩:∃ B:List Nat,B=fE v 4++[r.fr.length%256,r.to.length%256]:=⟨_,rfl⟩
 have x:B.length=6:=by rw[d];simp[fE]
 have i:[[V.int .u8 (v%256:Nat)],[V.int .u8 (v/256%256:Nat)],[V.int .u8 (v/65536%256:Nat)],[V.int .u8 (v/16777216%256:Nat)],[V.int .u8 (r.fr.length%256:Nat)],[V.int .u8 (r.to.length%256:Nat)]]=aj .u8 B:=by rw[d];simp[aj,fE,abg,abg.loop]
 simp(disch:=omega)[jW,TV,TR.cs,e,N,O,P,Je,i,-aaY,-aa8]
 obtain⟨D,f⟩:∃ D:Nat->List Nat,∀ j,D j=if j=0 then B else if j=1 then B++kQ r.fr else B++kQ r.fr++kQ r.to:=⟨_,fun _=>rfl⟩
 have k:D 0=B:=by rw[f];rfl
 have b:D 1=B++kQ r.fr:=by rw[f];rfl
 have m:D 2=r.rD:=by rw[f,TR.rD,e,d];rfl
 have n:(D 1).length=6+8*r.fr.length:=by rw[b,aag,x,El]
 have Q:(D 2).length=6+8*r.fr.length+8*r.to.length:=by rw[m,TR.rD,aag,e,<-d,<-b,n,El]
 have p1:aj .u8 B++aj .u8 (kQ r.fr)=aj .u8 (D 1):=by rw[b];simp[aj]
 have p2:aj .u8 (D 1)++aj .u8 (kQ r.to)=aj .u8 (D 2):=by rw[b,f];simp[aj]
 have q1:(kQ r.fr).length=8*r.fr.length:=El _;have R:(kQ r.to).length=8*r.to.length:=El _
 have n1:∀ l:List Nat,(aj .u8 l=[])=(l=[]):=fun l=>by simp[aj]
 have g:∀ w:List af,(kQ w=[])=(w=[]):=fun w=>propext ⟨fun h=>List.eq_nil_of_length_eq_zero (by have:=El w;rw[h] at this;simp at this;omega),fun h=>by rw[h];rfl⟩;have y:=Jf r.rD (QC r);rw[<-zyI,<-m] at y
 refine aP 2 (fun j=>[(3,.vs (aj .u8 (D j)) (.own (H.length+1))),(36,.agg [.vs (IL r.fr) .no,.vs (IL r.to) .no]),(37,.int .i64 j)])
  (fun j=>H++[some (.cells [.vs (IL r.fr) .no,.vs (IL r.to) .no,.int .u32 v]),some (.zone (D j).length)]) (fun _=>True) ?_ ?_
 ·simp[aq,c,k]
 have z:aD .i64 0 1=1:=by rw[dW]<;>omega
 have A:aD .i64 1 1=2:=by rw[dW]<;>omega
 intro j Y _
 rcases(show j=0\/j=1\/j=2 by omega) with rfl|rfl|rfl
 ·simp;refine ax t ?_
  by_cases a:r.fr=[]
  ·have o:D 1=B:=by rw[b,a];simp[kQ]
   simp(disch:=omega)[k,n1,g,a,o,aq,c,z]
  ·simp(disch:=omega)[k,n1,g,a,x,q1,n,p1,az,aq,c,fW,z]
 ·simp;refine ax u ?_
  by_cases a:r.to=[]
  ·have o:D 2=D 1:=by rw[m,TR.rD,e,<-d,<-b,a];simp[kQ]
   simp(disch:=omega)[n1,g,a,o,aq,c,A]
  ·simp(disch:=omega)[n1,g,a,R,n,Q,p2,az,aq,c,fW,A]
 ·simp[y,E]
def zCV{v:V}(h:IM (.agg [.int .i64,.int .i64,.int .i64]) v):∃ a b c:Int,v=.agg [.int .i64 a,.int .i64 b,.int .i64 c]:=by unfold IM at h;obtain⟨f,rfl,h⟩:=h;simp only[i_,xF] at h;obtain⟨a,_,rfl,⟨n1,rfl,g⟩,b,_,rfl,⟨d,rfl,i⟩,c,_,rfl,⟨e,rfl,j⟩,rfl⟩:=h;exact⟨n1,d,e,rfl⟩
def zCW{v:V}(h:IM .str v):∃ s:List UInt8,v=.str s:=by have h:i_ .str [v]:=h;rw[i_] at h;obtain⟨s,a,_⟩:=h;simp only[aaT.injEq,and_true] at a;exact⟨s,a⟩
def zCX{n:Int}(h:(Lit.int .u8 n).wf=true):0<=n/\n<256:=by simp[Lit.wf,IntKind.min,IntKind.max,IntKind.signed,IntKind.bits] at h;omega
def zrO:∀{es:List (List V)},(∀ x∈es,i_ (.int .u8) x)->∃ b:List Nat,es=aj .u8 b/\∀ x∈b,x<256
 | [],_=>⟨[],rfl,ir⟩
 | e::es,h=>by
  obtain⟨n,rfl,c⟩:=zx3 (h e ir);obtain⟨f,g⟩:=zCX c;obtain⟨b,rfl,d⟩:=zrO (es:=es) fun y a=>h y (by simp[a]);refine⟨n.toNat::b,by simp[aj];omega,fun y a=>?_⟩
  rcases aaf.1 a with rfl|a
  ·omega
  ·exact d y a
def zAS{v:V}(h:IM (.sl (.int .u8)) v):∃ b:List Nat,v=.vs (aj .u8 b) .no/\∀ x∈b,x<256:=by have h:i_ (.sl (.int .u8)) [v]:=h;rw[i_] at h;obtain⟨e,a,f,c⟩:=h;obtain⟨b,rfl,d⟩:=zrO c;simp only[aaT.injEq,and_true] at a;exact⟨b,a,d⟩
structure Cd where
 arg:Int
 cmp:Int
 mask:Nat
 val:Nat
 deriving DecidableEq
def Cd.ok(c:Cd):Prop:=c.mask<18446744073709551616/\c.val<18446744073709551616
def Cd.right(c:Cd):Bool:=decide (0<=c.arg/\c.arg<=5/\0<=c.cmp/\c.cmp<=5)
def Y9(cmp:Int)(a b:Nat):Bool :=
 if cmp=0 then decide (a=b) else if cmp=1 then decide (a≠b) else if cmp=2 then decide (a<b) else if cmp=3 then decide (a<=b) else if cmp=4 then decide (b<a) else decide (b<=a)
def Y_(d:Da)(c:Cd):Nat:=d.args.getD c.arg.toNat 0 &&& c.mask
def Cd.holds(c:Cd)(d:Da):Bool:=c.right&&Y9 c.cmp (Y_ d c) c.val
def oU(c c':List af)(n:Nat):Prop:=∃ a,c'=a++c/\a.length<=n
def oU.refl(c:List af):oU c c 0:=⟨[],rfl,aaj _⟩
def oU.trans{a b c:List af}{n m:Nat}(h:oU a b n)(k:oU b c m):oU a c (n+m):=by obtain⟨x,rfl,d⟩:=h;obtain⟨y,rfl,e⟩:=k;exact⟨y++x,by rw[aao],by rw[aag];omega⟩
def oU.mono{a b:List af}{n m:Nat}(h:oU a b n)(c:n<=m):oU a b m:=by obtain⟨x,rfl,d⟩:=h;exact⟨x,rfl,an⟩
def oU.len{a b:List af}{n:Nat}(h:oU a b n):a.length<=b.length/\b.length<=a.length+n:=by obtain⟨x,rfl,c⟩:=h;rw[aag];omega
def cf(c:List af)(t:Nat):List af:=if c.length-t<=254 then c else⟨5,0,0,c.length-t⟩::c
def iw(c:List af)(t:Nat):Nat:=if c.length-t<=254 then t else c.length+1
def gr(c:List af)(op:Int)(k t f:Nat):List af :=
 ⟨op,((cf (cf c t) f).length-iw c t:Nat),((cf (cf c t) f).length-iw (cf c t) f:Nat),k⟩::cf (cf c t) f
def bS(c:List af)(op:Int)(k:Nat):List af:=⟨op,0,0,k⟩::c
def Cv(c:List af)(t:Nat):oU c (cf c t) 1:=by
 unfold cf;split
 ·exact(oU.refl c).mono an
 ·exact⟨[_],rfl,aaj _⟩
def Qd{c:List af}{t:Nat}(h:1<=t/\t<=c.length):1<=iw c t/\iw c t<=(cf c t).length/\(cf c t).length-iw c t<=254:=by
 unfold iw cf;split
 ·exact⟨h.1,h.2,an⟩
 ·simp only[aai];omega
def NG(c:List af)(op:Int)(k:Nat):oU c (bS c op k) 1:=⟨[_],rfl,aaj _⟩
def Cw(c:List af)(op:Int)(k t f:Nat):oU c (gr c op k t f) 3 :=
 ((Cv c t).trans (Cv _ f)).trans ⟨[_],rfl,aaj _⟩
def zpY(c:List af)(op:Int)(k t f:Nat):c.length<(gr c op k t f).length:=by have:=((Cv c t).trans (Cv _ f)).len;simp only[gr,aai];omega
def sg(op:Int):Prop:=op=21\/op=37\/op=53
def Za{c:List af}{x:af}(h:dJ c=true)(b:ez x c.length=true)(e:c.length<4096):dJ (x::c)=true:=by
 simp only[dJ,aae,decide_eq_true_eq] at h |-;obtain⟨⟨f,d⟩,a⟩:=h;refine⟨⟨by simp only[aai];omega,by simp only[jo,aae];exact⟨b,d⟩⟩,?_⟩
 cases c with
 | nil=>simp[jA] at a
 | cons y c=>simpa[jA,List.getLast?_cons_cons] using a
def zpZ{c:List af}{t:Nat}(h:dJ c=true)(e:1<=t/\t<=c.length)(a:c.length<4096):dJ (cf c t)=true:=by
 unfold cf;split
 ·exact h
 ·refine Za h ?_ a
  have b:qu 5=some (5,[106,97],true,false):=by decide
  have d:br 5=false:=by decide
  simp[ez,jw,b,m_,d];omega
def Rb{c:List af}{op:Int}{k t f:Nat}(i:sg op)(h:dJ c=true)(d:1<=t/\t<=c.length)(j:1<=f/\f<=c.length)(s:c.length+3<=4096):dJ (gr c op k t f)=true:=by
 have u:=(Cv c t).len;have v:=(Cv (cf c t) f).len;have w:=Qd d;have e:1<=f/\f<=(cf c t).length:=⟨j.1,an⟩;have x:=Qd e;have l:=zpZ h d an;have m:=zpZ l e an;unfold gr;generalize cf (cf c t) f=c2 at *;generalize iw c t=t1 at *;generalize iw (cf c t) f=f1 at *;refine Za m ?_ an
 have a:∀ op:Int,sg op->(qu op).map (fun r=>(r.2.2.1,r.2.2.2))=some (true,true)/\br op=true/\op≠5/\∀ k,m_ ⟨op,((c2.length-t1:Nat):Int),((c2.length-f1:Nat):Int),k⟩=true:=by rintro op (rfl|rfl|rfl)<;>exact⟨by decide,by decide,by decide,fun k=>by simp[m_]⟩
 obtain⟨g,n,o,p⟩:=a op i;rw[aaG] at g;obtain⟨r,q,b⟩:=g;simp only[abC.injEq] at b;simp only[ez,jw,q,b.1,b.2,p,o,n,if_true,if_false,abQ,Bool.true_and,Bool.and_true,aae,decide_eq_true_eq];omega
def GL(op:Int)(k:Nat):Prop:=op=84\/op=6\/op=32/\k%4=0/\k<64
def zrP{op:Int}{k:Nat}(d:GL op k):jw ⟨op,0,0,k⟩=true/\m_ ⟨op,0,0,k⟩=true/\br op=false/\op≠5:=by
 rcases d with rfl|rfl|⟨rfl,e,f⟩
 ·refine⟨?_,by simp[m_],by decide,by decide⟩
  have b:(qu 84).map (fun r=>(r.2.2.1,r.2.2.2))=some (true,false):=by decide
  rw[aaG] at b;obtain⟨r,c,a⟩:=b;simp only[abC.injEq] at a;simp[jw,c,a.1,a.2]
 ·refine⟨?_,by simp[m_],by decide,by decide⟩
  have b:(qu 6).map (fun r=>(r.2.2.1,r.2.2.2))=some (true,false):=by decide
  rw[aaG] at b;obtain⟨r,c,a⟩:=b;simp only[abC.injEq] at a;simp[jw,c,a.1,a.2]
 ·refine⟨?_,by simp[m_,e,f],by decide,by decide⟩
  have b:(qu 32).map (fun r=>(r.2.2.1,r.2.2.2))=some (true,false):=by decide
  rw[aaG] at b;obtain⟨r,c,a⟩:=b;simp only[abC.injEq] at a;simp[jw,c,a.1,a.2]
def NH{c:List af}{op:Int}{k:Nat}(a:GL op k)(h:dJ c=true)(b:c.length<4096):dJ (bS c op k)=true:=by refine Za h ?_ b;obtain⟨d,e,f,g⟩:=zrP a;simp[ez,d,e,f,g]
def Cy(n:Int):Int:=if n=0 then 1 else if n=1 then 0 else if n=2 then 5 else if n=3 then 4 else if n=4 then 3 else 2
def qh(n:Int):Int:=if n=4 then 37 else if n=5 then 53 else 21
def bW(c:List af)(x:Cd)(t f:Nat):List af:=bS (bS (gr c (qh x.cmp) (lo x.val) t f) 84 (lo x.mask)) 32 (16+8*x.arg.toNat)
def sY(c:List af)(x:Cd)(t f:Nat):List af:=if qh x.cmp=21 then bW c x t f else gr (bW c x t f) 37 (hi x.val) t f
def GO(c:List af)(x:Cd)(t f:Nat):List af :=
 bS (bS (gr (sY c x t f) 21 (hi x.val) (bW c x t f).length (if qh x.cmp=21 then f else(sY c x t f).length)) 84 (hi x.mask)) 32 (20+8*x.arg.toNat)
def I3(x:Cd):Bool:=decide (x.cmp=1\/x.cmp=2\/x.cmp=3)
def fS(c:List af)(x:Cd)(t f:Nat):List af:=if I3 x then GO c { x with cmp:=Cy x.cmp } f t else GO c x t f
def zBv(n:Int):sg (qh n):=by
 unfold qh sg;split
 ·exact .inr (.inl rfl)
 ·split
  ·exact .inr (.inr rfl)
  ·exact .inl rfl
def Qf(c:List af)(x:Cd)(t f:Nat):oU c (bW c x t f) 5:=((Cw c _ _ t f).trans (NG _ _ _)).trans (NG _ _ _)
def Qg(c:List af)(x:Cd)(t f:Nat):oU (bW c x t f) (sY c x t f) 3:=by
 unfold sY;split
 ·exact(oU.refl _).mono an
 ·exact Cw _ _ _ _ _
def zux(c:List af)(x:Cd)(t f:Nat):oU c (GO c x t f) 13 :=
 (((Qf c x t f).trans (Qg c x t f)).trans (Cw _ _ _ _ _)).trans ((NG _ _ _).trans (NG _ _ _)) |>.mono an
def zp0(c:List af)(x:Cd)(t f:Nat):oU c (fS c x t f) 13:=by
 unfold fS
 split<;>exact zux _ _ _ _
def Qe{x:Cd}(h:x.right=true)(b:Nat)(a:b=16\/b=20):GL 32 (b+8*x.arg.toNat):=by
 simp only[Cd.right,decide_eq_true_eq] at h
 refine .inr (.inr ⟨rfl,?_,?_⟩)<;>omega
def zn6{c:List af}{x:Cd}{t f:Nat}(h:dJ c=true)(a:x.right=true)(d:1<=t/\t<=c.length)(e:1<=f/\f<=c.length)(j:c.length+13<=4096):dJ (GO c x t f)=true:=by
 have k:=(Qf c x t f).len;have l:=(Qg c x t f).len;have m:=(Cw c (qh x.cmp) (lo x.val) t f).len
 have b:dJ (bW c x t f)=true:=by refine NH (Qe a 16 (.inl rfl)) (NH (.inl rfl) (Rb (zBv _) h d e an) an) ?_;simp only[bS,aai];omega
 have p1:1<=(bW c x t f).length:=an
 have g:dJ (sY c x t f)=true:=by
  unfold sY;split
  ·exact b
  ·exact Rb (.inr (.inl rfl)) b an an an
 have i:1<=(if qh x.cmp=21 then f else(sY c x t f).length)/\(if qh x.cmp=21 then f else(sY c x t f).length)<=(sY c x t f).length:=by split<;>omega
 have n:=(Cw (sY c x t f) 21 (hi x.val) (bW c x t f).length (if qh x.cmp=21 then f else(sY c x t f).length)).len;refine NH (Qe a 20 (.inr rfl)) (NH (.inl rfl) (Rb (.inl rfl) g an i an) an) ?_;simp only[bS,aai];omega
def WH{x:Cd}(h:x.right=true):({ x with cmp:=Cy x.cmp }:Cd).right=true:=by
 simp only[Cd.right,decide_eq_true_eq] at h |-;refine⟨h.1,h.2.1,?_⟩;simp only[Cy]
 repeat' split
 all_goals omega
def zwD{c:List af}{x:Cd}{t f:Nat}(h:dJ c=true)(a:x.right=true)(b:1<=t/\t<=c.length)(d:1<=f/\f<=c.length)(e:c.length+13<=4096):dJ (fS c x t f)=true:=by
 unfold fS;split
 ·exact zn6 h (WH a) d b e
 ·exact zn6 h a b d e
def Cd.cs(c:Cd):List V:=[.int .i64 c.arg,.int .i64 c.cmp,.int .u64 (c.mask:Int),.int .u64 (c.val:Int)]
def CL(l:List Cd):List (List V):=l.map Cd.cs
@[simp] theorem zIS (l:List Cd):(CL l).length=l.length:=by simp[CL]
theorem WM{l:List Cd}{i:Nat}{x:Cd}(h:l[i]?=some x):(CL l)[i]?=some x.cs:=by simp[CL,h]
def ztS[dO G](c:Cd):FP G 396 [.agg c.cs] (.bool c.right):=by
 refine bF dO.ad9 (aaa rfl) ?_
 by_cases a:0<=c.arg
 ·by_cases b:c.arg<6
  ·by_cases d:0<=c.cmp
   ·by_cases f:c.cmp<=5
    ·have e:c.arg<=5:=an
     simp[Cd.cs,Cd.right,a,b,d,f,e]
    ·simp[Cd.cs,Cd.right,a,b,d,f]
   ·simp[Cd.cs,Cd.right,a,b,d]
  ·have e:¬c.arg<=5:=an
   simp[Cd.cs,Cd.right,a,b,e]
 ·simp[Cd.cs,Cd.right,a]
def Hn:List V:=[.str [101,113],.fn 397 [],.int .i64 1,.str [110,101],.fn 398 [],.int .i64 0,.str [108,116],.fn 399 [],.int .i64 5,.str [108,101],.fn 400 [],.int .i64 4,.str [103,116],.fn 401 [],.int .i64 3,.str [103,101],.fn 402 [],.int .i64 2]
def ztT[cU G]:FP G 403 [] (.agg Hn):=by refine bF cU.aea (aaa rfl) ?_;simp[Hn]
def Cx(c:Cd):Cd:=if c.right then{ c with cmp:=Cy c.cmp } else c
def zEf[dO G][cU G](c:Cd):FP G 404 [.agg c.cs] (.agg (Cx c).cs):=by
 refine bF cU.aeb (aaa rfl) ?_;have b:=ztS (G:=G) c;simp only[Cd.cs] at b;simp[Cd.cs];refine ax b ?_
 cases h:c.right with
 | false=>simp[Cx,h]
 | true =>
  have d:=h;simp only[Cd.right,decide_eq_true_eq] at d;obtain⟨_,_,e,f⟩:=d;simp;refine ax ztT ?_
  have a:c.cmp=0\/c.cmp=1\/c.cmp=2\/c.cmp=3\/c.cmp=4\/c.cmp=5:=an
  rcases a with a|a|a|a|a|a<;>simp[Cx,h,a,Hn,Cy]
def jz(d:Nat):UInt8:=aal (if d<10 then 48+d else 87+d)
def uP(n:Nat):Nat->List UInt8×Bool
 | 0=>([48,120],false)
 | k+1=>if(uP n k).2||decide (0<n/2^(60-4*k)%16)||decide (k=15) then((uP n k).1++[jz (n/2^(60-4*k)%16)],true) else((uP n k).1,false)
def bg(n:Nat):List UInt8:=(uP n 16).1
def Rc(n:Nat):∀ k,(uP n k).1.length<=2+k
 | 0=>by simp[uP]
 | k+1=>by
  have:=Rc n k;unfold uP
  split<;>simp<;>omega
def zEg(d:Nat)(h:d<16):([48,49,50,51,52,53,54,55,56,57,97,98,99,100,101,102]:List UInt8)[d]?=some (jz d):=by
 have:∀ d<16,([48,49,50,51,52,53,54,55,56,57,97,98,99,100,101,102]:List UInt8)[d]?=some (jz d):=by decide
 exact this d h
def shU{n e:Nat}(h:e<=64):jh .u64 (n:Int) (e:Int)=((n/2^e:Nat):Int):=by
 unfold jh
 have:min (e:Int).toNat IntKind.u64.bits=e:=by have:IntKind.u64.bits=64:=rfl;omega
 rw[this,show((2:Int)^e)=((2^e:Nat):Int) by simp,Int.fdiv_eq_ediv_of_nonneg _ (Int.natCast_nonneg _)];simp
def zIt{x:Nat}(h:x<18446744073709551616):jg .u64 (x:Int) 15=((x%16:Nat):Int):=by
 have a:(aa3 64 (x:Int) &&& aa3 64 15).toNat=x%16:=by rw[show aa3 64 (x:Int)=abR 64 x by apply BitVec.eq_of_toNat_eq;simp,show aa3 64 15=abR 64 15 from rfl];simp only[BitVec.toNat_and,abd];rw[show 15%2^64=2^4-1 from rfl,Nat.and_two_pow_sub_one_eq_mod,abk (show x<2^64 from h)]
 have b:jg .u64 (x:Int) 15=IntKind.u64.wrap (((aa3 64 (x:Int) &&& aa3 64 15).toNat:Nat):Int):=rfl;rw[b,a];have:x%16<16:=abh _ (by decide);rw[IntKind.wrap,show IntKind.u64.signed=false from rfl];simp[IntKind.bits];omega
def zp1:∀ s:List UInt8,AK (pH s)=some s
 | []=>rfl
 | b::s=>by
  have a:=zp1 s;simp only[pH] at a;simp[pH,AK,a]
def zCY[fi G](n:Nat)(w:n<18446744073709551616):FP G 392 [.int .u64 n] (.str (bg n)):=by
 refine bF fi.ad5 (aaa rfl) ?_;obtain⟨T,i⟩:∃ T:Nat->List UInt8×Bool,∀ k,T k=uP n k:=⟨_,fun _=>rfl⟩
 have x:∀ k,(T k).1.length<=2+k:=fun k=>by rw[i];exact Rc n k
 simp;refine aP 16 (fun k=>[(0,.int .u64 n),(3,.vs (pH (T k).1) (.own 1)),(4,.bool (T k).2),(5,.int .i64 (60-4*(k:Int)))]) (fun k=>[some (.zone 1),some (.zone (T k).1.length)]) (fun _=>True) ?_ ?_
 ·simp[aq,ai,i,uP,pH,nS]
 intro k c _
 rcases abe c with c|c
 ·subst c;simp[zp1,i,bg]
  done
 ·obtain⟨e,y⟩:∃ e,e=60-4*k:=⟨_,rfl⟩;obtain⟨d,hd⟩:∃ d,d=n/2^e%16:=⟨_,rfl⟩
  have z:(60-4*(k:Int))=(e:Int):=an
  have A:=shU (n:=n) (e:=e) an;have B:n/2^e<18446744073709551616:=Nat.lt_of_le_of_lt (Nat.div_le_self _ _) w;have t:=zIt B
  have C:d<16:=an
  have D:=zEg d C;rw[<-hd] at t;have N:=x k
  have j:T (k+1)=if(T k).2||decide (0<d)||decide (k=15) then((T k).1++[jz d],true) else((T k).1,false):=by rw[i,i,uP,<-y,<-hd]
  rw[z];simp(disch:=omega)[A,t,jN,-aa8,-aaY,-abJ]
  have l:(60:Int)-4*((k+1:Nat):Int)=(e:Int)-4:=an
  have m:cM .i64 (e:Int) 4=(e:Int)-4:=oB an an
  have a:(pH (T k).1).length=(T k).1.length:=by simp[pH]
  have o:∀ b,(T k).2=b->(b||decide (0<d)||decide (k=15))=true->T (k+1)=((T k).1++[jz d],true):=fun b g E=>by rw[j,if_pos (by rw[g];exact E)]
  have F:(T k).2=false->¬0<d->¬k=15->T (k+1)=((T k).1,false):=fun g H I=>by rw[j,if_neg (by simp[g,H,I])]
  have p:pH ((T k).1++[jz d])=pH (T k).1++[[.int .u8 ((jz d).toNat:Nat)]]:=by simp[pH]
  have J:∀ f∈pH (T k).1,f.length=1:=by intro f u;simp only[pH,aap] at u;obtain⟨_,_,rfl⟩:=u;rfl
  have q:=eq_true J;have h:((T k).1.length<=140737488355327)=True:=eq_true an
  have r:([48,49,50,51,52,53,54,55,56,57,97,98,99,100,101,102]:List UInt8)[d]'(by simp;omega)=jz d:=by have:=D;rw[aac (by simp;omega)] at this;exact aaZ.inj this
  cases g:(T k).2 with
  | true =>
   simp(disch:=omega)[aq,ai,r,h,q,m,o _ g rfl,p,a,l,-aah]
   exact c
  | false =>
   by_cases s:0<d
   ·have K:=eq_true s
    have O:¬(0=d):=an
    simp(disch:=omega)[aq,ai,r,h,q,m,o _ g (by simp[s]),p,a,l,K,-aah];exact c
   ·have L:d=0:=an
    subst L
    by_cases v:k=15
    ·have:e=0:=an
     subst this;simp(disch:=omega)[aq,ai,r,h,q,o _ g (by simp[v]),p,a,l,show cM .i64 0 4=-4 from rfl,-aah];exact c
    ·have P:((e:Int)=0)=False:=eq_false an
     have M:((e:Int)==0)=false:=by simp;omega
     simp(disch:=omega)[aq,ai,m,F g s v,l,M,-aah];exact c
def yc(c:List af):Prop:=∀ y∈c,y.k<4294967296
def zvA{c:List af}{t:Nat}(d:c.length<=1000100)(b:yc c):yc (cf c t):=by
 intro y a;unfold cf at a;split at a
 ·exact b y a
 ·rcases aaf.1 a with rfl|a
  ·simp only;omega
  ·exact b y a
def Rh{c:List af}{op:Int}{k t f:Nat}(e:c.length<=1000050)(b:k<4294967296)(d:yc c):yc (gr c op k t f):=by
 intro y a
 rcases aaf.1 a with rfl|a
 ·exact b
 ·exact zvA (by have:=(Cv c t).len;omega) (zvA an d) y a
def Jw{c:List af}{op:Int}{k:Nat}(b:k<4294967296)(d:yc c):yc (bS c op k):=by
 intro y a
 rcases aaf.1 a with rfl|a
 ·exact b
 ·exact d y a
def zCZ{c:List af}{x:Cd}{t f:Nat}(e:∀ y∈c,y.k<4294967296)(i:c.length<=1000000)(a:x.right=true):∀ y∈fS c x t f,y.k<4294967296:=by
 have b:∀(x:Cd) (t f:Nat),x.right=true->yc (GO c x t f):=by
  intro x t f a;have g:=a;simp only[Cd.right,decide_eq_true_eq] at g;have j:=(Qf c x t f).len;have l:=(Qg c x t f).len;have d:yc (bW c x t f):=Jw an (Jw (PR _) (Rh an (PR _) e))
  have h:yc (sY c x t f):=by
   unfold sY;split
   ·exact d
   ·exact Rh an (LG _) d
  exact Jw an (Jw (LG _) (Rh an (LG _) h))
 unfold fS;split
 ·exact b _ _ _ (WH a)
 ·exact b _ _ _ a
structure Ru where
 aG:Nat
 nr:Nat
 conds:List Cd
 act:Nat
 deriving DecidableEq
structure Po where
 rules:List Ru
 ew:Nat
 deriving DecidableEq
def Ru.cZ(r:Ru):Prop:=(∀ x∈r.conds,x.right=true/\x.ok)/\r.aG<4294967296/\r.nr<4294967296/\r.act<4294967296
abbrev si:=List af×Nat
def Ee(o:Nat):List Cd->si->si
 | [],s=>s
 | x::xs,s=>(fS (Ee o xs s).1 x (Ee o xs s).2 o,(fS (Ee o xs s).1 x (Ee o xs s).2 o).length)
def zBw(r:Ru)(s:si):si:=Ee s.2 r.conds (bS s.1 6 r.act,s.1.length+1)
def qQ:List Ru->si->si
 | [],s=>s
 | r::l,s=>zBw r (qQ l s)
def sZ:List Ru->Nat
 | []=>0
 | r::l=>1+13*r.conds.length+sZ l
structure Came (c:List af) (s:si) (n:Nat):Prop where
 grown:oU c s.1 n
 lP:1<=s.2/\s.2<=s.1.length
 sound:dJ c=true->c.length+n<=4096->dJ s.1=true
 ks:yc c->c.length+n<=4096->yc s.1
def Came.mono{c:List af}{s:si}{n m:Nat}(h:Came c s n)(d:n<=m):Came c s m:=⟨h.grown.mono d,h.lP,fun a b=>h.sound a an,fun a b=>h.ks a an⟩
def Came.self{c:List af}{l:Nat}(h:1<=l/\l<=c.length):Came c (c,l) 0:=⟨oU.refl c,h,fun a _=>a,fun a _=>a⟩
def Came.trans{c:List af}{s t:si}{n m:Nat}(h:Came c s n)(k:Came s.1 t m):Came c t (n+m) :=
 ⟨h.grown.trans k.grown,k.lP,fun a b=>k.sound (h.sound a an) (by have:=h.grown.len;omega),fun a b=>k.ks (h.ks a an) (by have:=h.grown.len;omega)⟩
def Zd{c:List af}{op:Int}{k:Nat}(h:GL op k)(d:k<4294967296):Came c (bS c op k,c.length+1) 1 :=
 ⟨NG _ _ _,by simp[bS],fun a b=>NH h a an,fun a _=>Jw d a⟩
def Ze{c:List af}{op:Int}{k t f:Nat}(h:sg op)(d:k<4294967296)(e:1<=t/\t<=c.length)(g:1<=f/\f<=c.length):Came c (gr c op k t f,(gr c op k t f).length) 3 :=
 ⟨Cw _ _ _ _ _,by have:=zpY c op k t f;simp only;omega,fun a b=>Rb h a e g an,fun a b=>Rh an d a⟩
def zyJ{c:List af}{x:Cd}{t f:Nat}(d:x.right=true)(e:1<=t/\t<=c.length)(g:1<=f/\f<=c.length):Came c (fS c x t f,(fS c x t f).length) 13 :=
 ⟨zp0 _ _ _ _,by have:=(zp0 c x t f).len;simp only;omega,fun a b=>zwD a d e g an,fun a b=>zCZ a an d⟩
def WN{o:Nat}:∀{l:List Cd} {s:si},(∀ x∈l,x.right=true/\x.ok)->(1<=o/\o<=s.1.length)->(1<=s.2/\s.2<=s.1.length)->Came s.1 (Ee o l s) (13*l.length)
 | [],s,_,_,h=>Came.self h
 | x::l,s,b,c,d=>by
  have a:=WN (l:=l) (fun y e=>b y (by simp[e])) c d;have f:=a.grown.len;exact(a.trans (zyJ (b x ir).1 a.lP ⟨c.1,an⟩)).mono (by simp only[aai];omega)
def Qi:∀{l:List Ru} {s:si},(∀ r∈l,r.cZ)->(1<=s.2/\s.2<=s.1.length)->Came s.1 (qQ l s) (sZ l)
 | [],s,_,h=>Came.self h
 | r::l,s,b,d=>by
  have a:=Qi (l:=l) (fun y e=>b y (by simp[e])) d;have f:=a.grown.len;have p:=Zd (c:=(qQ l s).1) (op:=6) (k:=r.act) (.inr (.inl rfl)) (b r ir).2.2.2;have g:=p.grown.len;have q:=WN (o:=(qQ l s).2) (l:=r.conds) (s:=(bS (qQ l s).1 6 r.act,(qQ l s).1.length+1)) (b r ir).1 ⟨a.lP.1,by have:=a.lP.2;omega⟩ p.lP;exact((a.trans p).trans q).mono (by simp only[sZ];omega)
def bO:Nat->List af->List (Nat×Nat)->Nat->si
 | 0,c,_,_=>(c,0)
 | n+1,c,l,o =>
  if l.length=1 then(gr c 21 (l.getD 0 (0,0)).1 (l.getD 0 (0,0)).2 o,(gr c 21 (l.getD 0 (0,0)).1 (l.getD 0 (0,0)).2 o).length)
  else
   (gr (bO n (bO n c (l.take (l.length/2)) o).1 (l.drop (l.length/2)) o).1 53 (l.getD (l.length/2) (0,0)).1 (bO n (bO n c (l.take (l.length/2)) o).1 (l.drop (l.length/2)) o).2 (bO n c (l.take (l.length/2)) o).2,
    (gr (bO n (bO n c (l.take (l.length/2)) o).1 (l.drop (l.length/2)) o).1 53 (l.getD (l.length/2) (0,0)).1 (bO n (bO n c (l.take (l.length/2)) o).1 (l.drop (l.length/2)) o).2 (bO n c (l.take (l.length/2)) o).2).length)
def nD(c:List af)(l:List (Nat×Nat)):Prop:=∀ e∈l,1<=e.2/\e.2<=c.length
def nD.grown{a b:List af}{n:Nat}{l:List (Nat×Nat)}(h:nD a l)(g:oU a b n):nD b l:=fun e c=>⟨(h e c).1,by have:=g.len;have:=(h e c).2;omega⟩
def I4{o:Nat}:∀(n:Nat) {c:List af} {l:List (Nat×Nat)},l≠[]->l.length<=n->nD c l->(∀ e∈l,e.1<4294967296)->(1<=o/\o<=c.length)->Came c (bO n c l o) (6*l.length-3)
 | 0,c,l,h,r,_,_,_=>absurd (aaF.1 an) h
 | n+1,c,l,h,r,i,f,j=>by
  have u:0<l.length:=abv.2 h;unfold bO;split
  ·rename_i s
   have g:l.getD 0 (0,0)∈l:=by rw[abP,aac an];exact aaA _
   exact(Ze (.inl rfl) (f _ g) (i _ g) j).mono an
  ·rename_i s
   have m:(l.take (l.length/2)).length=l.length/2:=by rw[aav];omega
   have p:(l.drop (l.length/2)).length=l.length-l.length/2:=by rw[abG]
   have n1:l.take (l.length/2)≠[]:=by intro e;rw[e] at m;simp at m;omega
   have t:l.drop (l.length/2)≠[]:=by intro e;rw[e] at p;simp at p;omega
   have d:=I4 n (c:=c) (l:=l.take (l.length/2)) n1 an (fun e a=>i e (aaN a)) (fun e a=>f e (aaN a)) j;have v:=d.grown.len;have q:=I4 n (c:=(bO n c (l.take (l.length/2)) o).1) (l:=l.drop (l.length/2)) t an ((show nD c _ from fun e a=>i e (aaO a)).grown d.grown) (fun e a=>f e (aaO a)) ⟨j.1,an⟩;have w:=q.grown.len
   have g:l.getD (l.length/2) (0,0)∈l:=by rw[abP,aac an];exact aaA _
   have b:=Ze (c:=(bO n (bO n c (l.take (l.length/2)) o).1 (l.drop (l.length/2)) o).1) (op:=53) (k:=(l.getD (l.length/2) (0,0)).1) (.inr (.inr rfl)) (f _ g) q.lP ⟨d.lP.1,by have:=d.lP.2;omega⟩;exact((d.trans q).trans b).mono (by rw[m,p];omega)
def uk(l:List Nat)(a:Nat):List Nat:=if a∈l then l else l++[a]
def Bl(l:List Nat):List Nat:=l.foldl uk []
def zn7(l:List Nat)(a:Nat):Bl (l++[a])=uk (Bl l) a:=by simp[Bl,List.foldl_append]
def zn8(a:Nat):∀(l c:List Nat),a∈l.foldl uk c↔a∈c\/a∈l
 | [],c=>by simp
 | b::l,c=>by
  rw[abc,zn8 a l];unfold uk;split
  ·rename_i h;rw[aaf];constructor
   ·rintro(d|d)
    ·exact .inl d
    ·exact .inr (.inr d)
   ·rintro(d|rfl|d)
    ·exact .inl d
    ·exact .inl h
    ·exact .inr d
  ·simp[or_assoc]
def GV(l:List Nat)(a:Nat):a∈Bl l↔a∈l:=by rw[Bl,zn8];simp
def zma:∀(l a:List Nat),a.Nodup->(l.foldl uk a).Nodup
 | [],a,h=>h
 | b::l,a,h=>by
  rw[abc];refine zma l _ ?_;unfold uk;split
  ·exact h
  ·rename_i d;rw[List.nodup_append];exact⟨h,ir,fun x f y c e=>d (by rw[aaI] at c;rw[<-c,<-e];exact f)⟩
def Mu(l:List Nat):(Bl l).Nodup:=zma l [] ir
def Mp:∀(l a:List Nat),(l.foldl uk a).length<=a.length+l.length
 | [],a=>by simp
 | b::l,a=>by
  rw[abc];have:=Mp l (uk a b)
  have c:(uk a b).length<=a.length+1:=by unfold uk;split<;>simp
  simp only[aai];omega
def vD(x:Nat)(l:List Nat):List Nat:=l.takeWhile (fun y=>decide (y<=x))++x::l.dropWhile (fun y=>decide (y<=x))
def o8(l:List Nat):List Nat:=l.foldl (fun a x=>vD x a) []
def zyK(x:Nat)(l:List Nat):(vD x l).Perm (x::l):=by unfold vD;refine abH.trans ?_;rw[List.takeWhile_append_dropWhile]
def zp2:∀(l a:List Nat),(l.foldl (fun a x=>vD x a) a).Perm (a++l)
 | [],a=>by simp
 | x::l,a=>by
  rw[abc];refine(zp2 l _).trans ?_;refine((zyK x a).append_right l).trans ?_;rw[aam];exact abH.symm
def Mn(l:List Nat):(o8 l).Perm l:=by have:=zp2 l [];simpa[o8] using this
def zvB(x:Nat):∀{l:List Nat},∀ y∈l.takeWhile (fun y=>decide (y<=x)),y<=x
 | [],y,a=>by simp at a
 | b::l,y,a=>by
  rw[List.takeWhile_cons] at a;split at a
  ·rename_i c;simp only[decide_eq_true_eq] at c
   rcases aaf.1 a with rfl|a
   ·exact c
   ·exact zvB x y a
  ·simp at a
def gu(rs:List Ru)(a:Nat):List Nat:=Bl ((rs.filter fun r=>decide (r.aG=a)).map (·.nr))
def e_(rs:List Ru):List Nat:=Bl (rs.map (·.aG))
def ia(rs:List Ru)(a n:Nat):List Ru:=rs.filter fun r=>decide (r.aG=a/\r.nr=n)
def cD(R:Nat->List Ru)(o:Nat):List Nat->List af->List af×List (Nat×Nat)
 | [],c=>(c,[])
 | n::l,c=>((cD R o l (qQ (R n) (c,o)).1).1,(n,(qQ (R n) (c,o)).2)::(cD R o l (qQ (R n) (c,o)).1).2)
def vE(rs:List Ru)(o a:Nat)(c:List af):List af :=
 bS (bO (cD (ia rs a) o (o8 (gu rs a)) c).2.length (cD (ia rs a) o (o8 (gu rs a)) c).1 (cD (ia rs a) o (o8 (gu rs a)) c).2 o).1 32 0
def jQ(rs:List Ru)(o:Nat):List Nat->List af->List af×List (Nat×Nat)
 | [],c=>(c,[])
 | a::l,c=>((jQ rs o l (vE rs o a c)).1,(a,(vE rs o a c).length)::(jQ rs o l (vE rs o a c)).2)
def dI:List (Nat×Nat)->si->si
 | [],s=>s
 | x::l,s=>dI l (gr s.1 21 x.1 x.2 s.2,(gr s.1 21 x.1 x.2 s.2).length)
def oS(p:Po):List af :=
 if(jQ p.rules 1 (e_ p.rules) (bS [] 6 p.ew)).2=[] then(dI (jQ p.rules 1 (e_ p.rules) (bS [] 6 p.ew)).2 ((jQ p.rules 1 (e_ p.rules) (bS [] 6 p.ew)).1,1)).1
 else bS (dI (jQ p.rules 1 (e_ p.rules) (bS [] 6 p.ew)).2 ((jQ p.rules 1 (e_ p.rules) (bS [] 6 p.ew)).1,1)).1 32 4
def gB(w:Ru->Nat):List Ru->Nat
 | []=>0
 | r::l=>w r+gB w l
def EA(r:Ru):Nat:=1+13*r.conds.length
def zvC:∀ l:List Ru,sZ l=gB EA l
 | []=>rfl
 | r::l=>by rw[sZ,gB,zvC l,EA]
def eo{α:Type}(g:α->Nat):List α->Nat
 | []=>0
 | x::l=>g x+eo g l
def ztU(g:Nat->Nat)(k c:Nat):∀{l:List Nat},l.Nodup->eo (fun n=>(if k=n then c else 0)+g n) l<=c+eo g l
 | [],_=>by simp[eo]
 | x::l,h=>by
  rw[abn] at h;simp only[eo]
  by_cases e:k=x
  ·subst e
   have d:∀{l:List Nat},k∉l->eo (fun n=>(if k=n then c else 0)+g n) l=eo g l:=by
    intro l
    induction l with
    | nil=>intro _;rfl
    | cons y l b =>
     intro a;simp only[aaf,not_or] at a;simp only[eo,if_neg a.1,b a.2,aaH]
   rw[d h.1,if_pos rfl];omega
  ·have b:=ztU g k c h.2;rw[if_neg e];omega
def zvD{α:Type}{f g:α->Nat}:∀{l:List α},(∀ x∈l,f x<=g x)->eo f l<=eo g l
 | [],_=>aaj _
 | x::l,h=>by
  have:=zvD (l:=l) fun y a=>h y (by simp[a]);have:=h x ir;simp only[eo];omega
def Zf{α:Type}{f g:α->Nat}:∀{l:List α},(∀ x∈l,f x=g x)->eo f l=eo g l
 | [],_=>rfl
 | x::l,h=>by simp only[eo,h x ir,Zf (l:=l) fun y a=>h y (by simp[a])]
def Zg(w:Ru->Nat)(key:Ru->Nat){l:List Nat}(a:l.Nodup):∀ rs:List Ru,eo (fun n=>gB w (rs.filter fun r=>decide (key r=n))) l<=gB w rs
 | []=>by
  have:∀ l:List Nat,eo (fun n=>gB w ([].filter fun r=>decide (key r=n))) l=0:=by
   intro l;induction l with
   | nil=>rfl
   | cons x l b=>simp only[eo,b];rfl
  rw[this];exact abp _
 | r::rs=>by
  have b:=Zg w key a rs
  have e:∀ n,gB w ((r::rs).filter fun r=>decide (key r=n))=(if key r=n then w r else 0)+gB w (rs.filter fun r=>decide (key r=n)):=by
   intro n;rw[List.filter_cons]
   by_cases h:key r=n<;>simp[h,gB]
  rw[Zf fun n _=>e n];have:=ztU (fun n=>gB w (rs.filter fun r=>decide (key r=n))) (key r) (w r) a;simp only[gB];omega
def zwE(rs:List Ru)(a n:Nat):ia rs a n=(rs.filter fun r=>decide (r.aG=a)).filter fun r=>decide (r.nr=n):=by
 rw[List.filter_filter];unfold ia
 congr 1
 funext r
 rw[abK];simp[and_comm]
def zyL(rs:List Ru)(a:Nat):(gu rs a).length<=gB (fun _=>1) (rs.filter fun r=>decide (r.aG=a)):=by
 have h:∀ l:List Ru,gB (fun _=>1) l=l.length:=by
  intro l;induction l with
  | nil=>rfl
  | cons x l b=>simp only[gB,b,aai];omega
 rw[h]
 have:=Mp ((rs.filter fun r=>decide (r.aG=a)).map (·.nr)) []
 simpa[gu,Bl] using this
section
variable {rs:List Ru} {o:Nat}
def A7(R:Nat->List Ru)(l:List Nat):Nat:=eo (fun n=>sZ (R n)) l
def Mq{R:Nat->List Ru}:∀{l:List Nat} {c:List af},(∀ n∈l,∀ r∈R n,r.cZ)->(1<=o/\o<=c.length)->Came c ((cD R o l c).1,o) (A7 R l)/\nD (cD R o l c).1 (cD R o l c).2/\(cD R o l c).2.map (·.1)=l
 | [],c,_,h=>⟨Came.self h,by intro e he;simp[cD] at he,rfl⟩
 | n::l,c,j,g=>by
  have d:=Qi (l:=R n) (s:=(c,o)) (j n ir) g;have i:=d.grown.len;obtain⟨f,k,p⟩:=Mq (l:=l) (c:=(qQ (R n) (c,o)).1) (fun m q=>j m (by simp[q])) ⟨g.1,by have:=g.2;simp only at i;omega⟩;have t:=f.grown.len
  refine⟨⟨(d.grown.trans f.grown).mono (by simp[A7,eo]),f.lP,fun a b=>f.sound (d.sound a (by simp only[A7,eo] at b;simp only;omega)) (by simp only[A7,eo] at b |-;simp only at i;omega),
   fun a b=>f.ks (d.ks a (by simp only[A7,eo] at b;simp only;omega)) (by simp only[A7,eo] at b |-;simp only at i;omega)⟩,?_,by simp only[cD,aax,p]⟩
  intro e he;simp only[cD,aaf] at he |-
  rcases he with rfl|he
  ·exact⟨d.lP.1,by have:=d.lP.2;simp only at t |-;omega⟩
  ·exact k e he
def W3{R:Nat->List Ru}{l:List Nat}{c:List af}(h:(cD R o l c).2.map (·.1)=l):(cD R o l c).2.length=l.length:=by rw[<-aaJ (f:=(·.1)),h]
def CC(rs:List Ru)(a:Nat):Nat:=A7 (ia rs a) (o8 (gu rs a))+6*(gu rs a).length
def zrQ{l:List Nat}{x:Nat}:x∈o8 l↔x∈l:=(Mn l).mem_iff
def Ql{a:Nat}(h:a∈e_ rs):gu rs a≠[]:=by
 rw[e_,GV,aap] at h;obtain⟨r,b,rfl⟩:=h;intro e
 have:r.nr∈gu rs r.aG:=by rw[gu,GV,aap];exact⟨r,aa1.2 ⟨b,ir⟩,rfl⟩
 rw[e] at this;simp at this
def W9(b:∀ r∈rs,r.cZ){a n:Nat}(h:n∈gu rs a):n<4294967296:=by rw[gu,GV,aap] at h;obtain⟨r,c,rfl⟩:=h;exact(b r (aa1.1 c).1).2.2.1
def Mr(b:∀ r∈rs,r.cZ){a n:Nat}:∀ r∈ia rs a n,r.cZ:=fun r c=>b r (aa1.1 c).1
def zrR(d:∀ r∈rs,r.cZ){a:Nat}(f:a∈e_ rs){c:List af}(i:1<=o/\o<=c.length):Came c (vE rs o a c,(vE rs o a c).length) (CC rs a):=by
 obtain⟨g,j,b⟩:=Mq (R:=ia rs a) (l:=o8 (gu rs a)) (c:=c) (fun _ _=>Mr d) i
 have m:(cD (ia rs a) o (o8 (gu rs a)) c).2≠[]:=by intro e;rw[e] at b;have h:=(Mn (gu rs a)).length_eq;rw[<-b] at h;exact Ql f (aaF.1 (by simpa using h.symm))
 have n:=W3 b;rw[(Mn _).length_eq] at n;have s:0<(gu rs a).length:=abv.2 (Ql f);have t:=I4 (o:=o) _ m (aaj _) j (fun e q=>W9 d (a:=a) (zrQ.1 (by rw[<-b];exact aap.2 ⟨e,q,rfl⟩))) g.lP;have p:=Zd (c:=(bO (cD (ia rs a) o (o8 (gu rs a)) c).2.length (cD (ia rs a) o (o8 (gu rs a)) c).1 (cD (ia rs a) o (o8 (gu rs a)) c).2 o).1) (op:=32) (k:=0) (.inr (.inr ⟨rfl,by decide,by decide⟩)) (by decide)
 exact((g.trans t).trans p).mono (by unfold CC;omega)
def zvE{a n:Nat}(h:n∉gu rs a):ia rs a n=[]:=by rw[ia,List.filter_eq_nil_iff];intro r c b;simp only[decide_eq_true_eq] at b;refine h ?_;rw[gu,GV,aap];exact⟨r,aa1.2 ⟨c,by simp[b.1]⟩,b.2⟩
def Ac(rs:List Ru)(l:List Nat):Nat:=eo (CC rs) l
def Qr(j:∀ r∈rs,r.cZ):∀{l:List Nat} {c:List af},(∀ a∈l,a∈e_ rs)->(1<=o/\o<=c.length)->Came c ((jQ rs o l c).1,o) (Ac rs l)/\nD (jQ rs o l c).1 (jQ rs o l c).2/\(jQ rs o l c).2.map (·.1)=l
 | [],c,_,h=>⟨Came.self h,by intro e he;simp[jQ] at he,rfl⟩
 | a::l,c,k,g=>by
  have d:=zrR j (k a ir) g;have i:=d.grown.len;obtain⟨f,n,p⟩:=Qr j (l:=l) (c:=vE rs o a c) (fun m q=>k m (by simp[q])) ⟨g.1,by have:=g.2;simp only at i;omega⟩;have s:=f.grown.len
  refine⟨⟨(d.grown.trans f.grown).mono (by simp[Ac,eo]),f.lP,fun a b=>f.sound (d.sound a (by simp only[Ac,eo] at b;omega)) (by simp only[Ac,eo] at b |-;simp only at i;omega),
   fun a b=>f.ks (d.ks a (by simp only[Ac,eo] at b;omega)) (by simp only[Ac,eo] at b |-;simp only at i;omega)⟩,?_,by simp only[jQ,aax,p]⟩
  intro e he;simp only[jQ,aaf] at he |-
  rcases he with rfl|he
  ·exact⟨d.lP.1,by have:=d.lP.2;simp only at s |-;omega⟩
  ·exact n e he
def Qt:∀{l:List (Nat×Nat)} {s:si},nD s.1 l->(∀ e∈l,e.1<4294967296)->(1<=s.2/\s.2<=s.1.length)->Came s.1 (dI l s) (3*l.length)
 | [],s,_,_,h=>Came.self h
 | x::l,s,d,f,g=>by
  have b:=Ze (c:=s.1) (op:=21) (k:=x.1) (.inl rfl) (f x ir) (d x ir) g;have i:=Qt (l:=l) (s:=(gr s.1 21 x.1 x.2 s.2,(gr s.1 21 x.1 x.2 s.2).length)) ((show nD s.1 l from fun e a=>d e (by simp[a])).grown b.grown) (fun e a=>f e (by simp[a])) b.lP;exact(b.trans i).mono (by simp only[aai];omega)
end
def Po.cZ(p:Po):Prop:=(∀ r∈p.rules,r.cZ)/\p.ew<4294967296
def Ja(p:Po):Nat:=Ac p.rules (e_ p.rules)+3*(e_ p.rules).length+1
def zvF{w v:Ru->Nat}:∀{l:List Ru},(∀ r∈l,w r<=v r)->gB w l<=gB v l
 | [],_=>aaj _
 | r::l,h=>by
  have:=zvF (l:=l) fun y a=>h y (by simp[a]);have:=h r ir;simp only[gB];omega
def ztV(w v:Ru->Nat):∀ l:List Ru,gB (fun r=>w r+v r) l=gB w l+gB v l
 | []=>rfl
 | r::l=>by simp only[gB,ztV w v l];omega
def Ri(k:Nat):∀ l:List Ru,gB (fun _=>k) l=k*l.length
 | []=>rfl
 | r::l=>by simp only[gB,Ri k l,aai,Nat.mul_add];omega
def zAT(rs:List Ru)(a:Nat):CC rs a<=gB (fun r=>EA r+6) (rs.filter fun r=>decide (r.aG=a)):=by
 have c:=Zg EA (·.nr) (l:=o8 (gu rs a)) ((Mn _).nodup_iff.2 (Mu _)) (rs.filter fun r=>decide (r.aG=a))
 have b:=zyL rs a;rw[Ri] at b;rw[ztV,Ri]
 have e:A7 (ia rs a) (o8 (gu rs a))=eo (fun n=>gB EA ((rs.filter fun r=>decide (r.aG=a)).filter fun r=>decide (r.nr=n))) (o8 (gu rs a)) :=
  Zf fun n _=>by rw[zvC,zwE]
 unfold CC;rw[e];omega
def Xt(rs:List Ru):(e_ rs).length<=rs.length:=by
 have:=Mp (rs.map (·.aG)) []
 simpa[e_,Bl] using this
def zp4{p:Po}(e:p.rules.length<=64)(b:∀ r∈p.rules,r.conds.length<=4):Ja p<=4095:=by
 have f:=zvD (l:=e_ p.rules) fun a _=>zAT p.rules a
 have g:=Zg (fun r=>EA r+6) (·.aG) (l:=e_ p.rules) (Mu _) p.rules
 have c:=zvF (w:=fun r=>EA r+6) (v:=fun _=>59) (l:=p.rules) fun r d=>by have:=b r d;simp only[EA];omega
 rw[Ri] at c;have h:=Xt p.rules;unfold Ja Ac;omega
def zyM(k:Nat):dJ (bS [] 6 k)=true:=by
 have b:(qu 6).map (fun r=>(r.2.2.1,r.2.2.2))=some (true,false):=by decide
 rw[aaG] at b;obtain⟨r,c,a⟩:=b;simp only[abC.injEq] at a;simp[dJ,bS,jo,ez,jw,m_,jA,c,a.1,a.2,br,iy]
 done
def zuy{p:Po}(d:p.cZ):oU (bS [] 6 p.ew) (oS p) (Ja p)/\(Ja p<=4095->dJ (oS p)=true/\yc (oS p)):=by
 obtain⟨m,u,g⟩:=Qr (rs:=p.rules) (o:=1) d.1 (l:=e_ p.rules) (c:=bS [] 6 p.ew) (fun _ h=>h) ⟨aaj _,aaj _⟩
 have v:∀ e∈(jQ p.rules 1 (e_ p.rules) (bS [] 6 p.ew)).2,e.1<4294967296:=by
  intro e a
  have:e.1∈e_ p.rules:=by rw[<-g];exact aap.2 ⟨e,a,rfl⟩
  rw[e_,GV,aap] at this;obtain⟨r,w,h⟩:=this;rw[<-h];exact(d.1 r w).2.1
 have x:=Qt (s:=((jQ p.rules 1 (e_ p.rules) (bS [] 6 p.ew)).1,1)) u v m.lP
 have b:(jQ p.rules 1 (e_ p.rules) (bS [] 6 p.ew)).2.length=(e_ p.rules).length:=by rw[<-aaJ (f:=(·.1)),g]
 have n:=zyM p.ew;have q:yc (bS [] 6 p.ew):=Jw d.2 (fun y z=>by simp at z);have t:(bS [] 6 p.ew).length=1:=rfl
 by_cases a:(jQ p.rules 1 (e_ p.rules) (bS [] 6 p.ew)).2=[]
 ·have A:e_ p.rules=[]:=by rw[<-g,a];rfl
  have i:oS p=bS [] 6 p.ew:=by unfold oS;rw[if_pos a,a,A];rfl
  rw[i];exact⟨(oU.refl _).mono (abp _),fun _=>⟨n,q⟩⟩
 ·have B:=Zd (c:=(dI (jQ p.rules 1 (e_ p.rules) (bS [] 6 p.ew)).2 ((jQ p.rules 1 (e_ p.rules) (bS [] 6 p.ew)).1,1)).1) (op:=32) (k:=4) (.inr (.inr ⟨rfl,by decide,by decide⟩)) (by decide);have j:=((m.trans x).trans B).mono (show _<=Ja p by rw[b];exact aaj _)
  have i:oS p=bS (dI (jQ p.rules 1 (e_ p.rules) (bS [] 6 p.ew)).2 ((jQ p.rules 1 (e_ p.rules) (bS [] 6 p.ew)).1,1)).1 32 4:=by unfold oS;rw[if_neg a]
  rw[i];exact⟨j.grown,fun C=>⟨j.sound n (by rw[t];omega),j.ks q (by rw[t];omega)⟩⟩
open Go Go.RowKit
variable {G:aN}
def dE(v:Nat):Bool:=decide (v=0\/v=196608\/v=2147221504\/v=2147418112\/327680<=v/\v<=331775)
def qS:List (List UInt8×Int):=[([107,105,108,108],0),([116,114,97,112],196608),([108,111,103],2147221504),([97,108,108,111,119],2147418112)]
def Rj[bM G]:bp G (.F 394 [] [] (.mp 0) [some (.map (qS.map fun p=>(.str p.1,.int .u32 p.2)))]):=by refine eB bM.ad7 (aaa rfl) ?_;simp[qS]
def Ap(v:Nat):List UInt8:=((qS.find? fun p=>p.2==(v:Int)).map (·.1)).getD []
def Zh[bM G](v:Nat):bp G (.F 393 [.mp 0,.int .u32 v] [some (.map (qS.map fun p=>(.str p.1,.int .u32 p.2)))] (.str (Ap v)) [some (.map (qS.map fun p=>(.str p.1,.int .u32 p.2)))]) :=
 .nat bM.ad6 rfl ⟨rfl,qS,rfl,by decide,rfl⟩
def Na{v:Nat}(a:v<4294967296):cM .u32 (v:Int) 327680=(((v+4294639616)%4294967296:Nat):Int):=by unfold cM;rw[IntKind.wrap,show IntKind.u32.signed=false from rfl];simp[IntKind.bits];omega
def zrS[fi G][bM G](v:Nat)(j:v<4294967296):∃ s e,FP G 395 [.int .u32 v] (.bc [.str s,.int .i64 e])/\(e==0)=dE v:=by
 by_cases b:Ap v=[]
 ·have t:v≠0/\v≠196608/\v≠2147221504/\v≠2147418112:=by refine⟨?_,?_,?_,?_⟩<;>(rintro rfl;revert b;decide)
  obtain⟨k,m⟩:∃ k,k=(v+4294639616)%4294967296:=⟨_,rfl⟩;have d:=Na j;rw[<-m] at d
  by_cases h:k<=4095
  ·have n:=zCY (G:=G) k an;refine⟨[101,114,114,111,114,58]++bg k,0,?_,?_⟩
   ·refine bF bM.ad8 (aaa rfl) ?_;have a:((k:Int)<=4095)=True:=eq_true an;have c:(6+(bg k).length<=9223372036854775807)=True:=eq_true (by have:=Rc k 16;unfold bg;omega);have o:fB .u64 (k:Int)=(k:Int):=IntWalk.u64_in _ ⟨an,an⟩;simp;refine s7 Rj ir ?_;simp;refine xG (Zh v) ?_;simp[b,d,a,o];refine ax n ?_;simp[c]
   ·have:dE v=true:=by simp[dE];omega
    rw[this];rfl
  ·refine⟨[],1,?_,?_⟩
   ·refine bF bM.ad8 (aaa rfl) ?_;have a:((k:Int)<=4095)=False:=eq_false an;simp;refine s7 Rj ir ?_;simp;refine xG (Zh v) ?_;simp[b,d,a]
   ·have:dE v=false:=by simp[dE];omega
    rw[this];rfl
 ·refine⟨Ap v,0,?_,?_⟩
  ·refine bF bM.ad8 (aaa rfl) ?_
   have q:(Ap v).isEmpty=false:=by simpa using b
   simp;refine s7 Rj ir ?_;simp;refine xG (Zh v) ?_;simp[q]
  ·have:dE v=true:=by
    have f:∀ l:List (List UInt8×Int),((l.find? fun p=>p.2==(v:Int)).map (·.1)).getD []≠[]->∃ p∈l,p.2=(v:Int):=by
     intro l h
     cases g:l.find? (fun p=>p.2==(v:Int)) with
     | none=>rw[g] at h;simp at h
     | some p=>exact⟨p,aaP g,by simpa using abo g⟩
    obtain⟨p,i,r⟩:=f _ b;simp only[qS,aaf,aat,or_false] at i
    rcases i with rfl|rfl|rfl|rfl<;>simp only at r<;>simp[dE]<;>omega
   rw[this];rfl
def Ru.cs(r:Ru):List V:=[.int .u32 (r.aG:Int),.int .u32 (r.nr:Int),.vs (CL r.conds) .no,.int .u32 (r.act:Int)]
def RL(l:List Ru):List (List V):=l.map Ru.cs
@[simp] theorem zIT (l:List Ru):(RL l).length=l.length:=by simp[RL]
theorem WK{l:List Ru}{i:Nat}{x:Ru}(h:l[i]?=some x):(RL l)[i]?=some x.cs:=by simp[RL,h]
def Po.cs(p:Po):List V:=[.vs (RL p.rules) .no,.int .u32 (p.ew:Int)]
def ix(r:Ru):Bool:=r.conds.all Cd.right&&dE r.act&&decide (r.conds.length<=4)
def xX(p:Po):Bool:=p.rules.all ix&&dE p.ew&&decide (p.rules.length<=64)
def zEh[fi G][bM G][dO G][ka G](r:Ru)(k:r.conds.length<=maxLen)(l:r.act<4294967296):FP G 405 [.agg r.cs] (.bool (ix r)):=by
 refine bF ka.aec (aaa rfl) ?_;obtain⟨s,e,m,a⟩:=zrS (G:=G) r.act l;simp[Ru.cs];refine aP r.conds.length (fun i=>[(1,.ptr 0 0),(8,.vs (CL r.conds) .no),(9,.int .i64 r.conds.length),(10,.int .i64 i)]) (fun _=>[some (.cells r.cs)]) (fun i=>(r.conds.take i).all Cd.right=true) ?_ ?_
 ·simp[aq,ai,Ru.cs]
 intro i hi b;unfold maxLen at k
 by_cases c:i<r.conds.length
 ·obtain⟨x,n⟩:∃ x,x=r.conds[i]:=⟨_,rfl⟩
  have g:r.conds[i]?=some x:=by rw[aac c,n]
  have d:=WM g
  have o:(CL r.conds)[i]'(by simpa using c)=x.cs:=by rw[aac (by simpa using c)] at d;exact aaZ.inj d
  have h:=ztS (G:=G) x;simp only[Cd.cs] at h d o
  have p:(r.conds.take (i+1)).all Cd.right=((r.conds.take i).all Cd.right&&x.right):=by rw[aau,g];simp
  simp(disch:=omega)[bC,d,Ru.cs];refine ax h ?_
  cases j:x.right with
  | false =>
   have:ix r=false:=by
    have:r.conds.all Cd.right=false:=by rw[abE];exact⟨x,aaB g,by simp[j]⟩
    simp[ix,this]
   simp[this]
  | true =>
   simp(disch:=omega)[aq,ai,bE,c,-aah]
   have:(r.conds.take (i+1)).all Cd.right=true:=by rw[p,b,j];rfl
   simpa using this
 ·have:i=r.conds.length:=an
  subst this;rw[aaz] at b
  have q:((r.conds.length:Int)<=4)=(r.conds.length<=4):=by rw[eq_iff_iff];omega
  simp(disch:=omega)[Ru.cs];refine ax m ?_
  cases f:dE r.act with
  | true =>
   rw[f] at a;simp only[beq_iff_eq] at a;subst a
   simp[ix,b,f,q]
  | false =>
   rw[f] at a;simp[ix,b,f,a]
def zuz[fi G][bM G][dO G][ka G](p:Po)(l:p.rules.length<=maxLen)(m:∀ r∈p.rules,r.conds.length<=maxLen/\r.act<4294967296)(hd:p.ew<4294967296):FP G 406 [.agg p.cs] (.bool (xX p)):=by
 refine bF ka.aed (aaa rfl) ?_;obtain⟨s,e,n,a⟩:=zrS (G:=G) p.ew hd;simp[Po.cs];refine aP p.rules.length (fun i=>[(1,.ptr 0 0),(8,.vs (RL p.rules) .no),(9,.int .i64 p.rules.length),(10,.int .i64 i)]) (fun _=>[some (.cells p.cs)]) (fun i=>(p.rules.take i).all ix=true) ?_ ?_
 ·simp[aq,ai,Po.cs]
 intro i hi b;unfold maxLen at l
 by_cases c:i<p.rules.length
 ·obtain⟨x,o⟩:∃ x,x=p.rules[i]:=⟨_,rfl⟩
  have d:p.rules[i]?=some x:=by rw[aac c,o]
  have f:=WK d
  have q:(RL p.rules)[i]'(by simpa using c)=x.cs:=by rw[aac (by simpa using c)] at f;exact aaZ.inj f
  have h:=m x (aaB d);have j:=zEh (G:=G) x h.1 h.2;simp only[Ru.cs] at j f q
  have t:(p.rules.take (i+1)).all ix=((p.rules.take i).all ix&&ix x):=by rw[aau,d];simp
  simp(disch:=omega)[bC,f,Po.cs];refine ax j ?_
  cases k:ix x with
  | false =>
   have:xX p=false:=by
    have:p.rules.all ix=false:=by rw[abE];exact⟨x,aaB d,by simp[k]⟩
    simp[xX,this]
   simp[this]
  | true =>
   simp(disch:=omega)[aq,ai,bE,c,-aah]
   have:(p.rules.take (i+1)).all ix=true:=by rw[t,b,k];rfl
   simpa using this
 ·have:i=p.rules.length:=an
  subst this;rw[aaz] at b
  have u:((p.rules.length:Int)<=64)=(p.rules.length<=64):=by rw[eq_iff_iff];omega
  simp(disch:=omega)[Po.cs];refine ax n ?_
  cases g:dE p.ew with
  | true =>
   rw[g] at a;simp only[beq_iff_eq] at a;subst a
   simp[xX,b,g,u]
  | false =>
   rw[g] at a;simp[xX,b,g,a]
def gA(l:List Nat):Nat:=l.foldl (fun a d=>16*a+d) 0
def En(l:List Nat)(d:Nat):gA (l++[d])=16*gA l+d:=by simp[gA]
def Yo:∀ n (l:List Nat),l.length=n->(∀ d∈l,d<16)->gA l<16^n:=by
 intro n
 induction n with
 | zero=>intro l a _;have:=aaF.1 a;subst this;simp[gA]
 | succ n b =>
  intro l a h
  rcases aaX l with rfl|⟨m,d,rfl⟩
  ·simp at a
  ·rw[aaK] at a h |-;have e:=b m (by simpa using a) (fun x c=>h x (by simp[c]));have f:=h d ir;rw[En,Nat.pow_succ];omega
def zyN{k:Nat}(h:k<16):2^(64-4*k)=2^(60-4*k)*16:=by rw[show 64-4*k=(60-4*k)+4 by omega,Nat.pow_add]
def zwF(n:Nat)(f:n<18446744073709551616):∀ k,k<=16->∃ ds:List Nat,uP n k=([48,120]++ds.map jz,decide (ds≠[]))/\(∀ d∈ds,d<16)/\gA ds=n/2^(64-4*k)/\ds.length<=k/\(ds.head?=some 0->k=16/\ds.length=1)/\(k=16->ds≠[]):=by
 intro k
 induction k with
 | zero =>
  intro _;refine⟨[],by simp[uP],ir,?_,ir,ir,ir⟩;rw[show 64-4*0=64 by omega,abI (show n<2^64 from f)]
  rfl
 | succ k g =>
  intro u;obtain⟨ds,i,j,e,v,m,_⟩:=g an;obtain⟨d,hd⟩:∃ d,d=n/2^(60-4*k)%16:=⟨_,rfl⟩;have o:=zyN (k:=k) an
  have p:n/2^(64-4*k)=n/2^(60-4*k)/16:=by rw[o,Nat.div_div_eq_div_mul]
  have r:64-4*(k+1)=60-4*k:=an
  rw[r];rw[p] at e
  have s:d<16:=an
  unfold uP;rw[<-hd,i];generalize n/2^(60-4*k)=q at *
  by_cases b:(decide (ds≠[])||decide (0<d)||decide (k=15))=true
  ·refine⟨ds++[d],?_,?_,?_,?_,?_,ir⟩
   ·rw[if_pos b];simp
   ·intro x t
    rcases aar.1 t with h|h
    ·exact j x h
    ·simp at h;omega
   ·rw[En,e];omega
   ·simp;omega
   ·intro c
    cases ds with
    | nil =>
     simp at c b;subst c;simp at b
     simp;omega
    | cons a l =>
     simp at c;have:=m (by simp[c]);omega
  ·rw[if_neg b];simp at b;obtain⟨⟨rfl,w⟩,y⟩:=b;refine⟨[],ir,ir,?_,ir,ir,an⟩;have:gA []=0:=rfl;rw[this] at e |-;omega
def Ha(n:Nat)(a:n<18446744073709551616):∃ ds:List Nat,bg n=[48,120]++ds.map jz/\(∀ d∈ds,d<16)/\gA ds=n/\1<=ds.length/\ds.length<=16/\(ds.head?=some 0->ds.length=1):=by
 obtain⟨ds,b,c,e,f,g,i⟩:=zwF n a 16 an;refine⟨ds,by rw[bg,b],c,by simpa using e,?_,f,fun h=>(g h).2⟩;have:=i rfl
 cases ds with
 | nil=>exact absurd rfl this
 | cons _ _=>simp
def ye(w:List UInt8):Prop:=∀ b∈w,b≠32/\b≠10/\b.toNat<128
def zrT:∀ d,d<16->jz d≠32/\jz d≠10/\(jz d).toNat<128:=by decide
def Rk(n:Nat)(c:n<18446744073709551616):ye (bg n):=by
 obtain⟨ds,e,f,_⟩:=Ha n c;intro b a;rw[e] at a;simp only[aam,aaD,aaf,aap] at a
 rcases a with rfl|rfl|⟨d,hd,rfl⟩
 ·decide
 ·decide
 ·exact zrT d (f d hd)
def G9(n:Nat):(bg n).length<=18:=by have:=Rc n 16;unfold bg;omega
def ztX(n:Nat):bg n≠[]:=by
 intro h
 have:∀ k,(uP n k).1≠[]:=by
  intro k
  induction k with
  | zero=>simp[uP]
  | succ k a=>unfold uP;split<;>simp[a]
 exact this 16 h
def zyO(n:Nat)(a:n<18446744073709551616):∃ r,bg n=48::120::r:=by obtain⟨ds,b,_⟩:=Ha n a;exact⟨_,b⟩
def nK(M:List (List UInt8×Int))(v:Nat):List UInt8:=((M.find? fun p=>p.2==(v:Int)).map (·.1)).getD []
def cG(M:List (List UInt8×Int))(v:Nat):List UInt8:=if nK M v=[] then bg v else nK M v
def oi:List (List UInt8×Int):=[([120,54,52],3221225534),([120,56,54],1073741827),([97,54,52],3221225655),([97,114,109],1073741864)]
def Bb:List UInt8:=[114,101,97,100]
def Bc:List UInt8:=[119,114,105,116,101]
def Eo:List UInt8:=[111,112,101,110]
def Bd:List UInt8:=[99,108,111,115,101]
def Be:List UInt8:=[101,120,105,116]
def Ep:List UInt8:=[102,111,114,107]
def Bf:List UInt8:=[107,105,108,108]
def Er:List UInt8:=[109,109,97,112]
def Es(a:Nat):Option (List (List UInt8×Int)) :=
 if a=3221225534 then some [(Bb,0),(Bc,1),(Eo,2),(Bd,3),(Be,60),(Ep,57),(Bf,62),(Er,9)]
 else if a=1073741827 then some [(Bb,3),(Bc,4),(Eo,5),(Bd,6),(Be,1),(Ep,2),(Bf,37),(Er,90)]
 else if a=3221225655 then some [(Bb,63),(Bc,64),(Bd,57),(Be,93),(Bf,129),(Er,222)]
 else if a=1073741864 then some [(Bb,3),(Bc,4),(Eo,5),(Bd,6),(Be,1),(Ep,2),(Bf,37)]
 else none
def m9(a:Nat):List (List UInt8×Int):=(Es a).getD []
structure gI (M:List (List UInt8×Int)):Prop where
 dc:(M.map (·.2)).Nodup
 keys:(M.map (·.1)).Nodup
 cQ:∀ p∈M,ye p.1/\p.1≠[]/\p.1.head?≠some 48/\p.1.length<=5/\0<=p.2/\p.2<4294967296
instance (w:List UInt8):Decidable (ye w):=inferInstanceAs (Decidable (∀ b∈w,b≠32/\b≠10/\b.toNat<128))
def CN:gI oi:=⟨by decide,by decide,by decide⟩
def Hq:gI qS:=⟨by decide,by decide,by decide⟩
def CO(a:Nat):gI (m9 a):=by
 unfold m9 Es
 repeat' split
 all_goals first|exact⟨by decide,by decide,by decide⟩
def yf{M:List (List UInt8×Int)}{v:Nat}(h:nK M v≠[]):(nK M v,(v:Int))∈M:=by
 unfold nK at h |-
 cases a:M.find? (fun p=>p.2==(v:Int)) with
 | none=>rw[a] at h;simp at h
 | some p =>
  have b:=aaP a
  have c:p.2=(v:Int):=by simpa using abo a
  simp[<-c,b]
def Jx{M:List (List UInt8×Int)}{s:List UInt8}{v:Int}(a:(M.map (·.1)).Nodup)(h:(s,v)∈M):M.find? (fun p=>p.1==s)=some (s,v):=by
 induction M with
 | nil=>simp at h
 | cons p M b =>
  simp only[aax,abn] at a
  rcases aaf.1 h with rfl|h
  ·simp
  ·have c:p.1≠s:=by rintro rfl;exact a.1 (aap.2 ⟨_,h,rfl⟩)
   rw[aa6 (by simpa using c)];exact b a.2 h
def zn9{M:List (List UInt8×Int)}(a:gI M){v:Nat}(b:v<18446744073709551616):ye (cG M v):=by
 unfold cG;split
 ·exact Rk v b
 ·rename_i h;exact(a.cQ _ (yf h)).1
def QW{M:List (List UInt8×Int)}(a:gI M){v:Nat}:(cG M v).length<=18:=by
 unfold cG;split
 ·exact G9 v
 ·rename_i h;have:=(a.cQ _ (yf h)).2.2.2.1;simp only at this;omega
def zvG(v:Nat):Ap v=nK qS v:=rfl
def jH:List UInt8:=[101,114,114,111,114,58]
def gW(v:Nat):List UInt8:=if Ap v=[] then jH++bg (v-327680) else Ap v
def zwG{v:Nat}(c:v<4294967296):ye (gW v):=by
 unfold gW;split
 ·intro b a
  rcases aar.1 a with h|h
  ·have:ye jH:=by decide
   exact this b h
  ·exact Rk (v-327680) an b h
 ·rename_i h;exact(Hq.cQ _ (yf h)).1
def zAU(k:Nat):(jH++bg k).length<=24:=by have:=G9 k;simp[jH];omega
def zyP{M:List (List UInt8×Int)}(a:gI M)(v:Nat):(nK M v).length<=5:=by
 by_cases h:nK M v=[]
 ·rw[h];exact abp _
 ·exact(a.cQ _ (yf h)).2.2.2.1
def ztY{v:Nat}:(gW v).length<=24:=by
 unfold gW;split
 ·exact zAU _
 ·exact abw (zyP Hq v) (by decide)
def aK:List (List UInt8)->List UInt8
 | []=>[]
 | [w]=>w
 | w::v::r=>w++32::aK (v::r)
def Aq(w:List UInt8){r:List (List UInt8)}(h:r≠[]):aK (w::r)=w++32::aK r:=by
 cases r with
 | nil=>exact absurd rfl h
 | cons v r=>rfl
def znc:∀{a b:List (List UInt8)},a≠[]->b≠[]->aK (a++b)=aK a++32::aK b
 | [],_,h,_=>absurd rfl h
 | [w],b,_,h=>by rw[List.singleton_append,Aq w h];rfl
 | w::v::r,b,_,h=>by
  rw[aam,Aq w ir,znc ir h];simp[aK]
def gX(c:Int):List UInt8:=if c=0 then [101,113] else if c=1 then [110,101] else if c=2 then [108,116] else if c=3 then [108,101] else if c=4 then [103,116] else [103,101]
def jS(c:Cd):List (List UInt8):=[[97,aal (48+c.arg.toNat)],bg c.mask,gX c.cmp,bg c.val]
def vL(k:Nat):List UInt8:=if k=0 then [105,102] else [97,110,100]
def ib:Nat->List Cd->List (List UInt8)
 | _,[]=>[]
 | k,c::l=>vL k::jS c++ib (k+1) l
def o9(r:Ru):List (List UInt8):=[[111,110],cG oi r.aG,cG (m9 r.aG) r.nr,gW r.act]++ib 0 r.conds
def GK(v:Nat):List (List UInt8):=[[100,101,102,97,117,108,116],gW v]
def zwH(c:Int):ye (gX c):=by
 unfold gX
 repeat' split
 all_goals decide
def zyQ{c:Cd}(h:c.right=true):ye [97,aal (48+c.arg.toNat)]:=by
 simp only[Cd.right,decide_eq_true_eq] at h
 have:c.arg=0\/c.arg=1\/c.arg=2\/c.arg=3\/c.arg=4\/c.arg=5:=an
 rcases this with h|h|h|h|h|h<;>rw[h]<;>decide
def YB{c:Cd}(h:c.right=true)(a:c.ok):∀ w∈jS c,ye w:=by
 intro w b;simp only[jS,aaf,aat,or_false] at b
 rcases b with rfl|rfl|rfl|rfl
 ·exact zyQ h
 ·exact Rk _ a.1
 ·exact zwH _
 ·exact Rk _ a.2
def zuA(k:Nat):ye (vL k):=by unfold vL;split<;>decide
def zoa:∀{l:List Cd} {k:Nat},(∀ c∈l,c.right=true/\c.ok)->∀ w∈ib k l,ye w
 | [],k,_,w,a=>by simp[ib] at a
 | c::l,k,h,w,a=>by
  simp only[ib,aam,aaf,aar] at a
  rcases a with rfl|a|a
  ·exact zuA k
  ·exact YB (h c ir).1 (h c ir).2 w a
  ·exact zoa (fun c b=>h c (by simp[b])) w a
def zwI{r:Ru}(b:∀ c∈r.conds,c.right=true/\c.ok)(e:r.aG<4294967296)(f:r.nr<4294967296)(d:r.act<4294967296):∀ w∈o9 r,ye w:=by
 intro w a;simp only[o9,aam,aaD,aaf] at a
 rcases a with rfl|rfl|rfl|rfl|a
 ·decide
 ·exact zn9 CN an
 ·exact zn9 (CO _) an
 ·exact zwG d
 ·exact zoa b w a
open Classical in
noncomputable def wM{α:Type}(p:α->Prop):Option α:=if h:∃ x,p x then some h.choose else none
section
variable {α:Type} {p:α->Prop} {x:α}
def EC(h:wM p=some x):p x:=by
 unfold wM at h;split at h
 ·rename_i a;cases h;exact a.choose_spec
 ·cases h
def Nc(h:wM p=none)(x:α):¬p x:=by
 unfold wM at h;split at h
 ·cases h
 ·rename_i a;exact fun b=>a ⟨x,b⟩
def Jy(a:p x)(b:∀ y,p y->y=x):wM p=some x:=by
 cases h:wM p with
 | none=>exact absurd a (Nc h x)
 | some y=>rw[b y (EC h)]
def D9(h:∀ x,¬p x):wM p=none:=by
 cases a:wM p with
 | none=>rfl
 | some y=>exact absurd (EC a) (h y)
end
def zC0:∀ a,a<16->∀ b,b<16->jz a=jz b->a=b:=by decide
def zob:∀{a b:List Nat},(∀ d∈a,d<16)->(∀ d∈b,d<16)->a.map jz=b.map jz->a=b
 | [],[],_,_,_=>rfl
 | [],_::_,_,_,h=>by simp at h
 | _::_,[],_,_,h=>by simp at h
 | x::a,y::b,c,e,h=>by
  simp only[aax,aaT.injEq] at h;rw[zC0 x (c x ir) y (e y ir) h.1,zob (fun d hd=>c d (by simp[hd])) (fun d hd=>e d (by simp[hd])) h.2]
def Rl{l:List Nat}(b:l≠[])(c:l.head?≠some 0):0<gA l:=by
 obtain⟨n,e⟩:∃ n,l.length=n:=⟨_,rfl⟩
 induction n generalizing l with
 | zero=>exact absurd (aaF.1 e) b
 | succ n f =>
  rcases aaX l with rfl|⟨m,d,rfl⟩
  ·exact absurd rfl b
  ·rw[aaK] at *;rw[En]
   cases m with
   | nil=>simp at c;omega
   | cons a m =>
    have:=f (l:=a::m) ir (by simpa using c) (by simpa using e);omega
def zyR:∀(n:Nat) {a b:List Nat},a.length=n->(∀ d∈a,d<16)->(∀ d∈b,d<16)->a.head?≠some 0->b.head?≠some 0->gA a=gA b->a=b:=by
 intro n
 induction n with
 | zero =>
  intro a b c _ _ _ f g;have:=aaF.1 c;subst this
  cases b with
  | nil=>rfl
  | cons y b=>have:=Rl (l:=y::b) ir f;rw[<-g] at this;simp[gA] at this
 | succ n o =>
  intro a b c i j f p g
  rcases aaX a with rfl|⟨m,d,rfl⟩
  ·simp at c
  rcases aaX b with rfl|⟨k,e,rfl⟩
  ·have:=Rl (l:=m.concat d) (by simp[aaK]) f;rw[g] at this;simp[gA] at this
  rw[aaK] at *;rw[aaK] at *;rw[En,En] at g;have hd:=i d ir;have s:=j e ir
  have q:m.head?≠some 0:=by cases m with
   | nil=>simp
   | cons x m=>simpa using f
  have r:k.head?≠some 0:=by cases k with
   | nil=>simp
   | cons x k=>simpa using p
  rw[o (a:=m) (b:=k) (by simpa using c) (fun x h=>i x (by simp[h])) (fun x h=>j x (by simp[h])) q r an,show d=e by omega]
def zrU{ds:List Nat}(h:∀ d∈ds,d<16)(n:1<=ds.length)(r:ds.length<=16)(s:ds.head?=some 0->ds.length=1):gA ds<18446744073709551616/\bg (gA ds)=[48,120]++ds.map jz:=by
 have o:gA ds<18446744073709551616:=by
  have a:=Yo _ ds rfl h;have b:16^ds.length<=16^16:=abt (by decide) r
  have c:(16:Nat)^16=18446744073709551616:=by decide
  omega
 refine⟨o,?_⟩;obtain⟨i,t,u,j,k,w,p⟩:=Ha _ o;rw[t]
 congr 2
 have e:∀{l:List Nat},1<=l.length->(l.head?=some 0->l.length=1)->l.head?=some 0->l=[0]:=by
  intro l _ v f;have:=v f
  match l,this,f with
  | [x],_,f=>simp at f;rw[f]
 by_cases m:ds.head?=some 0
 ·have q:=e n s m
  by_cases g:i.head?=some 0
  ·rw[e k p g,q]
  ·have:=Rl (l:=i) (by intro h;simp[h] at k) g;rw[j,q] at this;simp[gA] at this
 ·by_cases g:i.head?=some 0
  ·have:=Rl (l:=ds) (by intro h;simp[h] at n) m;rw[<-j,e k p g] at this;simp[gA] at this
  ·exact zyR _ rfl u h g m j
def Hr{n m:Nat}(c:n<18446744073709551616)(d:m<18446744073709551616)(h:bg n=bg m):n=m:=by obtain⟨a,e,f,g,_⟩:=Ha n c;obtain⟨b,i,j,k,_⟩:=Ha m d;rw[e,i] at h;rw[<-g,<-k,zob f j (abm h)]
noncomputable def di(s:List UInt8):Option Nat:=wM fun n=>n<18446744073709551616/\bg n=s
def QR{n:Nat}(h:n<18446744073709551616):di (bg n)=some n:=Jy ⟨h,rfl⟩ fun y a=>Hr a.1 h a.2
def yC{s:List UInt8}{n:Nat}(h:di s=some n):n<18446744073709551616/\bg n=s:=by unfold di at h;have:=EC h;exact this
def CU(b:UInt8):Option Nat:=if 48<=b.toNat/\b.toNat<=57 then some (b.toNat-48) else if 97<=b.toNat/\b.toNat<=102 then some (b.toNat-87) else none
def zC1{b:UInt8}{d:Nat}(h:CU b=some d):d<16/\b=jz d:=by
 have a:∀ k,k<16->(jz k).toNat=if k<10 then 48+k else 87+k:=by decide
 unfold CU at h;split at h
 ·cases h;refine⟨an,aa2.1 ?_⟩
  rw[a _ an];split<;>omega
 ·split at h
  ·cases h;refine⟨an,aa2.1 ?_⟩
   rw[a _ an];split<;>omega
  ·cases h
def zrV{f:UInt8->Bool}:∀{D:List UInt8},(∃ b∈D,f b=false)->∃(p:Nat) (b:UInt8),D[p]?=some b/\f b=false/\∀ i,i<p->∃ c,D[i]?=some c/\f c=true
 | [],h=>by simp at h
 | x::D,h=>by
  cases a:f x with
  | false=>exact⟨0,x,rfl,a,fun i hi=>absurd hi (aaU _)⟩
  | true =>
   obtain⟨b,hb,d⟩:=h
   rcases aaf.1 hb with rfl|hb
   ·rw[a] at d;cases d
   obtain⟨p,b,e,g,j⟩:=zrV (D:=D) ⟨b,hb,d⟩;refine⟨p+1,b,e,g,fun i hi=>?_⟩
   cases i with
   | zero=>exact⟨x,rfl,a⟩
   | succ i=>exact j i an
def zAV{s:List UInt8}(h:di s=none)(u:3<=s.length)(k:s.length<=18)(m:s.take 2=[48,120])(n:s[2]?=some 48->s.length=3):∃ b∈s.drop 2,(CU b).isSome=false:=by
 apply Classical.byContradiction;intro o
 have p:∀ b∈s.drop 2,∃ d,CU b=some d:=by
  intro b a
  cases q:CU b with
  | some d=>exact⟨d,rfl⟩
  | none=>exact absurd ⟨b,a,by rw[q];rfl⟩ o
 have c:∀ D:List UInt8,(∀ b∈D,∃ d,CU b=some d)->∃ ds:List Nat,(∀ d∈ds,d<16)/\D=ds.map jz:=by
  intro D
  induction D with
  | nil=>intro _;exact⟨[],ir,rfl⟩
  | cons x D r =>
   intro j;obtain⟨d,hd⟩:=j x ir;obtain⟨ds,e,f⟩:=r fun b a=>j b (by simp[a]);have:=zC1 hd;exact⟨d::ds,by intro y g;rcases aaf.1 g with rfl|g;exact this.1;exact e y g,by rw[this.2,f];rfl⟩
 obtain⟨ds,e,f⟩:=c _ p
 have i:s=[48,120]++ds.map jz:=by rw[<-f,<-m,aa9]
 have v:s.length=2+ds.length:=by rw[i];simp;omega
 have t:ds.head?=some 0->ds.length=1:=by
  intro hd
  have:s[2]?=some 48:=by
   rw[i]
   cases ds with
   | nil=>simp at hd
   | cons x l=>simp at hd;subst hd;rfl
  have:=n this;omega
 have:=zrU e an an t;exact Nc h _ ⟨this.1,by rw[this.2,<-i]⟩
def Zi{M:List (List UInt8×Int)}(g:gI M){v w:Nat}(e:v<18446744073709551616)(i:w<18446744073709551616)(h:cG M v=cG M w):v=w:=by
 have c:∀{v w:Nat},v<18446744073709551616->nK M w≠[]->bg v≠nK M w:=by intro v w e d j;have f:=(g.cQ _ (yf d)).2.2.1;obtain⟨r,k⟩:=zyO v e;rw[<-j,k] at f;exact f rfl
 unfold cG at h
 split at h<;>split at h
 ·exact Hr e i h
 ·rename_i _ d;exact absurd h (c e d)
 ·rename_i d _;exact absurd h.symm (c i d)
 ·rename_i f l;have a:=Jx g.keys (yf f);have b:=Jx g.keys (yf l);rw[h,b] at a
  injection a with a
  injection a with _ a
  omega
noncomputable def mZ(M:List (List UInt8×Int))(s:List UInt8):Option Nat:=wM fun v=>v<4294967296/\cG M v=s
def Js{M:List (List UInt8×Int)}(a:gI M){v:Nat}(b:v<4294967296):mZ M (cG M v)=some v:=Jy ⟨b,rfl⟩ fun y c=>Zi a an an c.2
def Q0{M:List (List UInt8×Int)}{s:List UInt8}{v:Nat}(h:mZ M s=some v):v<4294967296/\cG M v=s:=by unfold mZ at h;have:=EC h;exact this
def zrW{M:List (List UInt8×Int)}(c:gI M){s:List UInt8}{v:Nat}(h:(s,(v:Int))∈M):nK M v=s:=by
 have d:=(c.cQ _ h).2.1
 have a:∀{M:List (List UInt8×Int)},(M.map (·.2)).Nodup->(s,(v:Int))∈M->M.find? (fun p=>p.2==(v:Int))=some (s,(v:Int)):=by
  intro M b h
  induction M with
  | nil=>simp at h
  | cons p M e =>
   simp only[aax,abn] at b
   rcases aaf.1 h with rfl|h
   ·simp
   ·have d:p.2≠(v:Int):=by intro f;exact b.1 (aap.2 ⟨_,h,by simp[f]⟩)
    rw[aa6 (by simpa using d)];exact e b.2 h
 unfold nK;rw[a c.dc h];rfl
def zrX{M:List (List UInt8×Int)}(a:gI M){s:List UInt8}{k:Int}(h:M.find? (fun p=>p.1==s)=some (s,k)):∃ v:Nat,k=v/\mZ M s=some v:=by
 have b:=aaP h;obtain⟨_,c,_,_,d,e⟩:=a.cQ _ b;simp only at c d e;obtain⟨v,rfl⟩:∃ v:Nat,k=v:=⟨k.toNat,an⟩
 have f:cG M v=s:=by unfold cG;rw[zrW a b,if_neg c]
 exact⟨v,rfl,by rw[<-f];exact Js a an⟩
def Ys{M:List (List UInt8×Int)}(c:gI M){s:List UInt8}(h:M.find? (fun p=>p.1==s)=none){v:Nat}(a:cG M v=s):nK M v=[]/\bg v=s:=by
 unfold cG at a;split at a
 ·rename_i b;exact⟨b,a⟩
 ·rename_i b;have:=Jx c.keys (yf b);rw[a,h] at this;cases this
def Yr{M:List (List UInt8×Int)}{s:List UInt8}{p:List UInt8×Int}(h:M.find? (fun p=>p.1==s)=some p):p=(s,p.2):=by have:=abo h;simp only[beq_iff_eq] at this;rw[<-this]
def zrY{M:List (List UInt8×Int)}(c:gI M){s:List UInt8}(h:M.find? (fun p=>p.1==s)=none) :
  mZ M s=match di s with
   | none=>none
   | some n=>if n<4294967296/\nK M n=[] then some n else none:=by
 cases e:di s with
 | none =>
  refine D9 fun v a=>?_;have:=Ys c h a.2
  exact Nc e v ⟨an,this.2⟩
 | some n =>
  have d:=yC e;simp only;split
  ·rename_i b
   have:cG M n=s:=by unfold cG;rw[if_pos b.2,d.2]
   rw[<-this];exact Js c b.1
  ·rename_i b;refine D9 fun v a=>b ?_;have f:=Ys c h a.2;have:=Hr (n:=v) (m:=n) an d.1 (by rw[f.2,d.2]);subst this;exact⟨a.1,f.1⟩
noncomputable def d_(s:List UInt8):Option Nat:=wM fun v=>dE v=true/\gW v=s
def Jq{v:Nat}(h:dE v=true):v<4294967296:=by simp only[dE,decide_eq_true_eq] at h;omega
def Zj{v w:Nat}(i:dE v=true)(j:dE w=true)(h:gW v=gW w):v=w:=by
 have hd:∀ p∈qS,p.1.take 6≠jH:=by decide
 have g:∀{v:Nat},dE v=true->Ap v=[]->327680<=v/\v<=331775:=by
  intro v h k
  have c:v≠0/\v≠196608/\v≠2147221504/\v≠2147418112:=by refine⟨?_,?_,?_,?_⟩<;>(rintro rfl;revert k;decide)
  simp only[dE,decide_eq_true_eq] at h;omega
 have d:∀{v w:Nat},nK qS w≠[]->jH++bg v≠nK qS w:=by intro v w c l;refine hd _ (yf c) ?_;show(nK qS w).take 6=jH;rw[<-l];rfl
 unfold gW at h;rw[zvG,zvG] at h
 split at h<;>split at h
 ·rename_i e f;have a:=g i e;have b:=g j f;have:=Hr an an (abm h);omega
 ·rename_i _ c;exact absurd h (d c)
 ·rename_i c _;exact absurd h.symm (d c)
 ·rename_i e f;have a:=Jx Hq.keys (yf e);have b:=Jx Hq.keys (yf f);rw[h,b] at a
  injection a with a
  injection a with _ a
  omega
def D_{v:Nat}(a:dE v=true):d_ (gW v)=some v:=Jy ⟨a,rfl⟩ fun y b=>Zj b.1 a b.2
def z8{s:List UInt8}{v:Nat}(h:d_ s=some v):dE v=true/\gW v=s:=by unfold d_ at h;have:=EC h;exact this
def fA(w:List UInt8):Prop:=∀ b∈w,b≠32
def YA{w:List UInt8}(h:ye w):fA w:=fun b a=>(h b a).1
def Zk{w r:List UInt8}(h:fA w):(w++32::r).takeWhile (· !=32)=w/\(w++32::r).drop (w.length+1)=r:=by
 constructor
 ·induction w with
  | nil=>simp
  | cons a w c =>
   have:=h a ir;simp only[aam];rw[aaL (by simpa using this),c fun b d=>h b (by simp[d])]
 ·rw[<-List.drop_drop];simp
def zp5{w:List UInt8}(h:fA w):w.takeWhile (· !=32)=w:=by
 induction w with
 | nil=>rfl
 | cons a w c =>
  rw[aaL (by simpa using h a ir),c fun b d=>h b (by simp[d])]
def zuB{w v r q:List UInt8}(c:fA w)(d:fA v)(h:w++32::r=v++32::q):w=v/\r=q:=by have a:=Zk (r:=r) c;have b:=Zk (r:=q) d;rw[h] at a;have e:w=v:=a.1.symm.trans b.1;subst e;exact⟨rfl,a.2.symm.trans b.2⟩
def Rm:∀{a b:List (List UInt8)},a≠[]->b≠[]->(∀ w∈a,fA w)->(∀ w∈b,fA w)->aK a=aK b->a=b
 | [],_,h,_,_,_,_=>absurd rfl h
 | _,[],_,h,_,_,_=>absurd rfl h
 | [w],[v],_,_,_,_,h=>by simp only[aK] at h;rw[h]
 | [w],v::y::b,_,_,c,_,h=>by
  rw[Aq v ir] at h;simp only[aK] at h
  exact absurd rfl (c w ir 32 (by rw[h];simp))
 | w::x::a,[v],_,_,_,d,h=>by
  rw[Aq w ir] at h;simp only[aK] at h
  exact absurd rfl (d v ir 32 (by rw[<-h];simp))
 | w::x::a,v::y::b,_,_,c,d,h=>by
  rw[Aq w ir,Aq v ir] at h;have:=zuB (c w ir) (d v ir) h;rw[this.1,Rm ir ir (fun z e=>c z (by simp[e])) (fun z e=>d z (by simp[e])) this.2]
def Cd.cZ(c:Cd):Prop:=c.right=true/\c.ok
def zC2{a b:Int}(c:0<=a/\a<=5)(d:0<=b/\b<=5)(h:aal (48+a.toNat)=aal (48+b.toNat)):a=b:=by have:=congrArg abS h;simp only[aa4] at this;omega
def zAW{a b:Int}(e:0<=a/\a<=5)(f:0<=b/\b<=5)(h:gX a=gX b):a=b:=by
 have c:a=0\/a=1\/a=2\/a=3\/a=4\/a=5:=an
 have d:b=0\/b=1\/b=2\/b=3\/b=4\/b=5:=an
 rcases c with rfl|rfl|rfl|rfl|rfl|rfl<;>rcases d with rfl|rfl|rfl|rfl|rfl|rfl<;>first|rfl|(exfalso;revert h;decide)
def zp6{c d:Cd}(l:c.cZ)(hd:d.cZ)(h:jS c=jS d):c=d:=by obtain⟨a,e⟩:=l;obtain⟨b,f⟩:=hd;simp only[Cd.right,decide_eq_true_eq] at a b;simp only[jS,aaT.injEq,and_true] at h;have g:=zC2 ⟨a.1,a.2.1⟩ ⟨b.1,b.2.1⟩ h.1.2;have i:=Hr e.1 f.1 h.2.1;have j:=zAW ⟨a.2.2.1,a.2.2.2⟩ ⟨b.2.2.1,b.2.2.2⟩ h.2.2.1;have k:=Hr e.2 f.2 h.2.2.2;cases c;cases d;simp only at g i j k;subst g;subst i;subst j;subst k;rfl
def Rn{c:Cd}(h:c.cZ):∀ w∈jS c,fA w:=fun w a=>YA (YB h.1 h.2 w a)
noncomputable def dx(s:List UInt8):Option Cd:=wM fun c=>c.cZ/\aK (jS c)=s
def zyS{c d:Cd}(a:c.cZ)(hd:d.cZ)(h:aK (jS c)=aK (jS d)):c=d :=
 zp6 a hd (Rm (by simp[jS]) (by simp[jS]) (Rn a) (Rn hd) h)
def YD{c:Cd}(h:c.cZ):dx (aK (jS c))=some c:=Jy ⟨h,rfl⟩ fun y a=>zyS a.1 h a.2
def Nk{s:List UInt8}{c:Cd}(h:dx s=some c):c.cZ/\aK (jS c)=s:=by unfold dx at h;have:=EC h;exact this
open Go Go.RowKit
variable {G:aN}
def GG{t:List UInt8}{i:Nat}{b:UInt8}(h:t[i]?=some b)(a:b.toNat<128):Utf8.decode ⟨t.toArray⟩ i=(b.toNat,1):=by
 obtain⟨hi,c⟩:=aab.1 h
 have d:(ByteArray.get! ⟨t.toArray⟩ (i+0))=b:=by simp[ByteArray.get!,hi,c]
 unfold Utf8.decode;simp only[d,a,if_true]
def zAX{d:Nat}(h:d<16):((jz d).toNat=48)=(d=0):=by
 have:∀ d<16,((jz d).toNat=48)=(d=0):=by decide
 exact this d h
def zyT{d:Nat}(h:d<10):(jz d).toNat=48+d:=by
 have:∀ d<10,(jz d).toNat=48+d:=by decide
 exact this d h
def zyU{d:Nat}(h:d<16)(a:10<=d):(jz d).toNat=87+d:=by
 have:∀ d<16,10<=d->(jz d).toNat=87+d:=by decide
 exact this d h a
def zIu{a:Nat}(h:a*16<18446744073709551616):iH .u64 (a:Int) 4=((a*16:Nat):Int):=by unfold iH;rw[show min (4:Int).toNat IntKind.u64.bits=4 from rfl,show((a:Int)*2^4)=((a*16:Nat):Int) by rw[aa0];rfl];exact IntWalk.u64_in _ ⟨an,an⟩
def Zl{a d:Nat}(h:a*16<18446744073709551616)(hd:d<16):tj .u64 ((a*16:Nat):Int) (d:Int)=((16*a+d:Nat):Int):=by unfold tj;rw[qq,qq,BitVec.toNat_or,abd,abd];simp only[IntKind.bits];have b:d<2^4:=hd;rw[abk (show a*16<2^64 from h),abk (show d<2^64 by omega),show a*16=2^4*a by omega,<-Nat.two_pow_add_eq_or_of_lt b];exact IntWalk.u64_in _ ⟨an,an⟩
def zyV[cK G](ds:List Nat)(hd:∀ d∈ds,d<16)(I:1<=ds.length)(D0:ds.length<=16)(J:ds.head?=some 0->ds.length=1):FP G 144 [.str ([48,120]++ds.map jz)] (.bc [.int .u64 (gA ds:Nat),.int .i64 0]):=by
 refine bF cK.afw (aaa rfl) ?_;obtain⟨N,n⟩:∃ N,N=ds.length:=⟨_,rfl⟩;obtain⟨T,f⟩:∃ T:List UInt8,T=[48,120]++ds.map jz:=⟨_,rfl⟩
 have K:T.length=N+2:=by rw[f];simp;omega
 have L:T.take 2=[48,120]:=by rw[f];rfl
 have w:T.drop 2=ds.map jz:=by rw[f];rfl
 have M:∀ x,ds.head?=some x->T[2]?=some (jz x):=by
  intro x c
  cases ds with
  | nil=>simp at c
  | cons a l=>simp at c;subst c;rw[f];rfl
 obtain⟨x,c⟩:∃ x,ds.head?=some x:=by
  cases ds with
  | nil=>simp at I
  | cons a l=>exact⟨a,rfl⟩
 have O:x<16:=hd x (List.mem_of_head? c);have z:=zAX O;obtain⟨y,k⟩:∃ y,y=jz x:=⟨_,rfl⟩
 have o:T[2]?=some y:=by rw[k];exact M x c
 have P:=(aab.1 o).2;rw[<-k] at z;rw[<-f];have Q:(((N:Int)+2)<3)=False:=eq_false an;have R:(18<(N:Int)+2)=False:=eq_false an;have S:((2:Int)<=(N:Int)+2)=True:=eq_true an;have c4:(2<N+2)=True:=eq_true an
 have c5:(3<(N:Int)+2)=(N≠1):=by rw[eq_iff_iff];omega
 have U:((y.toNat:Int)==48)=decide (x=0):=by
  have:((y.toNat:Int)=48)=(x=0):=by rw[<-z,eq_iff_iff];omega
  rw[abK];simp[this]
 have g:x=0->N=1:=fun h=>by rw[n];exact J (by rw[c,h])
 have A:∀ i,i<N->∃ d,ds[i]?=some d/\d<16/\(ds.map jz)[i]?=some (jz d):=by
  intro i hi
  have e:i<ds.length:=an
  exact⟨ds[i],aac e,hd _ (aaA e),by simp[aac e]⟩
 obtain⟨b,j⟩:∃ b:Nat->Nat,∀ i,b i=gA (ds.take i):=⟨_,fun _=>rfl⟩
 have V:b N=gA ds:=by rw[j,n,aaz]
 have W:b 0=0:=by rw[j];rfl
 obtain⟨D,B⟩:∃ D,D=ds.map jz:=⟨_,rfl⟩
 have I6:D.length=N:=by rw[B,n];simp
 rw[<-B] at w A
 by_cases C:x=0<;>simp(disch:=omega)[K,L,w,P,Q,R,S,U,C,g]
 all_goals
  refine aP N (fun i=>[(4,.int .u64 (b i:Nat)),(32,.ptr 0 0)]) (fun i=>[some (.dg D i)]) (fun _=>True) ?_ ?_
  ·simp[aq,ai,W];exact aak (by first|omega|(have:=g C;omega))
  intro i hi _
  by_cases e:i<N
  ·obtain⟨d,X,p,Y⟩:=A i e;have E:=GG Y (zrT d p).2.2
   have m:i<D.length:=an
   have Z:b (i+1)=16*b i+d:=by rw[j,j,aau,X];exact En _ _
   have F:b i*16<18446744073709551616:=by
    have:=Yo i (ds.take i) (by rw[aav];omega) (fun y k=>hd y (aaN k));rw[<-j] at this;have h2:16^i<=16^15:=abt (by decide) an
    have h3:(16:Nat)^15=1152921504606846976:=by decide
    omega
   have H:=zIu F;have q:=Zl F p;rw[<-Z] at q
   by_cases Zo:d<10
   ·have r:=zyT Zo;have s:((48:Int)<=((48+d:Nat):Int))=True:=eq_true an;have t:(((48+d:Nat):Int)<=57)=True:=eq_true an
    have u:cM .i32 ((48+d:Nat):Int) 48=(d:Int):=by unfold cM;rw[show((48+d:Nat):Int)-48=(d:Int) by omega];exact IntWalk.i32_in _ ⟨an,an⟩
    have v:fB .u64 (d:Int)=(d:Int):=IntWalk.u64_in _ ⟨an,an⟩;simp(disch:=omega)[m,E,r,s,t,u,v,H,q,aq,ai,e,-aah,-aa0]
   ·have r:=zyU p an;have s:((48:Int)<=((87+d:Nat):Int))=True:=eq_true an;have t:(((87+d:Nat):Int)<=57)=False:=eq_false an;have b5:((97:Int)<=((87+d:Nat):Int))=True:=eq_true an;have b6:(((87+d:Nat):Int)<=102)=True:=eq_true an
    have u:cM .i32 ((87+d:Nat):Int) 97=((d-10:Nat):Int):=by unfold cM;rw[show((87+d:Nat):Int)-97=((d-10:Nat):Int) by omega];exact IntWalk.i32_in _ ⟨an,an⟩
    have b7:aD .i32 ((d-10:Nat):Int) 10=(d:Int):=by unfold aD;rw[show((d-10:Nat):Int)+10=(d:Int) by omega];exact IntWalk.i32_in _ ⟨an,an⟩
    have v:fB .u64 (d:Int)=(d:Int):=IntWalk.u64_in _ ⟨an,an⟩;simp(disch:=omega)[m,E,r,s,t,u,v,b5,b6,b7,H,q,aq,ai,e,-aah,-aa0]
  ·have:i=N:=an
   subst this
   have m:¬i<D.length:=an
   simp(disch:=omega)[m,V]
def zyW[cK G](n:Nat)(a:n<18446744073709551616):FP G 144 [.str (bg n)] (.bc [.int .u64 n,.int .i64 0]):=by obtain⟨ds,b,c,d,e,f,g⟩:=Ha n a;have:=zyV (G:=G) ds c e f g;rwa[<-b,d] at this
def zvH{t:List UInt8}{i:Nat}{b:UInt8}(h:t[i]?=some b)(u:¬b.toNat<128):∃ r n,Utf8.decode ⟨t.toArray⟩ i=(r,n)/\128<=r/\1<=n/\i+n<=t.length/\∀ j,0<j->j<n->∀ c,t[i+j]?=some c->128<=c.toNat:=by
 obtain⟨hi,v⟩:=aab.1 h
 have p:∀ k,k<t.length->ByteArray.get! ⟨t.toArray⟩ k=t[k]!:=fun k f=>by simp[ByteArray.get!,f]
 have w:(ByteArray.mk t.toArray).size=t.length:=by simp[ByteArray.size]
 have x:ByteArray.get! ⟨t.toArray⟩ (i+0)=b:=by rw[abz,p i hi];simp[hi,v]
 have y:∀ k c,t[i+k]?=some c->ByteArray.get! ⟨t.toArray⟩ (i+k)=c:=fun k c f=>by
  obtain⟨a,g⟩:=aab.1 f;rw[p _ a];simp[a,g]
 have l:∀ k,(decide (i+k<(ByteArray.mk t.toArray).size)&&(ByteArray.get! ⟨t.toArray⟩ (i+k)).toNat/64==2)=true->i+k<t.length/\∀ c,t[i+k]?=some c->128<=c.toNat:=by intro k f;simp only[aae,decide_eq_true_eq,beq_iff_eq,w] at f;refine⟨f.1,fun c d=>?_⟩;rw[y k c d] at f;omega
 have z:Utf8.runeError=65533:=rfl;unfold Utf8.decode;simp only[x];rw[if_neg u]
 have e:∃ r n,(Utf8.runeError,1)=(r,n)/\128<=r/\1<=n/\i+n<=t.length/\∀ j,0<j->j<n->∀ c,t[i+j]?=some c->128<=c.toNat :=
  ⟨_,_,rfl,by rw[z];omega,aaj _,hi,fun j a g=>by omega⟩
 split
 ·rename_i a;simp only[aae] at a;have m:=l 1 (by simpa using a.2);split
  ·rename_i g;exact⟨_,_,rfl,an,an,an,fun j q s c d=>by have:j=1:=an;subst this;exact m.2 c d⟩
  ·exact e
 ·split
  ·rename_i a;simp only[aae] at a;have m:=l 1 (by simpa using a.1.2);have o:=l 2 (by simpa using a.2);split
   ·rename_i g;simp only[aae,decide_eq_true_eq] at g
    exact⟨_,_,rfl,an,an,an,fun j q s c d=>by
     have:j=1\/j=2:=an
     rcases this with rfl|rfl
     ·exact m.2 c d
     ·exact o.2 c d⟩
   ·exact e
  ·split
   ·rename_i a;simp only[aae] at a;have m:=l 1 (by simpa using a.1.1.2);have o:=l 2 (by simpa using a.1.2);have A:=l 3 (by simpa using a.2);split
    ·rename_i g;simp only[aae,decide_eq_true_eq] at g
     exact⟨_,_,rfl,an,an,an,fun j q s c d=>by
      have:j=1\/j=2\/j=3:=an
      rcases this with rfl|rfl|rfl
      ·exact m.2 c d
      ·exact o.2 c d
      ·exact A.2 c d⟩
    ·exact e
   ·exact e
def Ww{t:List UInt8}{m:UInt8}(q:m.toNat<128){i k:Nat}(c:i<k)(s:k<=t.length)(d:∀ j,i<=j->j<k->t[j]?≠some m)(f:k<t.length->t[k]?=some m) :
  ∃ r n,Utf8.decode ⟨t.toArray⟩ i=(r,n)/\r≠m.toNat/\1<=n/\i+n<=k:=by
 obtain⟨b,a⟩:∃ b,t[i]?=some b:=⟨_,aac an⟩
 by_cases h:b.toNat<128
 ·refine⟨_,_,GG a h,fun e=>d i (aaj _) c ?_,aaj _,c⟩;rw[a,aa2.1 e]
 ·obtain⟨r,n,g,u,l,v,o⟩:=zvH a h;refine⟨r,n,g,an,l,?_⟩
  rcases abA k (i+n) with w|p
  ·have:=o (k-i) an an m (by rw[show i+(k-i)=k by omega];exact f an);omega
  ·exact p
def Ro[cK G](s:List UInt8)(X:s.length<4611686018427387904):FP G 144 [.str s] (.bc [.int .u64 ((di s).getD 0:Nat),.int .i64 (if di s=none then 2 else 0)]):=by
 cases I:di s with
 | some n =>
  obtain⟨O,t⟩:=yC I;rw[<-t]
  exact zyW n O
 | none =>
  refine bF cK.afw (aaa rfl) ?_;simp only[Option.getD_none,if_true]
  by_cases e:(s.length:Int)<3
  ·simp[e]
  by_cases l:18<(s.length:Int)
  ·simp[e,l]
  have u:((2:Int)<=(s.length:Int))=True:=eq_true an;have J:(2<s.length)=True:=eq_true an
  by_cases g:s.take 2=[48,120]
  ·obtain⟨y,P⟩:∃ y,y=s[2]'(by omega):=⟨_,rfl⟩
   have K:s[2]?=some y:=by rw[aac an,P]
   have L:=(aab.1 K).2
   by_cases m:((y.toNat:Int)==48)=true/\3<(s.length:Int)
   ·simp(disch:=omega)[e,l,u,J,g,L,m.1,m.2]
   ·obtain⟨Q,R,T⟩:=zAV I an an g (fun h=>by
     rw[K] at h;cases h;apply Classical.byContradiction;intro Y
     exact m ⟨rfl,an⟩)
    obtain⟨p,b,p1,p2,p3⟩:=zrV (f:=fun b=>(CU b).isSome) ⟨Q,R,T⟩;obtain⟨D,x⟩:∃ D,D=s.drop 2:=⟨_,rfl⟩
    have Z:D.length=s.length-2:=by rw[x];simp
    rw[<-x] at p1 p3;have ma:p<D.length:=(aab.1 p1).1;have z:D.take (s.length-2)=D:=aak an;obtain⟨w,U,A⟩:∃ w,((y.toNat:Int)==48)=w/\(w=true->(3<(s.length:Int))=False):=⟨_,rfl,fun h=>eq_false fun t=>m ⟨h,t⟩⟩;cases w
    all_goals
     try replace A:=A rfl
     simp(disch:=omega)[e,l,u,J,g,L,U,A,<-x,z];refine uW (S:=Nat×Int) (fun q=>p+1-q.1) (fun q=>[(4,.int .u64 q.2),(32,.ptr 0 0)]) (fun q=>[some (.dg D q.1)]) (fun q=>q.1<=p) (0,0) ?_ ?_
     ·simp[aq,ai]
     rintro⟨i,v⟩ hi;simp only at hi |-
     have B:i<D.length:=an
     rcases abe hi with V|W
     ·subst V
      have a:∃ r n,Utf8.decode ⟨D.toArray⟩ i=(r,n)/\¬(48<=r/\r<=57)/\¬(97<=r/\r<=102):=by
       by_cases M:b.toNat<128
       ·refine⟨_,_,GG p1 M,?_⟩;unfold CU at p2;split at p2
        ·cases p2
        ·split at p2
         ·cases p2
         ·exact⟨by assumption,by assumption⟩
       ·obtain⟨r,n,C,N,_⟩:=zvH p1 M;exact⟨r,n,C,an,an⟩
      obtain⟨r,n,o,r1,r2⟩:=a
      by_cases j:(48:Int)<=(r:Int)<;>by_cases k:(r:Int)<=57<;>by_cases E:(97:Int)<=(r:Int)<;>by_cases F:(r:Int)<=102<;>first
       | (exfalso;omega)
       | (simp[B,o,j,k,E,F,aq,ai];done)
     ·obtain⟨c,C,N⟩:=p3 i W;obtain⟨d,hd⟩:=aas.1 N
      have a:c.toNat<128/\(48<=c.toNat/\c.toNat<=57\/97<=c.toNat/\c.toNat<=102):=by
       unfold CU at hd;split at hd
       ·exact⟨an,.inl (by assumption)⟩
       ·split at hd
        ·exact⟨an,.inr (by assumption)⟩
        ·cases hd
      have o:=GG C a.1
      rcases a.2 with a|a
      ·have j:((48:Int)<=(c.toNat:Int))=True:=eq_true an;have k:((c.toNat:Int)<=57)=True:=eq_true an;simp[B,o,j,k,aq,ai];exact⟨(i+1,tj .u64 (iH .u64 v 4) (fB .u64 (cM .i32 (c.toNat:Int) 48))),by simp only;omega,by simp only;omega,by simp[aq],by simp[ai]⟩
      ·have j:((48:Int)<=(c.toNat:Int))=True:=eq_true an;have k:((c.toNat:Int)<=57)=False:=eq_false an;have E:((97:Int)<=(c.toNat:Int))=True:=eq_true an;have F:((c.toNat:Int)<=102)=True:=eq_true an;simp[B,o,j,k,E,F,aq,ai];exact⟨(i+1,tj .u64 (iH .u64 v 4) (fB .u64 (aD .i32 (cM .i32 (c.toNat:Int) 97) 10))),by simp only;omega,by simp only;omega,by simp[aq],by simp[ai]⟩
  ·have H:(s.take 2==[48,120])=false:=by simpa using g
   simp[e,l,u,g,H]
def ux(M:List (List UInt8×Int)):List (V×V):=M.map fun p=>(.str p.1,.int .u32 p.2)
def Zq{s:List UInt8}:∀{M:List (List UInt8×Int)} (i:Nat),M.find? (fun p=>p.1==s)=none->js (.sc .str) (.str s) (ux M) i=some none
 | [],i,_=>rfl
 | p::M,i,h=>by
  rw[abB] at h
  have b:(s==p.1)=false:=by have:=h p ir;simp only[beq_iff_eq] at this;simpa using fun e=>this e.symm
  have a:=Zq (M:=M) (i+1) (by rw[abB];exact fun q c=>h q (by simp[c]));simp only[ux] at a;simp only[ux,aax,js,jr,oV,b,a]
def Zr{s:List UInt8}{v:Int}:∀{M:List (List UInt8×Int)} (i:Nat),M.find? (fun p=>p.1==s)=some (s,v)->∃ j,js (.sc .str) (.str s) (ux M) i=some (some (j,.int .u32 v))
 | [],i,h=>by simp at h
 | p::M,i,h=>by
  by_cases e:p.1=s
  ·rw[List.find?_cons_of_pos (by simpa using e)] at h;cases h;exact⟨i,by simp[ux,js,jr,oV]⟩
  ·rw[aa6 (by simpa using e)] at h;obtain⟨j,a⟩:=Zr (i+1) h
   have b:(s==p.1)=false:=by simpa using fun e'=>e e'.symm
   simp only[ux] at a;exact⟨j,by simp only[ux,aax,js,jr,oV,b,a]⟩
def mH(M:List (List UInt8×Int)):ae:=[some (.map (ux M))]
def zAY[bM G]{M:List (List UInt8×Int)}(a:gI M)(v:Nat):bp G (.F 393 [.mp 0,.int .u32 v] (mH M) (.str (nK M v)) (mH M)) :=
 .nat bM.ad6 rfl ⟨rfl,M,rfl,a.dc,rfl⟩
def zAZ[bM G](v:Nat):bp G (.F 393 [.nilm,.int .u32 v] [] (.str []) []) :=
 .nat bM.ad6 rfl ⟨rfl,rfl⟩
def Rp(M:List (List UInt8×Int)):ai 1 [some (.map (ux M))]=[some (.map (ux M))]:=by simp[ai,aw.cl,ux,abf,V.cl]
def zuC[cN G]:bp G (.F 449 [] [] (.mp 0) (mH oi)):=by refine eB cN.aeG (aaa rfl) ?_;simp[mH,ux,oi]
def zA0[cN G](a:Nat){M:List (List UInt8×Int)}(h:Es a=some M):bp G (.F 450 [.int .u32 a] [] (.mp 0) (mH M)):=by
 refine eB cN.aeH (aaa rfl) ?_;unfold Es at h;split at h
 ·rename_i b;cases h;simp[b,mH,ux,Bb,Bc,Eo,Bd,Be,Ep,Bf,Er]
 ·split at h
  ·rename_i b c;cases h;simp[c,mH,ux,Bb,Bc,Eo,Bd,Be,Ep,Bf,Er]
  ·split at h
   ·rename_i b c d;cases h;simp[d,mH,ux,Bb,Bc,Bd,Be,Bf,Er]
   ·split at h
    ·rename_i b c d e;cases h;simp[e,mH,ux,Bb,Bc,Eo,Bd,Be,Ep,Bf]
    ·cases h
def zyX[cN G](a:Nat)(h:Es a=none):bp G (.F 450 [.int .u32 a] [] .nilm []):=by
 refine eB cN.aeH (aaa rfl) ?_;unfold Es at h;split at h
 ·cases h
 ·split at h
  ·cases h
  ·split at h
   ·cases h
   ·split at h
    ·cases h
    ·rename_i f g i j
     have b:((a:Int)==3221225534)=false:=by simp;omega
     have c:((a:Int)==1073741827)=false:=by simp;omega
     have d:((a:Int)==3221225655)=false:=by simp;omega
     have e:((a:Int)==1073741864)=false:=by simp;omega
     simp[b,c,d,e]
def jk(k:IntKind)(o:Option Nat):V:=.bc [.int k ((o.getD 0:Nat):Int),.int .i64 (if o=none then 2 else 0)]
def Zs[cK G][bM G][cN G]{M:List (List UInt8×Int)}(k:gI M)(s:List UInt8)(q:s.length<4611686018427387904)(m:V)(H:ae)
  (c:m=.mp 0/\H=mH M\/m=.nilm/\H=[]/\M=[]):bp G (.F 452 [m,.str s] H (jk .u32 (mZ M s)) H):=by
 refine eB cN.aeI (aaa rfl) ?_;have d:=Ro (G:=G) s q
 cases b:M.find? (fun p=>p.1==s) with
 | some p =>
  rcases c with⟨rfl,rfl⟩|⟨_,_,rfl⟩
  ·rw[Yr b] at b;obtain⟨v,r,a⟩:=zrX k b;obtain⟨j,f⟩:=Zr 0 b;simp[mH,f,a,r,jk]
  ·simp at b
 | none =>
  have f:=Zq 0 b;have a:=zrY k b
  cases l:di s with
  | none =>
   rw[l] at d a;simp only at a;rw[a]
   rcases c with⟨rfl,rfl⟩|⟨rfl,rfl,rfl⟩ <;>
   ·simp[mH,f];refine ax d ?_
    simp[jk,Rp]
  | some n =>
   have x:=(yC l).1;rw[l] at d a;simp only at a;rw[a];have o:jh .u64 (n:Int) 32=((n/4294967296:Nat):Int):=shU (n:=n) (e:=32) (by decide)
   by_cases g:n<4294967296
   ·have i:fB .u32 (n:Int)=(n:Int):=IntWalk.u32_in _ ⟨an,an⟩;rw[abI g] at o
    have w:bp G (.F 393 [m,.int .u32 n] H (.str (nK M n)) H):=by
     rcases c with⟨rfl,rfl⟩|⟨rfl,rfl,rfl⟩
     ·exact zAY k n
     ·exact zAZ n
    rcases c with⟨rfl,rfl⟩|⟨rfl,rfl,rfl⟩
    all_goals
     try simp only[mH] at w |-
     simp[f];refine ax d ?_;simp[o,i];refine xG w ?_
    ·by_cases h:nK M n=[]
     ·simp[h,g,i,jk,Rp]
     ·have t:(nK M n).isEmpty=false:=by simpa using h
      simp[h,t,g,i,jk,Rp]
    ·have h:nK [] n=[]:=rfl;simp[h,g,i,jk]
   ·have u:4294967296<=n:=an
    rcases c with⟨rfl,rfl⟩|⟨rfl,rfl,rfl⟩ <;>
    ·simp[mH,f,g];refine ax d ?_;simp[o,u,jk,Rp,-aaY]
def zp7[cK G][bM G][cN G](s:List UInt8)(c:s.length<4611686018427387904):FP G 454 [.str s] (jk .u32 (mZ oi s)):=by refine bF cN.aeJ (aaa rfl) ?_;have a:=zuC (G:=G);have b:=Zs (G:=G) CN s c _ _ (.inl ⟨rfl,rfl⟩);simp only[mH,jk] at a b |-;simp;refine s7 a ir ?_;simp;refine xG b ?_;simp
def ztZ[cK G][bM G][cN G](a:Nat)(s:List UInt8)(f:s.length<4611686018427387904):FP G 456 [.int .u32 a,.str s] (jk .u32 (mZ (m9 a) s)):=by
 refine bF cN.aeK (aaa rfl) ?_;have g:=CO a
 cases c:Es a with
 | none =>
  have e:m9 a=[]:=by simp[m9,c]
  have d:=zyX (G:=G) a c;have b:=Zs (G:=G) g s f _ _ (.inr ⟨rfl,rfl,e⟩);simp only[jk] at b |-;simp;refine s7 d ir ?_;simp;refine xG b ?_
  simp
 | some M =>
  have e:m9 a=M:=by simp[m9,c]
  have d:=zA0 (G:=G) a c;have b:=Zs (G:=G) g s f _ _ (.inl ⟨rfl,rfl⟩);rw[e] at b |-;simp only[mH,jk] at d b |-;simp;refine s7 d ir ?_;simp;refine xG b ?_;simp
def zA1{s:List UInt8}{k:Int}(h:qS.find? (fun p=>p.1==s)=some (s,k)):∃ v:Nat,k=v/\d_ s=some v:=by
 have a:=aaP h
 have c:∀ p∈qS,p.2=0\/p.2=196608\/p.2=2147221504\/p.2=2147418112:=by decide
 have d:=c _ a;have b:=(Hq.cQ _ a).2.1;simp only at d b;obtain⟨v,rfl⟩:∃ v:Nat,k=v:=⟨k.toNat,an⟩;have e:Ap v=s:=zrW Hq a
 have f:dE v=true:=by simp only[dE,decide_eq_true_eq];omega
 have g:gW v=s:=by unfold gW;rw[e,if_neg b]
 exact⟨v,rfl,by rw[<-g];exact D_ f⟩
def Rq{s:List UInt8}(h:qS.find? (fun p=>p.1==s)=none){v:Nat}(c:dE v=true)(b:gW v=s):∃ k,v=327680+k/\k<=4095/\s=jH++bg k:=by
 by_cases a:Ap v=[]
 ·have e:v≠0/\v≠196608/\v≠2147221504/\v≠2147418112:=by refine⟨?_,?_,?_,?_⟩<;>(rintro rfl;revert a;decide)
  simp only[dE,decide_eq_true_eq] at c;exact⟨v-327680,an,an,by rw[<-b];exact if_pos a⟩
 ·have:=Jx Hq.keys (yf (v:=v) a)
  have d:nK qS v=s:=by rw[<-b];exact(if_neg a).symm
  rw[d,h] at this;cases this
def Yg{k:Nat}(h:k<=4095):d_ (jH++bg k)=some (327680+k):=by
 have a:dE (327680+k)=true:=by simp only[dE,decide_eq_true_eq];omega
 have b:Ap (327680+k)=[]:=by
  apply Classical.byContradiction;intro c
  have d:∀ p∈qS,p.2=0\/p.2=196608\/p.2=2147221504\/p.2=2147418112:=by decide
  have:=d _ (yf (v:=327680+k) c);simp only at this;omega
 have e:gW (327680+k)=jH++bg k:=by rw[gW,if_pos b,show 327680+k-327680=k by omega]
 rw[<-e];exact D_ a
def zlb[cK G][bM G][cN G](s:List UInt8)(B:s.length<4611686018427387904):FP G 457 [.str s] (jk .u32 (d_ s)):=by
 refine bF cN.aeL (aaa rfl) ?_;have w:=Rj (G:=G);have r:(qS.map fun p:List UInt8×Int=>((V.str p.1,V.int .u32 p.2):V×V))=ux qS:=rfl;rw[r] at w
 cases c:qS.find? (fun p=>p.1==s) with
 | some p =>
  rw[Yr c] at c;obtain⟨v,t,a⟩:=zA1 c;obtain⟨j,e⟩:=Zr 0 c;simp;refine s7 w ir ?_
  simp[e,a,t,jk]
 | none =>
  have e:=Zq 0 c
  by_cases f:(s.length:Int)<6
  ·have a:d_ s=none:=D9 fun v b=>by
    obtain⟨k,_,_,g⟩:=Rq c b.1 b.2;rw[g] at f;simp[jH] at f;omega
   simp;refine s7 w ir ?_;simp[e,f,a,jk]
  have i:((6:Int)<=(s.length:Int))=True:=eq_true an
  by_cases d:s.take 6=[101,114,114,111,114,58]
  ·have h:=Ro (G:=G) (s.drop 6) (by simp;omega)
   have u:s=jH++s.drop 6:=by rw[show jH=s.take 6 from d.symm,aa9]
   have m:(s.drop 6).take (s.length-6)=s.drop 6:=aak ir
   cases l:di (s.drop 6) with
   | none =>
    have a:d_ s=none:=D9 fun v b=>by
     obtain⟨k,_,o,g⟩:=Rq c b.1 b.2;refine Nc l k ⟨an,?_⟩;rw[g];simp[jH]
    rw[l] at h;simp;refine s7 w ir ?_;simp[e,f,i,d,m,aq];refine ax h ?_
    simp[a,jk]
   | some n =>
    obtain⟨_,o⟩:=yC l;rw[l] at h
    by_cases x:n<=4095
    ·have a:d_ s=some (327680+n):=by rw[u,<-o];exact Yg x
     have q:(4095<(n:Int))=False:=eq_false an;have y:fB .u32 (n:Int)=(n:Int):=IntWalk.u32_in _ ⟨an,an⟩
     have z:aD .u32 327680 (n:Int)=((327680+n:Nat):Int):=by unfold aD;rw[show(327680:Int)+(n:Int)=((327680+n:Nat):Int) by omega];exact IntWalk.u32_in _ ⟨an,an⟩
     simp;refine s7 w ir ?_;simp[e,f,i,d,m,aq];refine ax h ?_;simp[a,jk,q,y,z,-aah]
    ·have a:d_ s=none:=D9 fun v b=>by
      obtain⟨k,_,C,g⟩:=Rq c b.1 b.2
      have:bg n=bg k:=by rw[o,g];simp[jH]
      have:=Hr an an this;omega
     have q:(4095<(n:Int))=True:=eq_true an;simp;refine s7 w ir ?_;simp[e,f,i,d,m,aq];refine ax h ?_;simp[a,jk,q]
  ·have A:(s.take 6==[101,114,114,111,114,58])=false:=by simpa using d
   have a:d_ s=none:=D9 fun v b=>by
    obtain⟨k,_,_,g⟩:=Rq c b.1 b.2;rw[g] at d;exact d rfl
   simp;refine s7 w ir ?_;simp[e,f,i,d,A,a,jk]
def G_{a b:Nat}(h:a≠b):((a:Int)==(b:Int))=false:=by simp;omega
def zA2(c:Int):(gX c).length=2:=by
 unfold gX
 repeat' split
 all_goals rfl
def Jr(c:Cd):List UInt8:=aK (jS c)
def zA3(c:Cd):Jr c=[97,aal (48+c.arg.toNat)]++32::(bg c.mask++32::(gX c.cmp++32::bg c.val)):=rfl
def zrZ(c:Cd):(Jr c).length<=43:=by have a:=G9 c.mask;have b:=G9 c.val;have d:=zA2 c.cmp;rw[zA3];simp;omega
def eX(m:UInt8)(s:List UInt8):List UInt8:=s.takeWhile (· !=m)
def gn(m:UInt8)(s:List UInt8):List UInt8:=s.drop ((eX m s).length+1)
def Cs(m:UInt8):∀ s,(eX m s).length<=s.length/\s.take (eX m s).length=eX m s/\(∀ j,j<(eX m s).length->s[j]?≠some m)/\((eX m s).length<s.length->s[(eX m s).length]?=some m)/\∀ b∈eX m s,b≠m
 | []=>⟨aaj _,rfl,fun j h=>absurd h (aaU _),fun h=>absurd h (aaU _),fun b h=>by simp[eX] at h⟩
 | a::s=>by
  obtain⟨c,d,e,f,g⟩:=Cs m s
  by_cases h:a=m
  ·subst h
   have:eX a (a::s)=[]:=by simp[eX]
   rw[this];exact⟨abp _,rfl,fun j h=>absurd h (aaU _),fun _=>rfl,fun b h=>by simp at h⟩
  ·have:eX m (a::s)=a::eX m s:=by unfold eX;rw[aaL (by simpa using h)]
   rw[this];refine⟨by simpa using c,by simp[d],?_,by simpa using f,?_⟩
   ·intro j i
    cases j with
    | zero=>simpa using h
    | succ j=>simpa using e j (by simpa using i)
   ·intro b hb
    rcases aaf.1 hb with rfl|hb
    ·exact h
    ·exact g b hb
def zyY{m:UInt8}{s:List UInt8}(h:(eX m s).length<s.length):s=eX m s++m::gn m s:=by
 obtain⟨e,a,f,b,g⟩:=Cs m s;have c:=b h;obtain⟨_,d⟩:=aab.1 c
 conv=>lhs;rw[<-aa9 (eX m s).length s,a,aaM h,d]
 rfl
def zC3{m:UInt8}{s:List UInt8}(h:¬(eX m s).length<s.length):eX m s=s/\gn m s=[]:=by
 obtain⟨b,a,_⟩:=Cs m s
 have:s.length<=(eX m s).length:=an
 exact⟨by rw[<-a];exact aak this,aaV an⟩
def Zu{m:UInt8}{s:List UInt8}(h:gn m s≠[]):s=eX m s++m::gn m s:=by
 by_cases a:(eX m s).length<s.length
 ·exact zyY a
 ·exact absurd (zC3 a).2 h
def Hi{w r:List UInt8}(h:fA w):eX 32 (w++32::r)=w/\gn 32 (w++32::r)=r:=by have:=Zk (r:=r) h;unfold gn;rw[show eX 32 (w++32::r)=w from this.1];exact⟨rfl,this.2⟩
def Zv(m:UInt8)(s:List UInt8):(gn m s).length<=s.length:=by unfold gn;simp
def Zw[fN G](s:List UInt8)(A:s.length<4611686018427387904):FP G 459 [.str s] (.bc [.str (eX 32 s),.str (gn 32 s)]):=by
 refine bF fN.aeM (aaa rfl) ?_;obtain⟨f,a,g,c,_⟩:=Cs 32 s;obtain⟨w,h⟩:∃ w,w=eX 32 s:=⟨_,rfl⟩;rw[<-h] at f a g c |-
 have k:gn 32 s=s.drop (w.length+1):=by rw[h];rfl
 rw[k];simp;refine uW (S:=Nat) (fun i=>s.length+1-i) (fun i=>[(0,.str s),(7,.ptr 0 0)]) (fun i=>[some (.dg s i)]) (fun i=>i<=w.length) 0 ?_ ?_
 ·simp[aq,ai]
 intro i hi
 by_cases l:i<w.length
 ·obtain⟨r,n,d,o,B,C⟩:=Ww (m:=32) (by decide) l f (fun j _ p=>g j p) c
  have q:i<s.length:=an
  have t:((r:Int)==32)=false:=G_ (b:=32) o;simp[q,d,t,aq,ai];exact⟨i+n,by simp only;omega,an,by simp[aq],by simp[ai]⟩
 ·have hi:i=w.length:=an
  subst hi
  by_cases e:w.length<s.length
  ·have d:=GG (c e) (by decide);have u:((w.length:Int)<=(s.length:Int))=True:=eq_true an
   have v:aD .i64 (w.length:Int) 1=((w.length+1:Nat):Int):=by rw[dW]<;>omega
   have x:(s.drop (w.length+1)).take (s.length-(w.length+1))=s.drop (w.length+1):=aak ir;have y:(((w.length+1:Nat):Int)<=(s.length:Int))=True:=eq_true an;simp[e,d,u,v,x,y,a,aq,ai,-aah]
  ·have hd:s.drop (w.length+1)=[]:=aaV an
   have z:w=s:=by rw[<-a];exact aak an
   simp[e,hd,z,aq,ai]
def uy(o:Option Cd):V:=.bc [.agg (o.getD ⟨0,0,0,0⟩).cs,.int .i64 (if o=none then 2 else 0)]
def zuD{s:List UInt8}{c:Cd}(a:c.cZ):aK (jS c)=s ↔
  eX 32 s=[97,aal (48+c.arg.toNat)]/\di (eX 32 (gn 32 s))=some c.mask/\eX 32 (gn 32 (gn 32 s))=gX c.cmp/\di (gn 32 (gn 32 (gn 32 s)))=some c.val:=by
 have w:=Rn a;simp only[jS,aaf,aat,or_false,forall_eq_or_imp,forall_eq] at w;obtain⟨k,l,n,_⟩:=w;constructor
 ·intro h;rw[show aK (jS c)=[97,aal (48+c.arg.toNat)]++32::(bg c.mask++32::(gX c.cmp++32::bg c.val)) from rfl] at h;have b:=Hi (r:=bg c.mask++32::(gX c.cmp++32::bg c.val)) k;have f:=Hi (r:=gX c.cmp++32::bg c.val) l;have g:=Hi (r:=bg c.val) n;rw[h] at b;rw[b.2,f.1,f.2,g.1,g.2];exact⟨b.1,QR a.2.1,rfl,QR a.2.2⟩
 ·rintro⟨o,p,q,t⟩;have i:=(yC t).2;have u:=(yC p).2;have d:=Zu (m:=32) (s:=gn 32 (gn 32 s)) (by rw[<-i];exact ztX _);have e:=Zu (m:=32) (s:=gn 32 s) (by rw[d];simp);have j:=Zu (m:=32) (s:=s) (by rw[e];simp);rw[<-i,q] at d;rw[<-u,d] at e;rw[o,e] at j;rw[j];rfl
def zt0{s:List UInt8}{c:Cd}(a:c.cZ)(h:aK (jS c)=s):dx s=some c:=by rw[<-h];exact YD a
def zt1(f:Nat->Bool):∀ n,∃ N,N<=n/\(∀ i,i<N->f i=false)/\(N<n->f N=true)
 | 0=>⟨0,aaj _,fun i h=>absurd h (aaU _),fun h=>absurd h (aaU _)⟩
 | n+1=>by
  obtain⟨N,d,a,c⟩:=zt1 f n
  rcases abA N n with h|h
  ·exact⟨N,an,a,fun _=>c h⟩
  ·have:N=n:=an
   subst this
   cases b:f N with
   | true=>exact⟨N,an,a,fun _=>b⟩
   | false=>exact⟨N+1,aaj _,fun i hi=>by rcases abA i N with h|h;exact a i h;rw[show i=N by omega,b],fun h=>absurd h (Nat.lt_irrefl _)⟩
def zr7[cK G][cU G][fN G](s:List UInt8)(T:s.length<4611686018427387904):FP G 460 [.str s] (uy (dx s)):=by
 refine bF fN.aeN (aaa rfl) ?_;have l1:=Zv 32 s;have l2:=Zv 32 (gn 32 s);have l3:=Zv 32 (gn 32 (gn 32 s));have l4:=(Cs 32 (gn 32 s)).1;have q1:=Zw (G:=G) s T;have o:=Zw (G:=G) (gn 32 s) an;have p:=Zw (G:=G) (gn 32 (gn 32 s)) an;have p1:=Ro (G:=G) (eX 32 (gn 32 s)) an;have p2:=Ro (G:=G) (gn 32 (gn 32 (gn 32 s))) an;have f:=fun c b=>zuD (s:=s) (c:=c) b
 generalize hA:eX 32 s=A at *;generalize hM:eX 32 (gn 32 s)=M at *;generalize hC:eX 32 (gn 32 (gn 32 s))=C at *;generalize hV:gn 32 (gn 32 (gn 32 s))=V3 at *;generalize gn 32 (gn 32 s)=R2 at *;generalize gn 32 s=R1 at *
 have r:(∀ c:Cd,c.cZ->¬(A=[97,aal (48+c.arg.toNat)]/\di M=some c.mask/\C=gX c.cmp/\di V3=some c.val))->dx s=none :=
  fun h=>D9 fun c b=>h c b.1 ((f c b.1).1 b.2)
 by_cases d:A.length=2
 ·obtain⟨x,y,rfl⟩:∃ x y,A=[x,y]:=by
   match A,d with
   | [x,y],_=>exact⟨x,y,rfl⟩
  by_cases t:x=97/\48<=y.toNat/\y.toNat<=53
  ·obtain⟨rfl,y1,y2⟩:=t;have U:((y.toNat:Int)<48)=False:=eq_false an;have W:(53<(y.toNat:Int))=False:=eq_false an
   have X:cM .u8 (y.toNat:Int) 48=((y.toNat-48:Nat):Int):=by unfold cM;rw[show(y.toNat:Int)-48=((y.toNat-48:Nat):Int) by omega];exact IntWalk.u8_in _ ⟨an,an⟩
   have Y:fB .i64 ((y.toNat-48:Nat):Int)=((y.toNat-48:Nat):Int):=IntWalk.i64_in _ ⟨an,an⟩
   have ya:∀ a:Int,0<=a->a<=5->y=aal (48+a.toNat)->a=((y.toNat-48:Nat):Int):=by intro a oY iR h;rw[h,aa4];omega
   have u:y=aal (48+(((y.toNat-48:Nat):Int)).toNat):=by apply aa2.1;rw[aa4];omega
   obtain⟨N,n1,I,J⟩:=zt1 (fun i=>(gX (i:Int)==C)&&(di M).isSome&&(di V3).isSome) 6
   have z:dx s=if N<6 then some ⟨((y.toNat-48:Nat):Int),N,(di M).getD 0,(di V3).getD 0⟩ else none:=by
    split
    ·rename_i j;have h:=J j;simp only[aae,beq_iff_eq] at h;obtain⟨m,B⟩:=aas.1 h.1.2;obtain⟨v,D⟩:=aas.1 h.2;rw[B,D];have K:(⟨((y.toNat-48:Nat):Int),N,m,v⟩:Cd).cZ:=⟨by simp only[Cd.right,decide_eq_true_eq];omega,(yC B).1,(yC D).1⟩;exact zt0 K ((f _ K).2 ⟨by simp only;rw[<-u],B,h.1.1.symm,D⟩)
    ·rename_i j
     refine r fun c b ⟨e,Z,g3,g4⟩=>?_
     have E:=b.1;simp only[Cd.right,decide_eq_true_eq] at E;have:=I c.cmp.toNat an;rw[show((c.cmp.toNat:Nat):Int)=c.cmp by omega,Z,g4,g3] at this;simp at this
   rw[z];simp;refine ax q1 ?_;simp;refine ax o ?_;simp;refine ax p ?_;simp[U,W];refine ax p1 ?_;simp;refine ax p2 ?_;simp;refine ax ztT ?_
   obtain⟨k,L⟩:∃ k:Int,k=if di M=none then 2 else 0:=⟨_,rfl⟩
   obtain⟨l,O⟩:∃ l:Int,l=if di V3=none then 2 else 0:=⟨_,rfl⟩
   have step:∀ w:List UInt8,((w==C)&&(di M).isSome&&(di V3).isSome)=false->(w==C)=false\/(w==C)=true/\(di M).isSome=false\/(w==C)=true/\(di M).isSome=true/\(di V3).isSome=false:=by intro w h;revert h;generalize(w==C)=p1;generalize(di M).isSome=p2;generalize(di V3).isSome=p3;revert p1 p2 p3;decide
   have P:(k==0)=(di M).isSome:=by rw[L];cases di M<;>rfl
   have Q:(l==0)=(di V3).isSome:=by rw[O];cases di V3<;>rfl
   rw[<-L,<-O];generalize(di M).getD 0=m at *;generalize(di V3).getD 0=v at *;generalize(di M).isSome=i1 at *;generalize(di V3).isSome=i2 at *;simp;refine aP N (fun i=>[(2,.ptr 0 0),(4,.str [97,y]),(7,.str C),(9,.int .u64 m),(10,.int .i64 k),(11,.int .u64 v),(12,.int .i64 l),(59,.agg Hn),(60,.int .i64 i)]) (fun _=>[some (.cells [.int .i64 0,.int .i64 0,.int .u64 0,.int .u64 0])]) (fun _=>True) ?_ ?_
   ·simp[aq,ai,aX,V.cl,Hn]
   intro i hi _
   rcases abe hi with R|S
   ·by_cases j:N<6
    ·have h:=J j;simp only[aae,beq_iff_eq] at h;obtain⟨⟨h,rfl⟩,rfl⟩:=h;subst R
     have:i=0\/i=1\/i=2\/i=3\/i=4\/i=5:=an
     rcases this with rfl|rfl|rfl|rfl|rfl|rfl<;>subst h<;>simp[gX,Hn,Cd.cs,X,Y,P,Q,uy]
    ·have:N=6:=an
     subst this;subst R;simp[uy,Cd.cs]
   ·have hp:=I i S
    have:i=0\/i=1\/i=2\/i=3\/i=4\/i=5:=an
    rcases this with rfl|rfl|rfl|rfl|rfl|rfl
    all_goals rcases step _ hp with h|⟨h,rfl⟩|⟨h,rfl,rfl⟩
    all_goals
     first
     | change (([101,113]:List UInt8)==C)=_ at h
     | change (([110,101]:List UInt8)==C)=_ at h
     | change (([108,116]:List UInt8)==C)=_ at h
     | change (([108,101]:List UInt8)==C)=_ at h
     | change (([103,116]:List UInt8)==C)=_ at h
     | change (([103,101]:List UInt8)==C)=_ at h
     simp[h,P,Q,Hn,aq,ai,show aD .i64 0 1=1 from rfl,show aD .i64 1 1=2 from rfl,show aD .i64 2 1=3 from rfl,show aD .i64 3 1=4 from rfl,show aD .i64 4 1=5 from rfl,show aD .i64 5 1=6 from rfl,aX,V.cl,S]
  ·have F:dx s=none:=r fun c b ⟨e,_⟩=>t (by
    have E:=b.1;simp only[Cd.right,decide_eq_true_eq] at E;simp only[aaT.injEq,and_true] at e;have:=congrArg abS e.2;rw[aa4] at this
    exact⟨e.1,an,an⟩)
   rw[F];simp;refine ax q1 ?_;simp;refine ax o ?_;simp;refine ax p ?_
   by_cases n:x=97
   ·by_cases g:(y.toNat:Int)<48
    ·simp[n,g,uy,Cd.cs]
    ·have H:(53<(y.toNat:Int))=True:=eq_true (by
      apply Classical.byContradiction;intro h
      exact t ⟨n,an,an⟩)
     simp[n,g,H,uy,Cd.cs]
   ·have hx:((x.toNat:Int) !=97)=true:=by have q:x.toNat≠97:=(fun h=>n (aa2.1 h));simp;omega
    simp[hx,uy,Cd.cs]
 ·have F:dx s=none:=r fun c b ⟨e,_⟩=>d (by rw[e];rfl);rw[F]
  have gZ:((A.length:Int) !=2)=true:=by simp;omega
  simp;refine ax q1 ?_;simp;refine ax o ?_;simp;refine ax p ?_;simp[gZ,uy,Cd.cs]
def zmb:∀(a:List Cd) (k:Nat) (b:List Cd),ib k (a++b)=ib k a++ib (k+a.length) b
 | [],k,b=>by simp[ib]
 | c::a,k,b=>by
  simp only[aam,ib,aai];rw[zmb a (k+1) b,show k+1+a.length=k+(a.length+1) by omega];simp
def NI(r:Ru):List (List UInt8):=[[111,110],cG oi r.aG,cG (m9 r.aG) r.nr,gW r.act]
def Bh(r:Ru)(i:Nat):List UInt8:=aK (NI r++ib 0 (r.conds.take i))
def zp9(r:Ru):Bh r 0=[111,110,32]++cG oi r.aG++[32]++cG (m9 r.aG) r.nr++[32]++gW r.act:=by simp[Bh,NI,ib,aK]
def zyZ(r:Ru):Bh r r.conds.length=aK (o9 r):=by rw[Bh,aaz];rfl
def zqa{r:Ru}{i:Nat}{c:Cd}(h:r.conds[i]?=some c):Bh r (i+1)=Bh r i++(32::vL i++32::Jr c):=by
 have hi:=(aab.1 h).1
 have a:r.conds.take (i+1)=r.conds.take i++[c]:=by rw[aau,h];rfl
 have e:NI r++ib 0 (r.conds.take (i+1))=(NI r++ib 0 (r.conds.take i))++(vL i::jS c):=by rw[a,zmb,aav,Nat.min_eq_left an,aaH];simp[ib]
 rw[Bh,e,znc (by simp[NI]) ir,Aq _ (by simp[jS])];simp[Bh,Jr]
def zy0(k:Nat):(vL k).length<=3:=by unfold vL;split<;>simp
def zr0(r:Ru):∀ i,i<=r.conds.length->(Bh r i).length<=80+50*i
 | 0,_=>by
  have a:=QW CN (v:=r.aG);have b:=QW (CO r.aG) (v:=r.nr);have d:=ztY (v:=r.act);rw[zp9];simp
  omega
 | i+1,h=>by
  have e:=zr0 r i an;have c:r.conds[i]?=some r.conds[i]:=aac an;have a:=zrZ r.conds[i];have b:=zy0 i;rw[zqa c];simp;omega
def Ru.NJ(r:Ru):Prop:=(∀ c∈r.conds,c.ok)/\r.aG<4294967296/\r.nr<4294967296/\r.act<4294967296
def JA(s:List UInt8)(e d:Bool):aw:=.cells [.str s,.bool e,.bool d]
def eN(H:ae)(b:Nat)(s:List UInt8)(e d:Bool):ae:=H.set b (some (JA s e d))
structure sW (H:ae) (b:Nat) (s:List UInt8) (e d:Bool):Prop where
 hb:H[b]?=some (some (JA s e d))
 shut:fY H
section
variable {H:ae} {b:Nat} {s s':List UInt8} {e e' d d':Bool}
def sW.lb(h:sW H b s e d):b<H.length:=(aab.1 h.hb).1
def sW.cE(h:sW H b s e d):H[b]?=some (some (.cells [.str s,.bool e,.bool d])):=h.hb
@[simp] theorem Bm (H:ae) (b:Nat) (s:List UInt8) (e d:Bool):(eN H b s e d).length=H.length:=by simp[eN]
theorem NK(h:fY H)(s:List UInt8)(e d:Bool):fY (eN H b s e d):=by intro n a;rw[Bm] at a;unfold eN;rw[Bo,h n a];simp[JA,aw.cl,aX,V.cl]
def sW.set(h:sW H b s e d)(s':List UInt8)(e' d':Bool):sW (eN H b s' e' d') b s' e' d':=⟨by rw[eN,abq h.lb],NK h.shut _ _ _⟩
def zoc:eN (eN H b s e d) b s' e' d'=eN H b s' e' d':=by simp[eN]
def Qb(h:b<H.length)(R:ae):eN (H++R) b s e d=eN H b s e d++R:=by rw[eN,eN,abu _ _ h]
def fY.Zx(h:fY H){R:ae}(b:∀ m,H.length+R.length<=m->R.map (aaq (aw.cl m))=R):fY (H++R):=by intro m a;rw[aag] at a;rw[aa_,h m an,b m a]
def zwJ(h:fY H)(S:List UInt8)(i:Nat):ai (H.length+1) (H++[some (.dg S i)])=H++[some (.dg S i)]:=by have:=(h.app (r:=[some (.dg S i)]) (fun n=>by simp[aw.cl])).self;simpa using this
end
open Go Go.RowKit
variable {G:aN}
def fJ(ws:List (List UInt8))(l:List UInt8):List UInt8:=ws.headD l
def aW(ws:List (List UInt8)):List (List UInt8):=ws.tail
def dY(l:List UInt8)(ws:List (List UInt8)):List UInt8:=if ws=[] then l else aK ws
def ba(ws:List (List UInt8)):Bool:=decide (ws=[])
section
variable {H:ae} {b:Nat} {l S:List UInt8} {ws:List (List UInt8)} {e d:Bool}
def sW.GJ{s:List UInt8}{e:Bool}(h:sW H b s e d){R:ae}(a:∀ n,R.map (aaq (aw.cl n))=R):sW (H++R) b s e d :=
 ⟨by rw[aan h.lb];exact h.hb,h.shut.app a⟩
def WA[dH G](h:sW H b S e d)(x:Int):SF G 464 [.ptr b 0,.int .i64 x] H (.bc []) (eN H b S e (d||x !=0)):=by
 refine jx dH.aeP (aaa rfl) ?_;have c:=h.cE;have a:=(h.set S e (d||x !=0)).shut.self;simp only[eN,JA,abL] at a |-
 cases d<;>simp[c]<;>simpa using a
def zt2[dH G](h:sW H b S false d)(P:S.length<4611686018427387904) :
  SF G 463 [.ptr b 0] H (.str (eX 32 S)) (eN H b (if(eX 32 S).length<S.length then gn 32 S else S) (!decide ((eX 32 S).length<S.length)) d):=by
 refine jx dH.aeO (aaa rfl) ?_;obtain⟨q,g,t,k,_⟩:=Cs 32 S;obtain⟨w,u⟩:∃ w,w=eX 32 S:=⟨_,rfl⟩;rw[<-u] at q g t k |-
 have C:gn 32 S=S.drop (w.length+1):=by rw[u];rfl
 rw[C];have v:=h.cE;have c:=h.lb
 have l:∀ x,(H++[x])[b]?=some (some (.cells [.str S,.bool false,.bool d])):=fun x=>by rw[aan c];exact v
 have o:∀ x:Option aw,(H++[x])[H.length]?=some x:=fun x=>by rw[aay an];simp
 have z:∀ x y,(H++[x]).set b y=H.set b y++[x]:=fun x y=>by rw[abu _ _ c]
 have D:∀ x y,(H.set b y++[x])[b]?=some y:=fun x y=>by rw[aan (by simpa using c),abq c]
 have A:=zwJ h.shut S;have B:(b<H.length+1)=True:=eq_true an;have f:=fun s e r=>(NK (b:=b) h.shut s e d).back r;simp only[Bm] at f;simp only[eN,JA] at f |-;simp[v,l];refine uW (S:=Nat) (fun i=>S.length+1-i) (fun i=>[(0,.ptr b 0),(17,.ptr H.length 0)]) (fun i=>H++[some (.dg S i)]) (fun i=>i<=w.length) 0 ?_ ?_
 ·simp[aq,A,B]
 intro i hi
 by_cases E:i<w.length
 ·obtain⟨r,n,p,F,Q,R⟩:=Ww (m:=32) (by decide) E q (fun j _ I=>t j I) k
  have J:i<S.length:=an
  have a:((r:Int)==32)=false:=G_ (b:=32) F;simp[J,p,a,o,aq];exact⟨i+n,by simp only;omega,an,by simp[aq,B],by simp[A]⟩
 ·have hi:i=w.length:=an
  subst hi
  by_cases a:w.length<S.length
  ·have p:=GG (k a) (by decide);have K:((w.length:Int)<=(S.length:Int))=True:=eq_true an
   have L:aD .i64 (w.length:Int) 1=((w.length+1:Nat):Int):=by rw[dW]<;>omega
   have M:(S.drop (w.length+1)).take (S.length-(w.length+1))=S.drop (w.length+1):=aak ir;have N:(((w.length+1:Nat):Int)<=(S.length:Int))=True:=eq_true an;simp[a,p,K,L,M,N,g,l,o,z,f,-aah]
  ·have O:w=S:=by rw[<-g];exact aak an
   simp[a,O,l,o,z,D,f]
def GH[dH G](c:∀ w∈ws,fA w)(h:sW H b (dY l ws) (ba ws) d)(a:(aK ws).length<4611686018427387904) :
  SF G 463 [.ptr b 0] H (.str (fJ ws [])) (eN H b (dY (fJ ws l) (aW ws)) (ba (aW ws)) (d||ba ws)):=by
 match ws,c,h,a with
 | [],_,h,_ =>
  refine jx dH.aeO (aaa rfl) ?_;have e:=h.cE;have f:=(h.set (dY l []) true true).shut.self;simp only[eN,JA,abL,ba,dY,fJ,aW,if_true,List.headD_nil,List.tail_nil,decide_true,Bool.or_true] at e f |-
  simp[e,f]
 | [w],c,h,a =>
  have:=zt2 (G:=G) (S:=w) h a;rw[show eX 32 w=w from zp5 (c w ir)] at this
  simpa[ba,dY,fJ,aW] using this
 | w::v::r,c,h,a =>
  have g:dY l (w::v::r)=w++32::aK (v::r):=rfl;have i:aK (w::v::r)=w++32::aK (v::r):=rfl;rw[g] at h;rw[i] at a;have:=zt2 (G:=G) h a;have t:=Hi (r:=aK (v::r)) (c w ir);rw[t.1,t.2,if_pos ir,decide_eq_true ir] at this;simpa[ba,dY,fJ,aW] using this
def Wx(w:List UInt8)(ws:List (List UInt8)):(aK ws).length<=(aK (w::ws)).length:=by
 cases ws with
 | nil=>simp[aK]
 | cons v r=>rw[Aq w ir];simp;omega
def Ar(ws:List (List UInt8)):(aK (aW ws)).length<=(aK ws).length:=by
 cases ws with
 | nil=>simp[aK,aW]
 | cons v r=>exact Wx v r
def Ct(ws:List (List UInt8)):(fJ ws []).length<=(aK ws).length:=by
 match ws with
 | []=>simp[aK,fJ]
 | [w]=>simp[aK,fJ]
 | w::v::r=>simp[aK,fJ]
def vP(ws:List (List UInt8)):List UInt8:=fJ ws []++32::(fJ (aW ws) []++32::(fJ (aW (aW ws)) []++32::fJ (aW (aW (aW ws))) []))
def AW(l:List UInt8)(ws:List (List UInt8)):List UInt8:=fJ (aW (aW (aW ws))) (fJ (aW (aW ws)) (fJ (aW ws) (fJ ws l)))
def zr8[cK G][cU G][fN G][dH G](u:∀ w∈ws,fA w)(h:sW H b (dY l ws) (ba ws) d)(S:(aK ws).length<1152921504606846976) :
  SF G 465 [.ptr b 0] H (.agg ((dx (vP ws)).getD ⟨0,0,0,0⟩).cs) (eN H b (dY (AW l ws) (aW (aW (aW (aW ws))))) (ba (aW (aW (aW (aW ws))))) (d||ba (aW (aW (aW ws)))||(dx (vP ws)).isNone)):=by
 refine jx dH.aeQ (aaa rfl) ?_;have T:=Ar ws;have U:=Ar (aW ws);have W:=Ar (aW (aW ws));have X:=Ct ws;have Y:=Ct (aW ws);have k3:=Ct (aW (aW ws));have k4:=Ct (aW (aW (aW ws)));have n1:∀ w∈(aW ws),fA w:=fun w h=>u w (aaE h);have v:∀ w∈(aW (aW ws)),fA w:=fun w h=>n1 w (aaE h);have L:∀ w∈(aW (aW (aW ws))),fA w:=fun w h=>v w (aaE h)
 have M:(vP ws).length<4611686018427387904:=by simp only[vP,aag,aai];omega
 have m:=zr7 (G:=G) (vP ws) M;obtain⟨Z,y⟩:∃ Z:ae,Z=[some (.cells [.int .i64 0,.int .i64 0,.int .u64 0,.int .u64 0])]:=⟨_,rfl⟩
 have a:∀ n,Z.map (aaq (aw.cl n))=Z:=fun n=>by rw[y];simp[aw.cl,aX,V.cl]
 have z:=h.GJ (R:=Z) a;have q1:=GH (G:=G) u z an;have A:=z.set (dY (fJ ws l) (aW ws)) (ba (aW ws)) (d||ba ws);have p:=GH (G:=G) n1 A an;have B:=A.set (dY (fJ (aW ws) (fJ ws l)) (aW (aW ws))) (ba (aW (aW ws))) (d||ba ws||ba (aW ws));have q:=GH (G:=G) v B an;have C:=B.set (dY (fJ (aW (aW ws)) (fJ (aW ws) (fJ ws l))) (aW (aW (aW ws)))) (ba (aW (aW (aW ws)))) (d||ba ws||ba (aW ws)||ba (aW (aW ws)))
 have f:=GH (G:=G) L C an;obtain⟨g,i⟩:∃ g,g=(d||ba ws||ba (aW ws)||ba (aW (aW ws))||ba (aW (aW (aW ws)))):=⟨_,rfl⟩
 have D:g=(d||ba (aW (aW (aW ws)))):=by
  rw[i]
  match ws with
  | []=>simp[ba,aW]
  | [_]=>simp[ba,aW]
  | [_,_]=>simp[ba,aW]
  | _::_::_::r=>simp[ba,aW]
 rw[<-i] at f;have h4:=C.set (dY (AW l ws) (aW (aW (aW (aW ws))))) (ba (aW (aW (aW (aW ws))))) g;obtain⟨c,E⟩:∃ c,c=(dx (vP ws)).getD ⟨0,0,0,0⟩:=⟨_,rfl⟩;have N:=(h.set (dY (AW l ws) (aW (aW (aW (aW ws))))) (ba (aW (aW (aW (aW ws))))) g).GJ (R:=Z++[some (.cells c.cs)]) (fun n=>by rw[aa_,a];simp[aw.cl,aX,V.cl,Cd.cs]);have F:=h.lb
 have I:∀(s:List UInt8) (e d:Bool) (s':List UInt8) (e' d':Bool) (R:ae),eN (eN H b s e d++R) b s' e' d'=eN H b s' e' d'++R:=fun s e d s' e' d' R=>by rw[Qb (by simpa using F),zoc]
 simp only[Qb F,I] at q1 p q f;have t:=WA (G:=G) N (if dx (vP ws)=none then 2 else 0)
 have O:((if dx (vP ws)=none then(2:Int) else 0) !=0)=(dx (vP ws)).isNone:=by cases dx (vP ws)<;>rfl
 rw[I,O,D] at t;rw[D] at f ;have J:=fun s e d' r=>(NK (b:=b) h.shut s e d').back r;simp only[Bm] at J;subst y
 have P:∀(s:List UInt8) (e d:Bool) (r:ae) (k:Nat),(eN H b s e d++r)[H.length+k]?=r[k]?:=fun s e d r k=>by rw[aay ir,Bm];congr 1;omega
 have xR:∀(s:List UInt8) (e d:Bool) (r:ae),(eN H b s e d++r)[H.length]?=r[0]?:=fun s e d r=>P s e d r 0
 have K:∀(s:List UInt8) (e d:Bool) (r:ae) (k:Nat) (x:Option aw),(eN H b s e d++r).set (H.length+k) x=eN H b s e d++r.set k x:=fun s e d r k x=>by rw[abr _ _ ir,Bm];congr 1;congr 1;omega
 have Q:∀(s:List UInt8) (e d:Bool) (r:ae) (x:Option aw),(eN H b s e d++r).set H.length x=eN H b s e d++r.set 0 x:=fun s e d r x=>K s e d r 0 x;have j:∀ n:Nat,n<5764607523034234880->(n<=9223372036854775807)=True:=fun n h=>eq_true an;generalize dx (vP ws)=o at *;simp only[uy,<-E,vP] at m;rw[<-E];simp only[Cd.cs,aam,aaD] at m q1 p q f t |-;generalize fJ ws []=w1 at *;generalize fJ (aW ws) []=w2 at *
 generalize fJ (aW (aW ws)) []=w3 at *;generalize fJ (aW (aW (aW ws))) []=w4 at *;simp;refine cC q1 ?_;simp(disch:=(first|omega|(simp;omega))) [j];refine cC p ?_;simp(disch:=(first|omega|(simp;omega))) [j];refine cC q ?_;simp(disch:=(first|omega|(simp;omega))) [j];refine cC f ?_;simp(disch:=(first|omega|(simp;omega))) [j];refine ax m ?_;simp[K];refine cC t ?_;simp[Q,J]
end
open Go Go.RowKit
variable {G:aN}
def zr1{rs:List Nat}{f:Nat}{args:List V}{r:V}{H H':ae}{base:Nat}{d:Option Nat}{os:List aC}{K:List Kt}{e:Env}{Q:Ex->Env->ae->Prop}(h:SF G f args H r H')(b:Ie e rs H H')
  (c:WO G base os K (e.put d r) H' Q):zBc G rs f args base d os K e H Q:=by
 obtain⟨g,H1,i,j,a⟩:=h;exact⟨g,H1,i,by rw[a];exact b,by rw[j,a];exact c⟩
def Rr:∀{cs a:List Cd} {k:Nat} {ws:List (List UInt8)},(∀ c∈cs,c.cZ)->(∀ c∈a,c.cZ)->ib k cs++ws=ib k a->∃ t,a=cs++t/\ws=ib (k+cs.length) t
 | [],a,k,ws,_,_,h=>⟨a,rfl,h⟩
 | c::cs,[],k,ws,_,_,h=>by simp[ib] at h
 | c::cs,c'::a,k,ws,d,f,h=>by
  have g:∀ c:Cd,(jS c).length=4:=fun _=>rfl;simp only[ib,aam,aaT.injEq,true_and,aao] at h;have i:=List.append_inj h (by rw[g,g]);have e:=zp6 (d c ir) (f c' ir) i.1;subst e;obtain⟨t,rfl,j⟩:=Rr (fun x b=>d x (by simp[b])) (fun x b=>f x (by simp[b])) i.2;exact⟨t,rfl,by rw[j,aai,show k+1+cs.length=k+(cs.length+1) by omega]⟩
def zqb:∀(a b:List Cd) (k:Nat),ib k (a++b)=ib k a++ib (k+a.length) b
 | [],b,k=>rfl
 | c::a,b,k=>by simp[ib,zqb a b (k+1),show k+1+a.length=k+(a.length+1) by omega]
def zr2{ws:List (List UInt8)}(f:∀ w∈ws,fA w){c:Cd}(g:c.cZ):(ba (aW (aW (aW ws)))=false/\dx (vP ws)=some c)↔∃ r,ws=jS c++r:=by
 constructor
 ·rintro⟨i,j⟩
  match ws,f,i,j with
  | [],_,h,_=>simp[ba,aW] at h
  | [_],_,h,_=>simp[ba,aW] at h
  | [_,_],_,h,_=>simp[ba,aW] at h
  | [_,_,_],_,h,_=>simp[ba,aW] at h
  | a::b::x::d::r,f,_,h =>
   have e:aK (jS c)=aK [a,b,x,d]:=(Nk h).2
   have:=Rm (by simp[jS]) ir (Rn g) (fun w h=>f w (by
    simp only[aaf,aat,or_false] at h |-
    rcases h with rfl|rfl|rfl|rfl<;>simp)) e
   exact⟨r,by rw[this];rfl⟩
 ·rintro⟨r,rfl⟩;exact⟨by simp[ba,aW,jS],YD g⟩
def YF:∀ l:List (List UInt8),l.length<=(aK l).length+1
 | []=>by simp
 | [w]=>by simp
 | w::v::r=>by
  have:=YF (v::r);rw[Aq w ir];simp at this |-;omega
def zEi{f b:Nat}{body:aY}{a:List iM}{args:List V}{H:ae}{R:V->ae->Prop}(d:G f=some ⟨b,body,a⟩)(e:args.length<=b)
  (h:W G body [] (fU (oJ 0 args)) H (QX a fun g H1=>R (g.cl H.length) (ai H.length H1))):∃ r H',SF G f args H r H'/\R r H':=by
 obtain⟨x,l,H1,c,i,vs,j,k⟩:=h;rw[<-Lk] at c;exact⟨_,_,⟨_,_,.fn d e c i j,rfl,rfl⟩,k⟩
def zA4(ws:List (List UInt8)):aW (aW (aW (aW ws)))=ws.drop 4:=by
 match ws with
 | []=>rfl
 | [_]=>rfl
 | [_,_]=>rfl
 | [_,_,_]=>rfl
 | _::_::_::_::r=>rfl
section
variable {H:ae} {b:Nat} {l:List UInt8} {ws:List (List UInt8)} {d:Bool}
def Cu(o:Option Nat):((if o=none then(2:Int) else 0) !=0)=o.isNone:=by cases o<;>rfl
def zA5[cK G][bM G][cU G][cN G][fN G][dH G](Y:∀ w∈ws,fA w)
  (h:sW H b (dY l ws) (ba ws) false) (hl:(aK ws).length<1048576) :
  ∃ s e hg x,SF G 466 [.ptr b 0] H (.agg x.cs) (eN H b s e hg)/\(hg=false->ix x=true/\x.NJ/\o9 x=[111,110]::ws)/\(hg=true->∀ y,ix y=true->y.NJ->o9 y≠[111,110]::ws):=by
 obtain⟨M,hM⟩:∃ M,M=fJ ws []:=⟨_,rfl⟩;obtain⟨C,hC⟩:∃ C,C=fJ (aW ws) []:=⟨_,rfl⟩;obtain⟨A,hA⟩:∃ A,A=fJ (aW (aW ws)) []:=⟨_,rfl⟩;obtain⟨o,Hs⟩:∃ o,o=aW (aW (aW ws)):=⟨_,rfl⟩;obtain⟨a,ha⟩:∃ a,a=(mZ oi M).getD 0:=⟨_,rfl⟩;obtain⟨n,N⟩:∃ n,n=(mZ (m9 a) C).getD 0:=⟨_,rfl⟩;obtain⟨v,hv⟩:∃ v,v=(d_ A).getD 0:=⟨_,rfl⟩;have t1:=Ar ws;have t2:=Ar (aW ws);have t3:=Ar (aW (aW ws));have k1:=Ct ws;have k2:=Ct (aW ws)
 have k3:=Ct (aW (aW ws));have n1:∀ w∈aW ws,fA w:=fun w h=>Y w (aaE h);have n2:∀ w∈aW (aW ws),fA w:=fun w h=>n1 w (aaE h);have n3:∀ w∈o,fA w:=fun w h=>n2 w (aaE (by rw[Hs] at h;exact h));obtain⟨d1,Zy⟩:∃ d1,d1=(ba ws||(mZ oi M).isNone):=⟨_,rfl⟩;obtain⟨d2,Jz⟩:∃ d2,d2=(d1||ba (aW ws)||(mZ (m9 a) C).isNone):=⟨_,rfl⟩;obtain⟨B,Zz⟩:∃ B,B=(d2||ba (aW (aW ws))||(d_ A).isNone):=⟨_,rfl⟩;have pM:=zp7 (G:=G) M (by rw[hM];omega)
 have pC:=ztZ (G:=G) a C (by rw[hC];omega);have pA:=zlb (G:=G) A (by rw[hA];omega);simp only[jk] at pM pC pA;rw[<-ha] at pM;rw[<-N] at pC;rw[<-hv] at pA;have lb:=h.lb;have O:=h.shut
 have ra:∀(s:List UInt8) (e d:Bool) (s':List UInt8) (e' d':Bool) (R:ae),eN (eN H b s e d++R) b s' e' d'=eN H b s' e' d'++R:=fun s e d s' e' d' R=>by rw[Qb (by simpa using lb),zoc]
 have NL:∀(R:ae),(∀ n,H.length+R.length<=n->R.map (aaq (aw.cl n))=R)->∀(s:List UInt8) (e d:Bool),sW (eN H b s e d++R) b s e d:=fun R F s e d =>
  ⟨by rw[aan (by simpa using lb)];exact(h.set _ _ _).hb,(NK O _ _ _).Zx (R:=R) (by rw[Bm];exact F)⟩
 have E:∀(R:ae),(∀ n,H.length+R.length<=n->R.map (aaq (aw.cl n))=R)->∀(ws:List (List UInt8)),(∀ w∈ws,fA w)->(aK ws).length<1048576->∀ l d,
   SF G 463 [.ptr b 0] (eN H b (dY l ws) (ba ws) d++R) (.str (fJ ws [])) (eN H b (dY (fJ ws l) (aW ws)) (ba (aW ws)) (d||ba ws)++R):=by
  intro R F ws Y hq l d;have:=GH (G:=G) Y (NL R F (dY l ws) (ba ws) d) an;rwa[ra] at this
 have Ht:∀(R:ae),(∀ n,H.length+R.length<=n->R.map (aaq (aw.cl n))=R)->∀(s:List UInt8) (e d:Bool) (x:Int),SF G 464 [.ptr b 0,.int .i64 x] (eN H b s e d++R) (.bc []) (eN H b s e (d||x !=0)++R):=by intro R F s e d x;have:=WA (G:=G) (NL R F s e d) x;rwa[ra] at this
 have dB:eN H b (dY l ws) (ba ws) false=H:=List.ext_getElem? fun i=>by
  unfold eN;rw[List.getElem?_set];split
  ·rename_i u;first|(rw[if_pos lb,<-u,h.hb];done)|(rw[<-u,h.hb];done)
  ·rfl
 have gk:∀(s:List UInt8) (e d:Bool) (R:ae) (k:Nat),(eN H b s e d++R)[H.length+k]?=R[k]?:=fun s e d R k=>by rw[aay ir,Bm];congr 1;omega
 have xR:∀(s:List UInt8) (e d:Bool) (R:ae),(eN H b s e d++R)[H.length]?=R[0]?:=fun s e d R=>gk s e d R 0
 have sk:∀(s:List UInt8) (e d:Bool) (R:ae) (k:Nat) (x:Option aw),(eN H b s e d++R).set (H.length+k) x=eN H b s e d++R.set k x:=fun s e d R k x=>by rw[abr _ _ ir,Bm];congr 1;congr 1;omega
 have z_:∀(s:List UInt8) (e d:Bool) (R:ae) (x:Option aw),(eN H b s e d++R).set H.length x=eN H b s e d++R.set 0 x:=fun s e d R x=>sk s e d R 0 x
 have gb:∀(s:List UInt8) (e d:Bool) (R:ae),(eN H b s e d++R)[b]?=some (some (.cells [.str s,.bool e,.bool d])):=fun s e d R=>by rw[aan (by simpa using lb)];exact(h.set s e d).hb
 have sb:∀(s:List UInt8) (e d:Bool) (s':List UInt8) (e' d':Bool) (R:ae),(eN H b s e d++R).set b (some (.cells [.str s',.bool e',.bool d']))=eN H b s' e' d'++R:=fun s e d s' e' d' R=>ra s e d s' e' d' R
 have bk:∀(s:List UInt8) (e d:Bool) (R:ae),ai H.length (eN H b s e d++R)=eN H b s e d:=fun s e d R=>by have:=(NK (b:=b) O s e d).back R;rwa[Bm] at this
 have tr:∀(s:List UInt8) (e d:Bool) (R:ae) (n:Nat),n=H.length+R.length->(∀ n,H.length+R.length<=n->R.map (aaq (aw.cl n))=R)->ai n (eN H b s e d++R)=eN H b s e d++R:=fun s e d R n N F=>by
  subst N;have:=(NL R F s e d).shut.self;simpa using this
 obtain⟨C0,hj⟩:∃ C0:Option aw,C0=some (.cells [.int .u32 0,.int .u32 0,.vs [] .full,.int .u32 0]):=⟨_,rfl⟩
 have R0:∀(a n v:Int) (m:Nat),([C0,some (.cells [.int .u32 a,.int .u32 n,.vs [] .full,.int .u32 v])]:ae).map (aaq (aw.cl m))=[C0,some (.cells [.int .u32 a,.int .u32 n,.vs [] .full,.int .u32 v])]:=fun a n v m=>by
  subst hj;simp[aw.cl,aX,V.cl,Tk.cl]
 have q1:=E _ (fun m _=>R0 0 0 0 m) ws Y hl l false;rw[dB,<-hM] at q1;have m1:=Ht _ (fun m _=>R0 a 0 0 m) (dY (fJ ws l) (aW ws)) (ba (aW ws)) (false||ba ws) (if mZ oi M=none then 2 else 0);rw[Cu,aa7,<-Zy] at m1;rw[aa7] at q1;have q2:=E _ (fun m _=>R0 a 0 0 m) (aW ws) n1 an (fJ ws l) d1;rw[<-hC] at q2;have m2:=Ht _ (fun m _=>R0 a n 0 m) (dY (fJ (aW ws) (fJ ws l)) (aW (aW ws))) (ba (aW (aW ws))) (d1||ba (aW ws)) (if mZ (m9 a) C=none then 2 else 0)
 rw[Cu,<-Jz] at m2;have q3:=E _ (fun m _=>R0 a n 0 m) (aW (aW ws)) n2 an (fJ (aW ws) (fJ ws l)) d2;rw[<-hA,<-Hs] at q3;obtain⟨l3,Ci⟩:∃ l3,l3=fJ (aW (aW ws)) (fJ (aW ws) (fJ ws l)):=⟨_,rfl⟩;rw[<-Ci] at q3;have m3:=Ht _ (fun m _=>R0 a n v m) (dY l3 o) (ba o) (d2||ba (aW (aW ws))) (if d_ A=none then 2 else 0);rw[Cu,<-Zz] at m3
 have hh:∀ cs:List Cd,(∀ c∈cs,c.cZ)->o=ib 0 cs->B=false->cs.length<=4->ix ⟨a,n,cs,v⟩=true/\(⟨a,n,cs,v⟩:Ru).NJ/\o9 ⟨a,n,cs,v⟩=[111,110]::ws:=by
  intro cs dR hu hd Sr;rw[Zz,Jz,Zy] at hd;simp only[aaC] at hd;obtain⟨⟨⟨⟨⟨g1,P⟩,Q⟩,g4⟩,g5⟩,g6⟩:=hd;obtain⟨a',mr⟩:=aas.1 (by rw[<-aa5,P];rfl);obtain⟨n',yE⟩:=aas.1 (by rw[<-aa5,g4];rfl);obtain⟨v',Bi⟩:=aas.1 (by rw[<-aa5,g6];rfl);rw[mr] at ha;rw[yE] at N;rw[Bi] at hv;simp only[abl] at ha N hv;subst ha;subst N;subst hv;have e1:=Q0 mr;have e2:=Q0 yE;have e3:=z8 Bi;have T:=Jq e3.1;refine⟨?_,⟨fun c I=>(dR c I).2,e1.1,e2.1,T⟩,?_⟩
  ·simp only[ix,aae,decide_eq_true_eq,aaQ];exact⟨⟨fun c I=>(dR c I).1,e3.1⟩,Sr⟩
  ·match ws,g1,Q,g5 with
   | [],g,_,_=>simp[ba] at g
   | [_],_,g,_=>simp[ba,aW] at g
   | [_,_],_,_,g=>simp[ba,aW] at g
   | x::y::z::r,_,_,_ =>
    simp only[fJ,aW,abM,abO] at hM hC hA Hs;simp only[o9,aam,aaD,e1.2,e2.2,e3.2,<-hu];rw[hM,hC,hA,Hs]
 have NM:∀ y:Ru,ix y=true->y.NJ->o9 y=[111,110]::ws->B=false/\o=ib 0 y.conds/\(∀ c∈y.conds,c.cZ)/\y.conds.length<=4:=by
  intro y hm ho u;simp only[ix,aae,decide_eq_true_eq,aaQ] at hm;obtain⟨⟨y1,y2⟩,y3⟩:=hm;obtain⟨o1,o2,o3,o4⟩:=ho;simp only[o9,aam,aaD,aaT.injEq,true_and] at u;subst u;simp only[fJ,aW,abM,abO] at hM hC hA Hs;have e1:=Js CN o2;rw[<-hM] at e1;rw[e1] at ha;simp only[abl] at ha;have e2:=Js (CO y.aG) o3;rw[<-hC,<-ha] at e2;have e3:=D_ y2;rw[<-hA] at e3;refine⟨?_,Hs,fun c I=>⟨y1 c I,o1 c I⟩,y3⟩;rw[Zz,Jz,Zy,e1,e2,e3]
  simp[ba,aW]
 suffices hs:∃ s e D cs,SF G 466 [.ptr b 0] H (.agg (⟨a,n,cs,v⟩:Ru).cs) (eN H b s e (D||decide (4<cs.length)))/\(D=false->B=false/\(∀ c∈cs,c.cZ)/\o=ib 0 cs)/\(D=true->B=true\/∀ p,(∀ c∈p,c.cZ)->o≠ib 0 p) by
  obtain⟨s,e,D,cs,h1,h2,h3⟩:=hs;refine⟨s,e,_,_,h1,?_,?_⟩
  ·intro T;simp only[aaC,decide_eq_false_iff_not] at T;obtain⟨g1,P,Q⟩:=h2 T.1;exact hh cs P Q g1 an
  ·intro T y hm ho u;obtain⟨f1,f2,f3,f4⟩:=NM y hm ho u
   cases DK:D with
   | true =>
    rcases h3 DK with h|h
    ·rw[f1] at h;cases h
    ·exact h _ f3 f2
   | false =>
    obtain⟨g1,P,Q⟩:=h2 DK;rw[DK] at T;simp only[aa7,decide_eq_true_eq] at T;obtain⟨t,ht,sj⟩:=Rr (ws:=[]) (k:=0) f3 P (by rw[aaw,<-f2,Q])
    have:t=[]:=by
     cases t with
     | nil=>rfl
     | cons c t=>simp[ib] at sj
    subst this;rw[ht,aaw] at T;omega
 obtain⟨R,F⟩:∃ R:V->ae->Prop,∀ r H',R r H'↔∃ s e D cs,r=.agg (⟨a,n,cs,v⟩:Ru).cs/\H'=eN H b s e (D||decide (4<cs.length))/\(D=false->B=false/\(∀ c∈cs,c.cZ)/\o=ib 0 cs)/\(D=true->B=true\/∀ p,(∀ c∈p,c.cZ)->o≠ib 0 p):=⟨_,fun _ _=>Iff.rfl⟩
 suffices hs:∃ r H',SF G 466 [.ptr b 0] H r H'/\R r H' by
  obtain⟨r,H',h1,h2⟩:=hs;obtain⟨s,e,D,cs,rfl,rfl,h3⟩:=(F _ _).1 h2;exact⟨s,e,D,cs,h1,h3⟩
 refine zEi dH.aeS (aaa rfl) ?_;subst hj;simp;refine cC q1 ?_;simp;refine ax pM ?_;simp[sk];refine cC m1 ?_;simp;refine zr1 q2 ?_ ?_
 ·intro k hk id bx;simp at hk;subst hk;simp at bx;subst bx;rw[gk,gk]
 simp;refine ax pC ?_;simp[sk];refine cC m2 ?_;simp;refine cC q3 ?_;simp;refine ax pA ?_;simp[sk];refine cC m3 ?_;simp[sk];obtain⟨Z,K⟩:∃ Z:List Cd->ae,∀ cs,Z cs=[some (.cells [.int .u32 0,.int .u32 0,.vs [] .full,.int .u32 0]),some (.cells [.int .u32 a,.int .u32 n,.vs (CL cs) (.own (H.length+2)),.int .u32 v]),some (.zone cs.length)]:=⟨_,fun _=>rfl⟩
 have ZA:∀ i,(Z i).length=3:=fun i=>by rw[K];rfl
 have Rs:∀ i n,H.length+(Z i).length<=n->(Z i).map (aaq (aw.cl n))=Z i:=fun i n N=>by
  rw[ZA] at N;rw[K];simp[aw.cl,aX,V.cl,Tk.cl,show H.length+2<n by omega]
 have tz:∀ s e d i,ai (H.length+3) (eN H b s e d++Z i)=eN H b s e d++Z i:=fun s e d i=>tr s e d (Z i) _ (by rw[ZA]) (Rs i);have Rt:(b<H.length+3)=True:=eq_true an;have wl:∀ l:List (List UInt8),l.length<=(aK l).length+1:=YF;have hD:=wl o
 have hy:(aK o).length<1048576:=by rw[Hs];omega
 refine uW (S:=List UInt8×List (List UInt8)×Bool×List Cd) (fun q=>if q.2.2.1 then 0 else q.2.1.length) (fun q=>[(0,.ptr b 0),(2,.ptr H.length 0),(3,.ptr (H.length+1) 0),(5,.str (vL q.2.2.2.length))])
  (fun q=>eN H b (dY q.1 q.2.1) (ba q.2.1) q.2.2.1++Z q.2.2.2)
  (fun q=>(∀ w∈q.2.1,fA w)/\(aK q.2.1).length<1048576/\q.2.2.2.length+q.2.1.length<=1048577/\(q.2.2.1=false->B=false/\(∀ c∈q.2.2.2,c.cZ)/\o=ib 0 q.2.2.2++q.2.1)/\(q.2.2.1=true->B=true\/∀ p,(∀ c∈p,c.cZ)->o≠ib 0 p)) (l3,o,B,[]) ?_ ?_
 ·have t0:=tz (dY l3 o) (ba o) B [];rw[K] at t0;simp only[show CL []=[] from rfl,aba] at t0;refine⟨⟨n3,hy,by simp;omega,fun h=>⟨h,ir,rfl⟩,fun h=>.inl h⟩,?_,?_⟩
  ·simp[aq,vL,Rt]
  ·simp[t0,K,Rt,show CL []=[] from rfl]
 rintro⟨l,ws,d,cs⟩ ⟨p1,p2,p3,p4,p5⟩;simp only at p1 p2 p3 p4 p5 |-
 have j:(d||ba ws)=true->∃ s e D p,V.agg (⟨a,n,cs,v⟩:Ru).cs=.agg (⟨a,n,p,v⟩:Ru).cs/\eN H b (dY l ws) (ba ws) (d||decide (4<cs.length))=eN H b s e (D||decide (4<p.length))/\(D=false->B=false/\(∀ c∈p,c.cZ)/\o=ib 0 p)/\(D=true->B=true\/∀ p,(∀ c∈p,c.cZ)->o≠ib 0 p):=by
  intro u;refine⟨_,_,d,cs,rfl,rfl,fun hd=>?_,p5⟩;rw[hd,aa7] at u
  have:ws=[]:=by simpa[ba] using u
  have:=p4 hd;subst ws;rw[aaw] at this;exact this
 have hF:(H.length+2<H.length)=False:=eq_false an
 cases hd:d with
 | true =>
  rw[hd] at j;have j:=(F _ _).2 (j rfl);simp only[abQ] at j;simp only[K]
  cases u:ba ws<;>rw[u] at j<;>simp[z_,gb,sb,bk,hF,Tk.cl]<;>simpa[Ru.cs] using j
 | false =>
  subst hd
  cases u:ba ws with
  | true =>
   have j:=(F _ _).2 (j (by rw[u];rfl));rw[u] at j
   by_cases h4:4<cs.length
   ·have Jg:(4<(cs.length:Int))=True:=eq_true an;simp only[K];simp[z_,gb,sb,bk,hF,Tk.cl,Jg];simpa[Ru.cs,h4] using j
   ·have Jg:(4<(cs.length:Int))=False:=eq_false an;simp only[K];simp[z_,gb,sb,bk,hF,Tk.cl,Jg]
    simpa[Ru.cs,h4] using j
  | false =>
   have ay:ws≠[]:=by intro h;rw[h] at u;simp[ba] at u
   obtain⟨w,Y⟩:∃ w,w=fJ ws []:=⟨_,rfl⟩;obtain⟨U,hU⟩:∃ U,U=aW ws:=⟨_,rfl⟩
   have sX:ws=w::U:=by
    cases ws with
    | nil=>exact absurd rfl ay
    | cons x y=>rw[Y,hU];rfl
   have nU:∀ w∈U,fA w:=fun x h=>p1 x (by rw[sX];simp[h])
   have lU:(aK U).length<=(aK ws).length:=by rw[hU];exact Ar ws
   have q:=E (Z cs) (Rs cs) ws p1 p2 l false;rw[<-Y,<-hU,u,aa7] at q;obtain⟨l1,ku⟩:∃ l1,l1=fJ ws l:=⟨_,rfl⟩;rw[<-ku] at q;obtain⟨J,hJ⟩:∃ J,J=vL cs.length:=⟨_,rfl⟩;obtain⟨d',zs⟩:∃ d',d'=!(w==J):=⟨_,rfl⟩
   have DP:=NL (Z cs++[none]) (fun m hm=>by
    rw[aag] at hm;rw[aa_,Rs cs m an]
    rfl) (dY l1 U) (ba U) d'
   have qc:=zr8 (G:=G) nU DP an;obtain⟨c,I⟩:∃ c,c=(dx (vP U)).getD ⟨0,0,0,0⟩:=⟨_,rfl⟩;obtain⟨l2,gZ⟩:∃ l2,l2=AW l1 U:=⟨_,rfl⟩;obtain⟨X,hX⟩:∃ X,X=aW (aW (aW (aW U))):=⟨_,rfl⟩;obtain⟨L,Hu⟩:∃ L,L=(d'||ba (aW (aW (aW U)))||(dx (vP U)).isNone):=⟨_,rfl⟩;rw[ra,<-I,<-gZ,<-hX,<-Hu] at qc
   have ZB:X=U.drop 4:=by rw[hX,zA4]
   have FY:vL (cs.length+1)=[97,110,100]:=by simp[vL]
   have jl:((cs.length+1)*32<=140737488355328)=True:=eq_true (by rw[sX] at p3;simp at p3;omega);have D8:(∀ f∈CL cs,f.length=4)=True:=eq_true (by intro f hf;simp only[CL,aap] at hf;obtain⟨y,_,rfl⟩:=hf;rfl)
   have dT:CL cs++[c.cs]=CL (cs++[c]):=by simp[CL]
   have ZC:ai (H.length+3) (eN H b (dY l2 X) (ba X) L++(Z (cs++[c])++[none]))=eN H b (dY l2 X) (ba X) L++Z (cs++[c]):=by have:=(NL (Z (cs++[c])) (Rs _) (dY l2 X) (ba X) L).shut.back [none];rw[aag,Bm,ZA] at this;rw[<-aao];exact this
   have lX:(aK X).length<=(aK U).length:=by rw[hX];have:=Ar U;have:=Ar (aW U);have:=Ar (aW (aW U));have:=Ar (aW (aW (aW U)));omega
   have wj:(if L=true then 0 else X.length)<(if false=true then 0 else ws.length)/\(∀ w∈X,fA w)/\(aK X).length<1048576/\(cs++[c]).length+X.length<=1048577/\(L=false->B=false/\(∀ x∈cs++[c],x.cZ)/\o=ib 0 (cs++[c])++X)/\(L=true->B=true\/∀ p,(∀ c∈p,c.cZ)->o≠ib 0 p):=by
    obtain⟨g1,P,Q⟩:=p4 rfl
    have eT:X.length<=U.length:=by rw[ZB];simp
    have As:ws.length=U.length+1:=by rw[sX];rfl
    refine⟨?_,fun x W=>nU x (aaO (by rw[ZB] at W;exact W)),an,by simp;omega,fun h=>?_,fun h=>.inr fun p jZ nu=>?_⟩
    ·split<;>simp<;>omega
    ·rw[Hu,zs] at h;simp only[aaC,Bool.not_eq_false',beq_iff_eq] at h;obtain⟨⟨h1,h2⟩,h3⟩:=h;obtain⟨c',gE⟩:=aas.1 (by rw[<-aa5,h3];rfl);rw[gE] at I;simp only[abl] at I;subst I;have Rv:=(Nk gE).1;obtain⟨r,hr⟩:=(zr2 nU Rv).1 ⟨h2,gE⟩
     have hz:X=r:=by rw[ZB,hr];rfl
     refine⟨g1,fun x W=>?_,?_⟩
     ·rcases aar.1 W with W|W
      ·exact P x W
      ·rw[aaI.1 W];exact Rv
     ·rw[Q,sX,hr,zqb,h1,hJ,hz];simp[ib]
    ·obtain⟨t,ht,sj⟩:=Rr (k:=0) P jZ (by rw[<-Q,nu])
     cases t with
     | nil=>exact ay sj
     | cons c' t =>
      rw[sX,aaH] at sj;simp only[ib,aam,aaT.injEq] at sj;have Rv:=jZ c' (by rw[ht];simp);have:=(zr2 nU Rv).2 ⟨_,sj.2⟩;rw[Hu,zs,sj.1,this.1,this.2,hJ] at h;simp at h
   rw[K] at ZC;have hB:=K;simp only[K,aam,aaD] at q qc ZC |-;simp only[Cd.cs] at qc dT;simp[gb,u];refine cC q ?_;rw[<-hJ];cases hp:(w==J)
   all_goals
    rw[hp] at zs;simp only[Bool.not_true,Bool.not_false] at zs;subst zs;simp[gb,sb,hp];refine zr1 qc ?_ ?_
    ·intro k hk id bx;simp at hk;subst hk;simp at bx;subst bx;rw[gk,gk]
    simp(disch:=omega)[gk,sk,jl,dT,D8];refine⟨(l2,X,L,cs++[c]),?_,wj.2,?_,?_⟩
    ·simpa using wj.1
    ·simp[aq,FY,Rt]
    ·simp only[hB];simpa[Rt] using ZC
end
open Go Go.RowKit
def fP(m:UInt8):List UInt8->List (List UInt8)
 | []=>[[]]
 | b::s=>if b=m then []::fP m s else match fP m s with
  | []=>[[b]]
  | w::r=>(b::w)::r
def A5(m:UInt8):∀ s,fP m s≠[]
 | []=>by simp[fP]
 | b::s=>by
  unfold fP;split
  ·simp
  ·split<;>simp
def Wv(m:UInt8):∀ s,fP m s=eX m s::(if(eX m s).length<s.length then fP m (gn m s) else [])
 | []=>by simp[fP,eX]
 | b::s=>by
  by_cases h:b=m
  ·subst h
   have:eX b (b::s)=[]:=by simp[eX]
   simp[fP,this,gn]
  ·have a:eX m (b::s)=b::eX m s:=by unfold eX;rw[aaL (by simpa using h)]
   have hd:gn m (b::s)=gn m s:=by unfold gn;rw[a];rfl
   have c:=Wv m s;rw[show fP m (b::s)=(if b=m then []::fP m s else match fP m s with|[]=>[[b]]|w::r=>(b::w)::r) from rfl,if_neg h,c,a,hd];simp only[aai,Nat.add_lt_add_iff_right]
def Qa:∀ s,aK (fP 32 s)=s
 | []=>rfl
 | b::s=>by
  have a:=Qa s;have c:=A5 32 s;unfold fP;split
  ·rename_i h;rw[Aq [] c,a,h];rfl
  ·match d:fP 32 s,c with
   | w::r,_ =>
    rw[d] at a;simp only
    cases r with
    | nil=>simp only[aK] at a |-;rw[a]
    | cons v r=>rw[Aq _ ir] at a |-;rw[<-a];rfl
def zy1(m:UInt8):∀ s,∀ w∈fP m s,∀ b∈w,b≠m
 | [],w,a=>by simp[fP] at a;subst a;simp
 | b::s,w,a=>by
  have c:=zy1 m s;unfold fP at a;split at a
  ·rcases aaf.1 a with rfl|a
   ·simp
   ·exact c w a
  ·rename_i e;split at a
   ·simp at a;subst a;simpa using e
   ·rename_i v r f;rw[f] at c
    rcases aaf.1 a with rfl|a
    ·intro x d
     rcases aaf.1 d with rfl|d
     ·exact e
     ·exact c v ir x d
    ·exact c w (by simp[a])
def P_(s:List UInt8):∀ w∈fP 32 s,fA w:=zy1 32 s
def zA6{l:List (List UInt8)}(a:l≠[])(b:∀ w∈l,fA w):fP 32 (aK l)=l :=
 Rm (A5 32 _) a (P_ _) b (Qa _)
def Ru.cQ(x:Ru):Prop:=ix x=true/\x.NJ
def Bg{x:Ru}(h:x.cQ):(∀ c∈x.conds,c.cZ)/\x.aG<4294967296/\x.nr<4294967296/\dE x.act=true/\x.conds.length<=4:=by obtain⟨h,b,d,e,f⟩:=h;simp only[ix,aae,decide_eq_true_eq,aaQ] at h;exact⟨fun c a=>⟨h.1.1 c a,b c a⟩,d,e,h.1.2,h.2⟩
def zwK{x:Ru}(h:x.cQ):∀ w∈o9 x,fA w:=by obtain⟨a,b,d,e,_⟩:=Bg h;exact fun w f=>YA (zwI (fun c g=>a c g) b d (Jq e) w f)
def zA7(x:Ru):o9 x≠[]:=by simp[o9]
def zy2{x y:Ru}(g:x.cQ)(i:y.cQ)(h:o9 x=o9 y):x=y:=by
 obtain⟨x1,x2,x3,x4,_⟩:=Bg g;obtain⟨j,q,r,l,_⟩:=Bg i;simp only[o9,aam,aaD,aaT.injEq,true_and] at h;obtain⟨m,d,n,o⟩:=h;have a:=Zi CN an an m;rw[a] at d;have e:=Zi (CO _) an an d;have f:=Zj x4 l n;obtain⟨t,b,p⟩:=Rr (ws:=[]) (k:=0) x1 j (by rw[aaw];exact o)
 have:t=[]:=by cases t with
  | nil=>rfl
  | cons c t=>simp[ib] at p
 rw[this,aaw] at b;cases x;cases y;simp only at a e f b;subst a;subst e;subst f;subst b;rfl
noncomputable def ui(w:List UInt8):Option Ru:=wM fun x=>x.cQ/\o9 x=fP 32 w
noncomputable def nC(w:List UInt8):Option Nat:=wM fun v=>dE v=true/\GK v=fP 32 w
def zt4{w:List UInt8}{x:Ru}(h:x.cQ)(e:o9 x=fP 32 w):ui w=some x:=Jy ⟨h,e⟩ fun y a=>zy2 a.1 h (a.2.trans e.symm)
def QY{w:List UInt8}{x:Ru}(h:ui w=some x):x.cQ/\o9 x=fP 32 w:=by unfold ui at h;have:=EC h;exact this
def zvI{w:List UInt8}{v:Nat}(h:dE v=true)(e:GK v=fP 32 w):nC w=some v:=Jy ⟨h,e⟩ fun y a=>Zj a.1 h (by
 have:=a.2.trans e.symm;simp only[GK,aaT.injEq,and_true,true_and] at this
 exact this)
def Qc{w:List UInt8}{v:Nat}(h:nC w=some v):dE v=true/\GK v=fP 32 w:=by unfold nC at h;have:=EC h;exact this
abbrev GF:=Po×Nat×Nat
def kG:Po:=⟨[],0⟩
noncomputable def sV:Nat->List Ru->Option Nat->List (List UInt8)->GF
 | at_,rs,a,[]=>(kG,at_,0)
 | at_,rs,a,w::r =>
  if r=[] then(if w=[] then(match a with|none=>(kG,at_,5)|some v=>(⟨rs,v⟩,0,0)) else(kG,at_,2))
  else match a with
   | some _=>(kG,at_,2)
   | none=>match ui w with
    | some x=>if 64<=rs.length then(kG,at_,3) else sV (at_+w.length+1) (rs++[x]) none r
    | none=>match nC w with
     | some v=>sV (at_+w.length+1) rs (some v) r
     | none=>(kG,at_,2)
noncomputable def fk(s:List UInt8):GF:=sV 0 [] none (fP 10 s)
def zqc{w:List UInt8}{x:Ru}(h:ui w=some x):fJ (fP 32 w) []=[111,110]:=by rw[<-(QY h).2];rfl
def zr3{w:List UInt8}{v:Nat}(h:nC w=some v):fJ (fP 32 w) []=[100,101,102,97,117,108,116]:=by rw[<-(Qc h).2];rfl
end Go.Ev
