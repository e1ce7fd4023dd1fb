/- A window's values are what it makes of a state: plain laws. -/
import Derived.Test.YtbkhoemaobbplaaGreatDoorEvCoeCW
import Derived.Test.YtbkhoemaobbplaaGreatDoorRunAW
import Derived.Test.YtbkhoemaobbplaaGreatDoorEvWinCW
import Derived.Test.YtbkhoemaobbplaaGreatDoorSymZC
import Derived.Test.YtbkhoemaobbplaaGreatDoorDecT
import Derived.KernelRfl
set_option linter.defProp false
set_option linter.unusedSimpArgs false
set_option linter.unusedVariables false
set_option maxHeartbeats 8000000
set_option maxRecDepth 10000
open List renaming getElem?_eq_some_iff->aab,getElem?_eq_getElem->aad,take_of_length_le->aaf,getElem?_append_left->aai,length_append->aaj,drop_eq_nil_of_le->aal,mem_of_getElem?->aan,length_cons->aap,set_append_left->aaq,append_assoc->aar,take_add_one->aas,length_take->aau,mem_cons->aay,mem_append->aaz,getD_eq_getElem?_getD->aaA,take_length->aaF,getElem?_set_ne->aaI,range->aaJ,not_mem_nil->aaK,mem_range->aaL,mem_of_mem_drop->aaO,getElem?_cons_zero->aaP,all_eq_true->aaQ,getElem?_set_self->aaR,drop_eq_getElem_cons->aaV,getElem?_cons_succ->aaW,mem_filterMap->aaZ,append_nil->aa0,flatMap_cons->aa1,mem_map->aa2,getD->aa4,getElem_mem->aa9,length_map->aa_,mem_singleton->aba,find?_append->abb,map_cons->abc,any_eq_true->abe,map_set->abh,length_nil->abi,getElem?_of_mem->abn,eq_nil_of_length_eq_zero->abo,drop_succ_cons->abp,find?_eq_none->abr,getElem?_append_right->abv,mem_of_find?_eq_some->abw,map_nil->abA,set_append_right->abF,replicate->abG,countP_le_length->abI,mem_of_mem_take->abJ,getElem?_drop->abK,countP_append->abL,getElem?_set->abU,getElem?_map->abV,mem_flatMap->abX,length_drop->abY,length_set->abZ,take_left'->ab2,map_append->ab3,take_zero->ab4,set_comm->ab6,set_set->ab7
open Int renaming natCast_add->aae,natCast_emod->aaC,natCast_ediv->abd,natCast_mul->abg,eq_ofNat_of_zero_le->abC,natCast_pow->ab1
open Nat renaming le_of_ble_eq_true->aag,lt_succ_iff_lt_or_eq->aao,le_refl->aaH,zero_add->aa3,mod_lt->abx,add_zero->aby,succ_mul->abB,add_comm->ab8,le_trans->ab9
open Bool renaming and_eq_true->aah,false_eq_true->aaG,or_eq_false_iff->abl,or_eq_true->abm,true_and->abt,false_and->abE,eq_iff_iff->ab0
open Function renaming comp_def->aam
open Option renaming map->aat,some->abq
open UInt8 renaming ofNat->aaM
open BitVec renaming toNat_ofNat->abT
namespace Go.Ev
open Go Go.RowKit
variable {L L':List Nd} {v:List Nat}
def zvD{n:Nat}(h:n<L.length):bO L (n:Int)=true:=by simp[bO];exact h
def zok{k:Nat}{x:Int}(e:Ext L L' k)(h:bO L x=true):bO L' x=true/\de v L' x=de v L x:=by
 obtain⟨a,b⟩:0<=x/\x<L.length:=by simpa[bO] using h
 obtain⟨n,rfl⟩:=abC a;have:=e.pre.length_le;exact⟨zvD an,Hg e an⟩
def vX.has{q:Int×List Nd}{o:Option Nat}(h:vX v q o):bO q.2 q.1=true/\de v q.2 q.1=o:=by obtain⟨n,a,b,c⟩:=h;rw[a];exact⟨zvD b,c⟩
def pt(t:St):List Nat:=t.a::t.x::t.m
structure PV (v:List Nat) (L:List Nd) (p:List Int) (t:St):Prop where
 len:p.length=18
 val:∀i,i<18->bO L (p.getD i 0)=true/\de v L (p.getD i 0)=some ((pt t).getD i 0)
def PV.set{p:List Int}{t a:St}{k i n:Nat}{x:Int}(h:PV v L p t)(e:Ext L L' k)(c:bO L' x=true)(d:de v L' x=some n)(hi:i<18)(f:(pt t).length=18)(g:pt a=(pt t).set i n):PV v L' (p.set i x) a:=by
 refine⟨by rw[abZ];exact h.len,λj l=>?_⟩;rw[g,aaA,aaA,abU,abU]
 by_cases b:i=j
 .subst b;simp only[if_true,h.len,f,hi,Option.getD_some];exact⟨c,d⟩
 .simp only[b,if_false,<-aaA];obtain⟨m,o⟩:=h.val j l;obtain⟨q,r⟩:=zok (v:=v) e m;exact⟨q,by rw[r,o]⟩
def PV.same{p:List Int}{t:St}{k:Nat}(h:PV v L p t)(e:Ext L L' k):PV v L' p t :=
 ⟨h.len,λj a=>by obtain⟨b,c⟩:=h.val j a;obtain⟨d,f⟩:=zok (v:=v) e b;exact⟨d,by rw[f,c]⟩⟩
def Jd(w:List af)(n:Nat):Nat:=(w.take n).countP λx=>decide (x.op=60)
structure WV (v:List Nat) (L:List Nd) (p st:List Int) (w:List af) (d:Da) (t:St):Prop where
 num:st.length=Jd w w.length
 ahead:∀i,i<Jd w (fY d w t).2->∃x n,st[i]?=some x/\bO L x=true/\de v L x=some n/\n≠0
 stop:(fY d w t).2<w.length->∃x,st[Jd w (fY d w t).2]?=some x/\bO L x=true/\de v L x=some 0
 done:(fY d w t).2=w.length->PV v L p (fY d w t).1
def WV.ext{p st:List Int}{w:List af}{d:Da}{t:St}{k:Nat}(h:WV v L p st w d t)(e:Ext L L' k):WV v L' p st w d t:=by
 have l:∀{x:Int} {o:Option Nat},bO L x=true->de v L x=o->bO L' x=true/\de v L' x=o:=λa b=>by
  obtain⟨m,q⟩:=zok (v:=v) e a;exact⟨m,by rw[q,b]⟩
 refine⟨h.num,λi hi=>?_,λf=>?_,λf=>(h.done f).same e⟩
 .obtain⟨x,n,a,b,c,d⟩:=h.ahead i hi;obtain⟨g,j⟩:=l b c;exact⟨x,n,a,g,j,d⟩
 .obtain⟨x,a,b,c⟩:=h.stop f;obtain⟨g,j⟩:=l b c;exact⟨x,a,g,j⟩
variable {G:aP}
def kA(s:St)(n:Nat):a_ n s.cs=s.cs:=by simp[St.cs,V.cl,iW,av,aam]
def Gi(d:Da)(n:Nat):a_ n d.cs=d.cs:=by simp[Da.cs,V.cl,iW,av,aam]
def O9(s:St):s.cs.map V.k9=s.cs:=by simp[St.cs,av,aam,V.k9]
def O_(d:Da):d.cs.map V.k9=d.cs:=by simp[Da.cs,av,aam,V.k9]
def La{s:St}(h:s.ok):s.cs.length=18:=by simp[St.cs,h.2.2.1]
def Tx{d:Da}(h:d.ok):d.cs.length=9:=by simp[Da.cs,h.2.2.2.1]
def CB(live p:Nat):Bool:=live/2^p%2==1
def BD(live:Nat)(x y:List Nat)(p:Nat):Bool:=CB live p&&(x.getD p 0 !=y.getD p 0)
def Tz(live:Nat)(x y:List Nat):Bool:=(aaJ 18).any (BD live x y)
def BE(v w:List af)(live:Nat)(s:St)(d:Da):Bool :=
 if(fY d v s).2<v.length\/(fY d w s).2<w.length then !(decide ((fY d v s).2<v.length)&&decide ((fY d w s).2<w.length))
 else Tz live (rk (fY d v s).1 d) (rk (fY d w s).1 d)
def zyB[cU G](live p:Nat)(a:live<4294967296)(e:p<=31):FP G 307 [.int .u32 live,.int .i64 p] (.bool (CB live p)):=by
 refine bA cU.adU (aag rfl) ?_;have b:live/2^p<4294967296:=Nat.lt_of_le_of_lt (Nat.div_le_self _ _) a
 have c:(((live/2^p%2:Nat):Int)==1)=CB live p:=by unfold CB;rw[ab0,beq_iff_eq,beq_iff_eq];omega
 have d:((p:Int)<0)=False:=af9;simp(disch:=omega)[zV,zDf b,c,d,-abd,-aaC,-ab1]
def zyC{live:Nat}{x y:List Nat}{i:Nat}(hi:i<18)(h:BD live x y i=true):Tz live x y=true :=
 abe.2 ⟨i,aaL.2 hi,h⟩
def zAI{live:Nat}{x y:List Nat}(h:∀j<18,BD live x y j=false):Tz live x y=false:=by rw[Tz,List.any_eq_false];intro j a;rw[h j (aaL.1 a)];decide
def zyD[ef G][dM G][aE G][aD G][bQ G][dp G][aQ G][db G][dc G][cU G](v w:List af)(live:Nat)(s:St)(d:Da)(W:v.length<=maxLen)(Z:w.length<=maxLen)
  (C:∀x∈v,x.k<4294967296) (D:∀x∈w,x.k<4294967296) (iH:live<4294967296) (e:s.ok) (hd:d.ok) :
  FP G 308 [FL v,FL w,.int .u32 live,SV s,DV d] (.bool (aY v&&aY w&&BE v w live s d)):=by
 refine bA cU.adV (aag rfl) ?_;have Gz:=AD (G:=G) v W C;have Qm:=AD (G:=G) w Z D;have sl:=La e;have o:=Tx hd;have st:=aaf (i:=18) (l:=s.cs) an;have dt:=aaf (i:=9) (l:=d.cs) an;have sd:s.cs.drop 18=[]:=aal an;have dd:d.cs.drop 9=[]:=aal an;simp only[FL] at Gz Qm;simp[FL,SV,DV];refine aw Gz ?_
 cases hv:aY v with
 | false=>simp
 | true =>
  simp;refine aw Qm ?_
  cases hw:aY w with
  | false=>simp
  | true =>
   have E:=ztj (G:=G) v s d W C e hd hv;have c:=ztj (G:=G) w s d Z D e hd hw;have r:=Ta hd v s e C;have t:=Ta hd w s e D;have Fh:=S_ d v s;have Fi:=S_ d w s;have F:BE v w live s d=BE v w live s d:=rfl
   conv at F=>rhs;unfold BE
   obtain⟨A,H⟩:=ax ((fY d v s).1);obtain⟨n,I⟩:=ax ((fY d v s).2);obtain⟨B,J⟩:=ax ((fY d w s).1);obtain⟨m,K⟩:=ax ((fY d w s).2);rw[<-H,<-I] at E;rw[<-J,<-K] at c;rw[<-H,<-J,<-I,<-K] at F;rw[<-H] at r;rw[<-J] at t;rw[<-I] at Fh;rw[<-K] at Fi;rw[F];have al:=La r;have bl:=La t;have L:=aaf (i:=18) (l:=A.cs) an;have M:=aaf (i:=18) (l:=B.cs) an
   have x1:=zoe (G:=G) A d r hd;have x2:=zoe (G:=G) B d t hd
   have u:(rk A d).length=34:=by rw[<-zsh hd];exact zp7 r hd an
   have y:(rk B d).length=34:=by rw[<-zsh hd];exact zp7 t hd an
   obtain⟨X,N⟩:=ax (rk A d);obtain⟨Y,O⟩:=ax (rk B d);rw[<-N] at x1 u;rw[<-O] at x2 y;simp only[FL,SV,DV] at E c x1 x2;simp[sl,o,st,dt,kA,Gi,O9,O_];refine aw E ?_;simp[sl,o,st,dt,al,kA,Gi,O9,O_];refine aw c ?_;have c1:((n:Int)<(v.length:Int))=(n<v.length):=propext an;have c2:((m:Int)<(w.length:Int))=(m<w.length):=propext an;simp[bl,c1,c2]
   by_cases z:n<v.length
   .by_cases f:m<w.length
    .simp[z,f]
    .simp[z,f]
   by_cases f:m<w.length
   .simp[z,f]
   simp[z,f,o,dt,al,L,kA,Gi,O9,O_];refine aw x1 ?_;simp[o,dt,bl,M,kA,Gi,O9,O_];refine aw x2 ?_;have xt:=aaf (i:=34) (l:=av .u32 X) (by simp;omega);have yt:=aaf (i:=34) (l:=av .u32 Y) (by simp;omega);have xd:(av .u32 X).drop 34=[]:=aal (by simp;omega);have yd:(av .u32 Y).drop 34=[]:=aal (by simp;omega);simp[u,y]
   refine aN 18 (λi=>[(2,.int .u32 live),(17,.ptr 4 0),(18,.ptr 5 0),(63,.int .i64 i)])
    (λi=>[some (.cells s.cs),some (.cells d.cs),some (.cells A.cs),some (.cells B.cs),some (.cells (av .u32 X)),some (.cells (av .u32 Y))]) (λi=>∀j<i,BD live X Y j=false) ?_ ?_
   .simp[au,ak,kA,Gi]
   intro i hi P
   by_cases Q:i<18
   .have jz:=zyB (G:=G) live i iH an;have R:=sn .u32 X i an;have S:=sn .u32 Y i an
    have gx:X.getD i 0=X[i]'(by omega):=by simp[aa4,aad (show i<X.length by omega)]
    have gy:Y.getD i 0=Y[i]'(by omega):=by simp[aa4,aad (show i<Y.length by omega)]
    have a:BD live X Y i=BD live X Y i:=rfl
    conv at a=>rhs;rw[BD,gx,gy]
    obtain⟨p,Js⟩:=ax (X[i]'(by omega));obtain⟨q,g⟩:=ax (Y[i]'(by omega));rw[<-Js,<-g] at a;rw[<-Js] at R;rw[<-g] at S;simp(disch:=omega)[bC];refine aw jz ?_
    cases c:CB live i with
    | false =>
     rw[c,abE] at a
     have T:∀j<i+1,BD live X Y j=false:=λj U=>by
      rcases aao.1 U with h|rfl
      .exact P j h
      .exact a
     simp(disch:=omega)[Q,bF,au,ak,kA,Gi,-aae]
     exact T
    | true =>
     rw[c,abt] at a
     by_cases b:p=q
     .have V:BD live X Y i=false:=by rw[a,b];simp
      have T:∀j<i+1,BD live X Y j=false:=λj U=>by
       rcases aao.1 U with h|rfl
       .exact P j h
       .exact V
      simp(disch:=omega)[bC,aA,Q,u,y,R,S,b,bF,au,ak,kA,Gi,-aae];exact T
     .have V:BD live X Y i=true:=by rw[a];simp[b]
      have:=zyC Q V;simp(disch:=omega)[bC,aA,u,y,R,S,jY (show(p:Int)≠q by omega),this,<-N,<-O]
   .have aC:i=18:=an
    subst aC;simp[zAI P,<-N,<-O]
def yp(i:Nat):List Nat:=[0,4294967295,1,2147483648,3+7*i,16843009*(i+1),2,65535,1431655765,2863311530*2^(i%3)%4294967296,i%2,i*2654435769%4294967296]
def ma(k:Nat):List Nat:=(aaJ 34).map λi=>(yp i).getD k 0
def Jg(k:Nat):(ma k).length=34:=by simp[ma]
def zAJ{i:Nat}(hi:i<34):∀x∈yp i,x<4294967296:=by
 intro x a;simp only[yp,aay,aaK,or_false] at a
 rcases a with rfl|rfl|rfl|rfl|rfl|rfl|rfl|rfl|rfl|rfl|rfl|rfl<;>omega
def zE2(k:Nat):∀x∈ma k,x<4294967296:=by
 intro x a;simp only[ma,aa2,aaL] at a;obtain⟨i,hi,rfl⟩:=a;rw[aa4]
 cases b:(yp i)[k]? with
 | none=>decide
 | some y=>exact zAJ hi y (aan b)
def v_(k i:Nat):List Nat:=(ma k).take i++aR (34-i)
def zom{k i:Nat}(hi:i<=34):(v_ k i).length=34:=by simp[v_,Jg];omega
def zCX(k:Nat):v_ k 34=ma k:=by rw[v_,aaf (by rw[Jg];exact aaH _)];simp[aR]
def zAK{k i:Nat}(hi:i<34):(v_ k i).set i ((yp i).getD k 0)=v_ k (i+1):=by
 have a:(ma k)[i]'(by rw[Jg];omega)=(yp i).getD k 0:=by simp[ma]
 rw[v_,v_,abF _ _ (by rw[aau];omega),aau,Nat.min_eq_left (by rw[Jg];omega),Nat.sub_self,List.take_succ_eq_append_getElem (by rw[Jg];omega),a,aar]
 congr 1
 rw[show 34-i=(34-(i+1))+1 by omega];rfl
def zGq{a b:Nat}:da .u32 (a:Int) (b:Int)=((a*b%4294967296:Nat):Int):=by unfold da;rw[<-abg];simp only[IntKind.wrap,IntKind.bits,IntKind.signed];simp
section
variable {α:Type} {f:Nat->Option α} {hit:α->Bool} {n i:Nat}
def zm7(h:∀j<n,∀r,f j=some r->hit r=false):((aaJ n).filterMap f).find? hit=none:=by rw[abr];intro r a;obtain⟨j,b,c⟩:=aaZ.1 a;rw[h j (aaL.1 b) r c];decide
def zvE(hi:i<n)(h:∀j<i,∀r,f j=some r->hit r=false){r:α}(a:f i=some r)(b:hit r=true):((aaJ n).filterMap f).find? hit=some r:=by obtain⟨m,rfl⟩:∃m,n=i+(m+1):=⟨n-i-1,an⟩;rw[List.range_add,List.filterMap_append,abb,zm7 h,Option.none_or];rw[List.range_succ_eq_map,abc,List.filterMap_cons];simp only[aby,a,List.find?_cons,b]
end
noncomputable def Ei(L:List Nd)(p q:List Int)(live i:Nat):Option (List Nat):=if CB live i=true/\(sW L (p.getD i 0) (q.getD i 0)).2=true then some (sW L (p.getD i 0) (q.getD i 0)).1 else none
noncomputable def sg(L:List Nd)(p q:List Int)(live:Nat):List (List Nat):=(aaJ 18).filterMap (Ei L p q live)++(aaJ 12).filterMap λk=>some (ma k)
def TC{L:List Nd}{p q:List Int}{live:Nat}{r:List Nat}(h:r∈sg L p q live):r.length=34/\∀x∈r,x<4294967296:=by
 rw[sg,aaz] at h
 rcases h with h|h
 .obtain⟨j,b,a⟩:=aaZ.1 h;unfold Ei at a;split at a
  .cases a;exact zxw _ _ _
  .cases a
 .obtain⟨j,b,a⟩:=aaZ.1 h;cases a;exact⟨Jg _,zE2 _⟩
section
variable {H:ae} {b z m:Nat} {L:List Nd}
def Pa{A X:ae}{n:Nat}(h:ak n A=A)(a:A.length=n):ak n (A++X)=A:=by unfold ak at h |-;rw[ab2 a];rwa[aaf (Nat.le_of_eq a)] at h
def zAL[bP G][ar G][S:eg G][aM G][cd G][cU G][eU G](h:Bk H b z m L)(hi:Inv L){id i1 i2 i3 i4 live:Nat}{p q s t:List Int}(iH:live<4294967296)
  (T:H[i1]?=some (some (.cells [.int .u32 live]))) (U:H[i2]?=some (some (.cells [.ptr b 0]))) (W:H[i3]?=some (some (.cells (vcs p s .no)))) (Y:H[i4]?=some (some (.cells (vcs q t .no))))
  (hp:p.length=18) (hq:q.length=18) (o:id<H.length) {hit:List Nat->Bool} {H':List Nat->ae}
  (xC:∀r∈sg L p q live,hit r=false->∀X:ae,(∀n,X.map (aat (az.cl n))=X)->YS G id [.agg (av .u32 r)] (H++X) true (H++X))
  (jd:∀r∈sg L p q live,hit r=true->∀X:ae,(∀n,X.map (aat (az.cl n))=X)->YS G id [.agg (av .u32 r)] (H++X) false (H' r++X))
  (nR:∀r∈sg L p q live,hit r=true->ak H.length (H' r)=H' r/\(H' r).length=H.length) :
  SF G 310 [.yld id,.ptr i1 0,.ptr i2 0,.ptr i3 0,.ptr i4 0] H (.bf []) (match(sg L p q live).find? hit with|some r=>H' r|none=>H):=by
 refine j_ eU.adX (aag rfl) ?_;have w:i1<H.length:=(aab.1 T).1;have A:i2<H.length:=(aab.1 U).1;have B:i3<H.length:=(aab.1 W).1;have C:i4<H.length:=(aab.1 Y).1;have D:=h.shut.self;have Z:=h.shut.back;have iv:=h.lb;have g1:=(aab.1 T).2;have g2:=(aab.1 U).2;have g3:=(aab.1 W).2;have g4:=(aab.1 Y).2
 have e1:∀X:ae,(H++X)[i1]?=some (some (.cells [.int .u32 live])):=λX=>by rw[aai w];exact T
 have e2:∀X:ae,(H++X)[i2]?=some (some (.cells [.ptr b 0])):=λX=>by rw[aai A];exact U
 have e3:∀X:ae,(H++X)[i3]?=some (some (.cells (vcs p s .no))):=λX=>by rw[aai B];exact W
 have e4:∀X:ae,(H++X)[i4]?=some (some (.cells (vcs q t .no))):=λX=>by rw[aai C];exact Y
 have HO:∀(X:ae) h,(H++X)[i1]'h=some (.cells [.int .u32 live]):=λX h=>(aab.1 (e1 X)).2;have Ce:∀(X:ae) h,(H++X)[i2]'h=some (.cells [.ptr b 0]):=λX h=>(aab.1 (e2 X)).2;have ho:∀(X:ae) h,(H++X)[i3]'h=some (.cells (vcs p s .no)):=λX h=>(aab.1 (e3 X)).2;have ht:∀(X:ae) h,(H++X)[i4]'h=some (.cells (vcs q t .no)):=λX h=>(aab.1 (e4 X)).2;have k0:∀(r:ae) x,(H++r).set H.length x=H++r.set 0 x:=λr x=>sj rfl x
 have kk:∀r:ae,(H++r)[H.length]?=r[0]?:=λr=>nJ rfl;have lp:=Fl (st:=s) (tk:=.no) hp;have lq:=Fl (st:=t) (tk:=.no) hq
 have ha:Bk (H++[none]) b z m L:=h.app λn=>by simp
 have p_:H.map (aat (az.cl H.length))=H:=by have:=D;unfold ak at this;rwa[aaf (aaH _)] at this
 simp;refine aN 18 (λi=>[(0,.yld id),(1,.ptr i1 0),(2,.ptr i2 0),(3,.ptr i3 0),(4,.ptr i4 0),(12,.int .i64 i)]) (λ_=>H) (λi=>∀j<i,∀r,Ei L p q live j=some r->hit r=false) ?_ ?_
 .simp[au,D,o,w,A,B,C]
 intro i sI O
 by_cases e:i<18
 .have jz:=zyB (G:=G) live i iH an;simp(disch:=omega)[bC,g1];refine aw jz ?_
  cases hb:CB live i with
  | false =>
   have he:∀j<i+1,∀r,Ei L p q live j=some r->hit r=false:=λj E r c=>by
    rcases aao.1 E with h|rfl
    .exact O j h r c
    .simp[Ei,hb] at c
   simp(disch:=omega)[e,bF,au,D,o,w,A,B,C,-aae]
   exact he
  | true =>
   obtain⟨x,hx⟩:=ax (p.getD i 0);obtain⟨y,hy⟩:=ax (q.getD i 0)
   have gx:x=p[i]'(by omega):=by rw[hx];simp[aa4,aad (show i<p.length by omega)]
   have gy:y=q[i]'(by omega):=by rw[hy];simp[aa4,aad (show i<q.length by omega)]
   have vx:=HJ (p:=p) (st:=s) (tk:=.no) hp e;have vy:=HJ (p:=q) (st:=t) (tk:=.no) hq e;rw[<-gx] at vx;rw[<-gy] at vy;have fi:=zE1 (G:=G) x y ha hi;have F:=zxw L x y
   have I:Ei L p q live i=if(sW L x y).2=true then some (sW L x y).1 else none:=by rw[hx,hy];simp[Ei,hb]
   obtain⟨r,c⟩:=ax ((sW L x y).1);obtain⟨P,jy⟩:=ax ((sW L x y).2);rw[<-c,<-jy] at fi I;rw[<-c] at F;have rt:=e_ (k:=.u32) F.1;have rd:(av .u32 r).drop 34=[]:=aal (by simp[F.1]);simp(disch:=omega)[bC,aA,leFn,e2,e3,e4,lp,lq,vx,vy];refine zyR fi ⟨?_,?_,rfl⟩ ?_
   .intro v hv;simp only[aay,aaK,or_false] at hv
    rcases hv with rfl|rfl|rfl<;>simp[V.cl,iv]
   .simp only[ab3,p_,abc,abA,Option.map_none]
   simp(disch:=omega)[k0,kk,F.1]
   have yy:P=true->r∈sg L p q live:=λh=>by
    rw[sg,aaz];exact .inl (aaZ.2 ⟨i,aaL.2 e,by rw[I,if_pos h]⟩)
   have Pf:(∀Q,Ei L p q live i=some Q->hit Q=false)->∀j<i+1,∀r,Ei L p q live j=some r->hit r=false:=λh0 j E r c=>by
    rcases aao.1 E with h|rfl
    .exact O j h r c
    .exact h0 r c
   cases P with
   | false =>
    have:=Pf λQ h=>by rw[I] at h;cases h
    simp(disch:=omega)[e,bF,au,Z,o,w,A,B,C,-aae]
    exact this
   | true =>
    have J:∀n,([some (az.cells (av .u32 r))]:ae).map (aat (az.cl n))=[some (az.cells (av .u32 r))]:=λn=>by simp[az.cl]
    simp(disch:=omega)[kk,F.1,rt]
    cases d:hit r with
    | false =>
     refine Ch (xC r (yy rfl) d _ J) ?_
     have:=Pf λQ h=>by rw[I,if_pos rfl] at h;cases h;exact d
     simp(disch:=omega)[e,bF,au,Z,o,w,A,B,C,-aae]
     exact this
    | true =>
     refine Ch (jd r (yy rfl) d _ J) ?_;obtain⟨lP,iI⟩:=nR r (yy rfl) d;have hf:=zvE e O (by rw[I,if_pos rfl]) d
     have K:(sg L p q live).find? hit=some r:=by rw[sg,abb,hf];rfl
     simp[K,Pa lP iI]
 .have M:i=18:=an
  subst M;have S:=zm7 O;simp;refine aN 12 (λk=>[(0,.yld id),(40,.int .u32 k)]) (λ_=>H) (λk=>∀j<k,∀r,(some (ma j):Option (List Nat))=some r->hit r=false) ?_ ?_
  .simp[au,D,o]
  intro k hk qh
  by_cases u:k<12
  .have hu:[V.int .u32 0,.int .u32 0]=[V.int .u32 0,.int .u32 0]:=rfl
   have hs:∀i,ak (H.length+1) (H++[some (.cells (av .u32 (v_ k i)))])=H++[some (.cells (av .u32 (v_ k i)))]:=λi=>by
    have:=(h.app (r:=[some (.cells (av .u32 (v_ k i)))]) λn=>by simp[az.cl]).shut.self;simpa using this
   simp(disch:=omega)[bC,kk,k0];refine aN 34 (λi=>[(0,.yld id),(9,.int .u32 k),(10,.ptr H.length 0),(40,.int .u32 k),(43,.int .i64 i)]) (λi=>H++[some (.cells (av .u32 (v_ k i)))]) (λ_=>True) ?_ ?_
   .have:=hs 0;rw[show v_ k 0=aR 34 by simp[v_]] at this;simp[au,this,v_,show id<H.length+1 by omega]
   intro i hi _
   by_cases R:i<34
   .have r3:iu (i:Int) 3=((i%3:Nat):Int):=zz (b:=3);have r2:iu (i:Int) 2=((i%2:Nat):Int):=zz (b:=2);have hg:(((i%3:Nat):Int)<0)=False:=af9;have s3:je .u32 2863311530 ((i%3:Nat):Int)=((2863311530*2^(i%3)%4294967296:Nat):Int):=Li (a:=2863311530) an;have c1:eO .u32 (i:Int)=(i:Int):=uN an;have c2:eO .u32 ((i+1:Nat):Int)=((i+1:Nat):Int):=uN an;have c3:eO .u32 ((i%2:Nat):Int)=((i%2:Nat):Int):=uN an
    have m1:da .u32 7 (i:Int)=((7*i:Nat):Int):=LO (a:=7) an
    have a1:aB .u32 3 ((7*i:Nat):Int)=((3+7*i:Nat):Int):=by unfold aB;rw[show(3:Int)+((7*i:Nat):Int)=((3+7*i:Nat):Int) by omega];exact uN an
    have m2:da .u32 16843009 ((i+1:Nat):Int)=((16843009*(i+1):Nat):Int):=LO (a:=16843009) an;have m3:da .u32 (i:Int) 2654435769=((i*2654435769%4294967296:Nat):Int):=zGq (b:=2654435769)
    have hc:∀f:Nat,f=2863311530*2^(i%3)%4294967296->∀g:Nat,g=i*2654435769%4294967296->[V.int .u32 0,.int .u32 4294967295,.int .u32 1,.int .u32 2147483648,.int .u32 ((3+7*i:Nat):Int),.int .u32 ((16843009*(i+1):Nat):Int),.int .u32 2,.int .u32 65535,.int .u32 1431655765,.int .u32 (f:Int),.int .u32 ((i%2:Nat):Int),.int .u32 (g:Int)]=av .u32 (yp i):=by rintro f rfl g rfl;rfl
    obtain⟨f,N⟩:=ax (2863311530*2^(i%3)%4294967296);obtain⟨g,Ph⟩:=ax (i*2654435769%4294967296);have hc:=hc f N g Ph;rw[<-N] at s3;rw[<-Ph] at m3;have hl:av .u32 (aR 12)=[V.int .u32 0,.int .u32 0,.int .u32 0,.int .u32 0,.int .u32 0,.int .u32 0,.int .u32 0,.int .u32 0,.int .u32 0,.int .u32 0,.int .u32 0,.int .u32 0]:=rfl;have lc:(yp i).length=12:=rfl;have cg:=sn .u32 (yp i) k (by rw[lc];exact u)
    have hm:(yp i)[k]'(by rw[lc];exact u)=(yp i).getD k 0:=by simp[aa4,aad (show k<(yp i).length from u)]
    rw[hm] at cg;have l:=xJ .u32 (v_ k i) i ((yp i).getD k 0) (by rw[zom hi];exact R);rw[zAK R] at l;obtain⟨cv,HR⟩:=ax ((yp i).getD k 0);rw[<-HR] at cg l;simp(disch:=omega)[bC,r3,r2,hg,s3,c1,bF,c2,c3,m1,a1,m2,m3,hl,-aae,-abg,-aaC];have lr:=zom hi (k:=k);have hw:=zom (show i+1<=34 from R) (k:=k);rw[hc,cg];simp(disch:=omega)[bC,aA,R,show k<=11 by omega,kk,k0,lr,l,hs,au,bF,show id<H.length+1 by omega,-aae]
   .have M:i=34:=an
    subst M
    have J:∀n,([some (az.cells (av .u32 (ma k)))]:ae).map (aat (az.cl n))=[some (az.cells (av .u32 (ma k)))]:=λn=>by simp[az.cl]
    have jZ:ma k∈sg L p q live:=by rw[sg,aaz];exact .inr (aaZ.2 ⟨k,aaL.2 u,rfl⟩)
    have rl:=Jg k;have rt:=e_ (k:=.u32) rl
    have ck:aB .u32 (k:Int) 1=((k+1:Nat):Int):=by unfold aB;rw[show(k:Int)+1=((k+1:Nat):Int) by omega];exact uN an
    simp[zCX,rl,rt]
    cases d:hit (ma k) with
    | false =>
     refine Ch (xC _ jZ d _ J) ?_
     have hn:∀j<k+1,∀r,(some (ma j):Option (List Nat))=some r->hit r=false:=λj E r c=>by
      rcases aao.1 E with h|rfl
      .exact qh j h r c
      .cases c;exact d
     simp(disch:=omega)[u,ck,au,Z,o,-aae]
     simpa using hn
    | true =>
     refine Ch (jd _ jZ d _ J) ?_;obtain⟨lP,iI⟩:=nR _ jZ d;have hB:=zvE u qh rfl d
     have K:(sg L p q live).find? hit=some (ma k):=by rw[sg,abb,S,hB];rfl
     simp[K,Pa lP iI]
  .have M:k=12:=an
   subst M;have hB:=zm7 qh
   have K:(sg L p q live).find? hit=none:=by rw[sg,abb,S,hB];rfl
   simp[K,D]
end
open Go Go.RowKit
variable {G:aP}
def CC(p q:List Int)(live i:Nat):Bool:=CB live i&&(p.getD i 0 !=q.getD i 0)
def zt(p q s t:List Int)(live:Nat):Bool:=!((aaJ 18).any (CC p q live))&&decide (s=t)
def zAM{p q s t:List Int}{live:Nat}:zt p q s t live=true↔(∀i<18,CC p q live i=false)/\s=t:=by simp[zt]
def zAN{p q s t:List Int}{live i:Nat}(hi:i<18)(h:CC p q live i=true):zt p q s t live=false:=by have:(aaJ 18).any (CC p q live)=true:=abe.2 ⟨i,aaL.2 hi,h⟩;simp only[zt,this,Bool.not_true,abE]
def ztx{p q s t:List Int}{live:Nat}(h:s≠t):zt p q s t live=false:=by simp[zt,h]
def zE3[cU G][eU G](p q s t:List Int)(live:Nat)(K:live<4294967296)(u:p.length=18)(v:q.length=18)(X:s.length<=1000000) :
  FP G 309 [.agg (vcs p s .no),.agg (vcs q t .no),.int .u32 live] (.bool (zt p q s t live)):=by
 refine bA eU.adW (aag rfl) ?_;have m:=Fl (st:=s) (tk:=.no) u;have f:=Fl (st:=t) (tk:=.no) v
 have g:∀n,a_ n (vcs p s .no)=vcs p s .no:=λn=>by rw[iW,vcs];simp[mX,aam,V.cl,Tk.cl]
 have k:∀n,a_ n (vcs q t .no)=vcs q t .no:=λn=>by rw[iW,vcs];simp[mX,aam,V.cl,Tk.cl]
 have L:(vcs p s .no).map V.k9=vcs p s .no:=by simp[vcs,mX,aam,V.k9]
 have M:(vcs q t .no).map V.k9=vcs q t .no:=by simp[vcs,mX,aam,V.k9]
 have sp:=Xk (st:=s) (tk:=.no) u;have r:=Xk (st:=t) (tk:=.no) v;obtain⟨P,E⟩:=ax (vcs p s .no);obtain⟨Q,F⟩:=ax (vcs q t .no);simp only[<-E,<-F] at m f g k L M sp r |-;simp;refine aN 18 (λi=>[(2,.int .u32 live),(3,.ptr 0 0),(4,.ptr 1 0),(10,.int .i64 i)]) (λ_=>[some (.cells P),some (.cells Q)]) (λi=>∀j<i,CC p q live j=false) ?_ ?_
 .simp[au,ak,g,k]
 intro i hi H
 by_cases b:i<18
 .have N:=zyB (G:=G) live i K an;obtain⟨x,c⟩:=ax (p.getD i 0);obtain⟨y,d⟩:=ax (q.getD i 0)
  have O:x=p[i]'(by omega):=by rw[c];simp[aa4,aad (show i<p.length by omega)]
  have R:y=q[i]'(by omega):=by rw[d];simp[aa4,aad (show i<q.length by omega)]
  have w:=HJ (p:=p) (st:=s) (tk:=.no) u b;have z:=HJ (p:=q) (st:=t) (tk:=.no) v b;rw[<-O,<-E] at w;rw[<-R,<-F] at z
  have o:CC p q live i=(CB live i&&(x !=y)):=by rw[c,d];rfl
  have I:CC p q live i=false->∀j<i+1,CC p q live j=false:=λS j T=>by
   rcases aao.1 T with h|rfl
   .exact H j h
   .exact S
  simp(disch:=omega)[bC];refine aw N ?_
  cases J:CB live i with
  | false =>
   rw[J,abE] at o;simp(disch:=omega)[b,bF,au,ak,g,k,-aae]
   exact I o
  | true =>
   rw[J,abt] at o
   by_cases a:x=y
   .have A:CC p q live i=false:=by rw[o,a];simp
    simp(disch:=omega)[bC,aA,m,f,w,z,a,b,bF,au,ak,g,k,-aae];exact I A
   .have A:CC p q live i=true:=by rw[o];simp[a]
    simp(disch:=omega)[bC,aA,m,f,w,z,jY a,zAN b A]
 .have e:i=18:=an
  subst e;simp[m,f,sp,r]
  by_cases l:s.length=t.length
  .simp[l,m,sp];refine aN s.length (λi=>[(4,.ptr 1 0),(36,.vs (ints .i64 s) .no),(37,.int .i64 s.length),(38,.int .i64 i)]) (λ_=>[some (.cells P),some (.cells Q)]) (λi=>s.take i=t.take i) ?_ ?_
   .simp[au,ak,g,k,l]
   intro i hi B
   by_cases b:i<s.length
   .have C:(ints .i64 s)[i]?=some [.int .i64 s[i]]:=by simp[b]
    have D:(ints .i64 t)[i]?=some [.int .i64 (t[i]' an)]:=by simp[show i<t.length by omega]
    obtain⟨x,c⟩:=ax (s[i]);obtain⟨y,d⟩:=ax (t[i]'(by omega));rw[<-c] at C;rw[<-d] at D;have c:=c.symm;have d:=d.symm
    by_cases a:x=y
    .have U:s.take (i+1)=t.take (i+1):=by rw[aas,aas,B,aad b,aad (show i<t.length by omega),c,d,a]
     simp(disch:=omega)[bC,l,f,r,C,D,a,bF,au,ak,g,k,U,show i<t.length by omega,-aae]
    .have e:s≠t:=by rintro rfl;exact a (c.symm.trans d)
     simp(disch:=omega)[bC,l,f,r,C,D,jY a,ztx e]
   .have e:i=s.length:=an
    subst e;rw[aaF,l,aaF] at B;simp[zAM.2 ⟨H,B⟩]
  .have e:s≠t:=λh=>l (by rw[h]);have W:((s.length:Int) !=(t.length:Int))=true:=jY an;simp[W,ztx e]
def dK(c:Int):Option (List Nat)->List V
 | some r=>.int .i64 c::((vD r).cs++(mr (r.drop 18)).cs)
 | none=>.int .i64 c::(av .u32 (aR 20)++av .u64 (aR 7))
def sX:ba:=.region 1 [⟨some 13,.alloc 0 (av .u32 (aR 34)),none⟩,⟨none,.store 34 (.t 13) (.t 46),none⟩]
def sY:ba:=.block 1 (.seq (.region 2 [⟨some 48,.load 34 true false (.t 13),none⟩,⟨some 49,.pcall 294 [.t 48],none⟩,⟨some 47,.mv (.t 49),none⟩,⟨some 50,.ext 0 (.t 47),none⟩,⟨some 51,.ext 1 (.t 47),none⟩,⟨some 14,.alloc 0 (av .u32 (aR 18)),none⟩,
 ⟨some 15,.alloc 1 [.int .u32 0,.int .u32 0,.int .u64 0,.int .u64 0,.int .u64 0,.int .u64 0,.int .u64 0,.int .u64 0,.int .u64 0],none⟩,⟨none,.store 18 (.t 14) (.t 50),none⟩,⟨none,.store 9 (.t 15) (.t 51),none⟩])
 (.seq (.keep [3,4,5,6,7,14,15]) (.seq (.region 0 [⟨some 52,.load 1 false false (.t 3),none⟩,⟨some 53,.load 1 false false (.t 4),none⟩,⟨some 54,.load 1 false false (.t 5),none⟩,⟨some 55,.load 18 true false (.t 14),none⟩,⟨some 56,.load 9 true false (.t 15),none⟩,
  ⟨some 57,.pcall 308 [.t 52,.t 53,.t 54,.t 55,.t 56],none⟩]) (.seq (.keep [6,7,14,15,57]) (.cond (.t 57) (.seq (.region 0 [⟨some 58,.load 18 true false (.t 14),none⟩,⟨some 59,.load 9 true false (.t 15),none⟩,
   ⟨some 60,.build (dK 0 none) [(0,1,.c (.int .i64 1)),(1,18,.t 58),(19,9,.t 59)],none⟩,⟨none,.store 28 (.t 6) (.t 60),none⟩,⟨none,.store 1 (.t 7) (.c (.int .i64 0)),none⟩]) .ret) .skip)))))
def jv:List (Nat×V):=[(3,.ptr 0 0),(4,.ptr 1 0),(5,.ptr 2 0),(6,.ptr 3 0),(7,.ptr 4 0)]
structure BI (N:ae) (v w:List af) (live:Nat):Prop where
 b0:N[0]?=some (some (.cells [.vs (IL v) .no]))
 b1:N[1]?=some (some (.cells [.vs (IL w) .no]))
 b2:N[2]?=some (some (.cells [.int .u32 live]))
 b3:N[3]?=some (some (.cells (dK 0 none)))
 b4:N[4]?=some (some (.cells [.int .i64 0]))
 lo:N[14]?=some (some (.loop jv [46] sX sY .ready))
 shut:gV N
def BI.app{N:ae}{v w:List af}{live:Nat}(h:BI N v w live){X:ae}(a:∀n,X.map (aat (az.cl n))=X):BI (N++X) v w live:=by
 have b:=(aab.1 h.lo).1;refine⟨?_,?_,?_,?_,?_,?_,h.shut.app a⟩
 all_goals rw[aai an]
 .exact h.b0
 .exact h.b1
 .exact h.b2
 .exact h.b3
 .exact h.b4
 .exact h.lo
def jw(N:ae)(r:List Nat):ae:=((N.set 3 (some (.cells (dK 1 (some r))))).set 4 (some (.cells [.int .i64 0]))).set 14 (some (.loop jv [46] sX sY (.done .ret)))
def zCY{N X:ae}{r:List Nat}(h:14<N.length):jw (N++X) r=jw N r++X:=by unfold jw;rw[aaq _ _ an,aaq _ _ (by simp;omega),aaq _ _ (by simp;omega)]
def zoo{N:ae}(h:gV N)(g:14<N.length)(r:List Nat):gV (jw N r):=by
 intro m b
 have c:N.length<=m:=by simpa[jw] using b
 have d:a_ m (dK 1 (some r))=dK 1 (some r):=by simp[dK,iW,V.cl,St.cs,Da.cs,av,aam]
 unfold jw;rw[abh,abh,abh,h m c]
 have a:(az.loop jv [46] sX sY (.done .ret)).cl m=.loop jv [46] sX sY (.done .ret):=by simp[az.cl,jv,V.cl,show 0<m by omega,show 1<m by omega,show 2<m by omega,show 3<m by omega,show 4<m by omega]
 have e:(az.cells (dK 1 (some r))).cl m=.cells (dK 1 (some r)):=by rw[az.cl,d]
 have f:(az.cells [V.int .i64 0]).cl m=.cells [.int .i64 0]:=by simp[az.cl,a_,V.cl]
 simp only[Option.map_some,a,e,f]
def zAO[ef G][dM G][aE G][aD G][bQ G][dC G][dp G][aQ G][db G][dc G][b_ G][cU G]
  {N:ae} {v w:List af} {live:Nat} (h:BI N v w live) (X:v.length<=maxLen) (Y:w.length<=maxLen) (Z:∀x∈v,x.k<4294967296) (tQ:∀x∈w,x.k<4294967296) (iH:live<4294967296)
  (hv:aY v=true) (hw:aY w=true) {r:List Nat} (e:r.length=34) (C:∀x∈r,x<4294967296) {t:Bool} (ht:BE v w live (vD r) (mr (r.drop 18))=t) :
  YS G 14 [.agg (av .u32 r)] N (!t) (if t=true then jw N r else N):=by
 have E:=(aab.1 h.lo).1
 obtain⟨b,H',hy,rfl,rfl⟩:=zDo (R:=λb H'=>b=(!t)/\H'=if t=true then jw N r else N) (G:=G) (args:=[.agg (av .u32 r)]) h.lo rfl (by
  have rt:=e_ (k:=.u32) e;have rd:(av .u32 r).drop 34=[]:=aal (by simp[e]);have kk:∀r:ae,(N++r)[N.length]?=r[0]?:=λr=>nJ rfl;have k0:∀(r:ae) x,(N++r).set N.length x=N++r.set 0 x:=λr x=>sj rfl x
  have F:∀r:ae,(N++r)[14]?=some (some (.loop jv [46] sX sY .ready)):=λr=>by rw[aai E];exact h.lo
  simp[sX,jv,rZ,k0,e];refine⟨_,_,_,_,F _,?_⟩;obtain⟨B,g⟩:=ax (N.set 14 (some (.loop jv [46] sX sY .busy)))
  have d:B.length=N.length:=by rw[g];simp
  rw[aaq _ _ E,<-g];have Lb:∀r:ae,(B++r)[N.length]?=r[0]?:=λr=>nJ d;have ha:∀r:ae,(B++r)[N.length+1]?=r[1]?:=λr=>qX d 1;have j:∀r:ae,(B++r)[N.length+2]?=r[2]?:=λr=>qX d 2;have L:∀(r:ae) x,(B++r).set (N.length+1) x=B++r.set 1 x:=λr x=>x_ d 1 x;have H:∀(r:ae) x,(B++r).set (N.length+2) x=B++r.set 2 x:=λr x=>x_ d 2 x;have hb:∀r:ae,(B++r)[N.length+1+1]?=r[2]?:=j;have hc:∀(r:ae) x,(B++r).set (N.length+1+1) x=B++r.set 2 x:=H
  have M:∀(a b c:Option az) (r:ae) h,(B++a::b::c::r)[N.length+1+1]'h=c:=λa b c r h=>(aab.1 (j (a::b::c::r))).2
  have look:∀{p:Nat} {c:List V},N[p]?=some (some (.cells c))->p≠14->∀r:ae,(B++r)[p]?=some (some (.cells c)):=fun{p c} O aC r=>by
   rw[aai (by rw[d];exact(aab.1 O).1),g,aaI (Ne.symm aC)];exact O
  have q0:=look h.b0 aga;have q1:=look h.b1 aga;have q2:=look h.b2 aga;have I:=look h.b3 aga;have J:∀(r:ae) h,(B++r)[0]'h=some (.cells [.vs (IL v) .no]):=λr h=>(aab.1 (q0 r)).2;have EH:∀(r:ae) h,(B++r)[1]'h=some (.cells [.vs (IL w) .no]):=λr h=>(aab.1 (q1 r)).2;have EI:∀(r:ae) h,(B++r)[2]'h=some (.cells [.int .u32 live]):=λr h=>(aab.1 (q2 r)).2;have Lc:∀(r:ae) h,(B++r)[3]'h=some (.cells (dK 0 none)):=λr h=>(aab.1 (I r)).2
  have P:=zvt e C;have Q:=OU (w:=r.drop 18) (by simp[e]) (λx hx=>C x (aaO hx));have f:=zwk (G:=G) r e C;have q:=zyD (G:=G) v w live (vD r) (mr (r.drop 18)) X Y Z tQ iH P Q;rw[hv,hw,ht] at q;have s:=La P;have u:=Tx Q;have T:dK 1 (some r)=.int .i64 1::((vD r).cs++(mr (r.drop 18)).cs):=rfl;obtain⟨S,z⟩:=ax ((vD r).cs);obtain⟨D,A⟩:=ax ((mr (r.drop 18)).cs)
  have Sk:∀n,a_ n S=S:=λn=>by rw[z];exact kA _ n
  have Dk:∀n,a_ n D=D:=λn=>by rw[A];exact Gi _ n
  have Sn:S.map V.k9=S:=by rw[z];exact O9 _
  have Dn:D.map V.k9=D:=by rw[A];exact O_ _
  simp only[FL,SV,DV,abt] at f q;rw[<-z,<-A] at f q T;rw[<-z] at s;rw[<-A] at u;have St:=aaf (i:=18) (l:=S) an;have U:=aaf (i:=9) (l:=D) an;have Sd:S.drop 18=[]:=aal an;have Dd:D.drop 9=[]:=aal an;obtain⟨m,K⟩:=ax (dK 0 none)
  have Ld:m.length=28:=by rw[K];rfl
  simp only[<-K] at I Lc;simp[sY,d,e,rt,<-K];refine aw f ?_;simp[d,L,H];simp[d,M,L,H,s,u,St,U,Sk,Dk,Sn,Dn,J,EH,EI];refine aw q ?_
  have o:∀r:ae,(B++r)[14]?=some (some (.loop jv [46] sX sY .busy)):=λr=>by
   rw[aai an,g,aaR an]
  cases t with
  | false =>
   have iC:∀r:ae,ak N.length ((B++r).set 14 (some (.loop jv [46] sX sY .ready)))=N:=λr=>by
    rw[aaq _ _ an,g,ab7,CV h.lo];exact h.shut.back r
   simp
   exact⟨_,_,_,_,o _,iC _⟩
  | true =>
   simp[d,M,s,u,St,U];have dr:(S++m.drop 19).drop 27=[]:=aal (by simp;omega)
   have ln:(V.int .i64 1::(S++D)).length=28:=by simp;omega
   have tn:(S++D).take 27=S++D:=aaf (by simp;omega);have dn:m.drop 28=[]:=aal an;have q4:=look h.b4 aga;have Gj:∀(r:ae) x,(B++r).set 3 x=B.set 3 x++r:=λr x=>aaq _ _ an;have Gk:∀(r:ae) y x,(B.set 3 y++r).set 4 x=(B.set 3 y).set 4 x++r:=λr y x=>aaq _ _ (by simp;omega)
   have W:∀(r:ae) y,(B.set 3 y++r)[4]?=some (some (.cells [.int .i64 0])):=λr y=>by
    have:=q4 [];rw[aai (by simp;omega),aaI aga];simpa using this
   have vG:∀(r:ae) y h,(B.set 3 y++r)[4]'h=some (.cells [.int .i64 0]):=λr y h=>(aab.1 (W r y)).2;simp[Ld,dr,dn,s,u,I,Gj,Gk,W];refine⟨jv,[46],sX,sY,?_,?_⟩
   .have:=o [];rw[aa0] at this;rw[aai (by simp;omega),aaI aga,aaI aga];exact this
   .have he:((B.set 3 (some (az.cells (V.int IntKind.i64 1::(S++D))))).set 4 (some (az.cells [V.int IntKind.i64 0]))).set 14 (some (.loop jv [46] sX sY (.done .ret)))=jw N r:=by rw[g,<-T,ab6 _ _ (show(14:Nat)≠3 by decide),ab6 _ _ (show(14:Nat)≠4 by decide),ab7];rfl
    rw[aaq _ _ (by simp;omega),he];have:=(zoo h.shut E r).back [some (az.cells (av .u32 r)),some (az.cells S),some (az.cells D)]
    rwa[show(jw N r).length=N.length by simp[jw]] at this)
 exact hy
noncomputable def ee(v w:List af)(live:Nat):Int×Option (List Nat) :=
 if(aY v&&aY w)=true then
  if zt (aU [] v).p (aU (aU [] v).L w).p (aU [] v).st (aU (aU [] v).L w).st live=true then(0,none)
  else match(sg (aU (aU [] v).L w).L (aU [] v).p (aU (aU [] v).L w).p live).find? λr=>BE v w live (vD r) (mr (r.drop 18)) with
   | some r=>(1,some r)
   | none=>(2,none)
 else(0,none)
def TD(a b c d e:List V):ae:=[some (.cells a),some (.cells b),some (.cells c),some (.cells d),some (.cells e),some (.map []),some (.cells [.vs [] (.own 7),.mp 5]),some (.zone 0)]
def zCZ{a b c d e:List V}(f:∀n,a_ n a=a)(g:∀n,a_ n b=b)(i:∀n,a_ n c=c)(hd:∀n,a_ n d=d)(j:∀n,a_ n e=e):Bk (TD a b c d e) 6 7 5 []:=by refine⟨rfl,rfl,rfl,λn k=>?_,λa h=>(by cases h),aga⟩;simp only[TD,aap,abi] at k;simp[TD,az.cl,f,g,i,hd,j,a_,V.cl,Tk.cl,show 7<n by omega,show 5<n by omega]
def zE4[cG G](a b c d e:List V):bD G (.F 256 [] [some (.cells a),some (.cells b),some (.cells c),some (.cells d),some (.cells e)] (.ptr 6 0) [some (.cells a),some (.cells b),some (.cells c),some (.cells d),some (.cells e),some (.map []),some (.cells [.vs [] .full,.mp 5])]):=by refine eV cG.adO (aag rfl) ?_;simp
section
variable {H:ae} {b z m:Nat} {L:List Nd}
noncomputable def xD(L:List Nd)(w:List af):List V:=if aY w=true then vcs (aU L w).p (aU L w).st .no else vcs (abG 18 0) [] .full
noncomputable def zu(L:List Nd)(w:List af):List Nd:=if aY w=true then(aU L w).L else L
def zvF[ef G][dM G][aE G][aD G][aQ G][ar G][bG G][aM G][cA G](w:List af)(h:Bk H b z m L)(hi:Inv L)(e:L.length<=800000)(c:w.length<=maxLen)(d:∀x∈w,x.k<4294967296) :
  SF G 296 [.ptr b 0,FL w] H (.bf [.agg (xD L w),.bool (aY w)]) (dw H b z m (zu L w)):=by
 cases a:aY w with
 | true =>
  have:=zKq (G:=G) w h hi e c d a
  simpa only[xD,zu,a,if_true] using this
 | false =>
  have:=zKp (G:=G) w h c d a;simpa only[xD,zu,a,aaG,if_false,h.fM] using this
def zsl(hi:Inv L){w:List af}(a:∀x∈w,x.k<4294967296):(xD L w).length=19:=by
 unfold xD;split
 .exact Fl (Fq hi w a).len
 .rfl
def zvG(w:List af)(n:Nat):a_ n (xD L w)=xD L w:=by
 unfold xD
 split<;>(rw[iW,vcs];simp[mX,aam,V.cl,Tk.cl])
def zxx(hi:Inv L){w:List af}(a:∀x∈w,x.k<4294967296):Inv (zu L w):=by
 unfold zu;split
 .exact(Fq hi w a).ext.inv
 .exact hi
def zxy(hi:Inv L){w:List af}(b:∀x∈w,x.k<4294967296):(zu L w).length<=L.length+114:=by
 unfold zu;split
 .rename_i a
  have c:w.length<=32:=by simp only[aY,aah,decide_eq_true_eq] at a;exact a.1
  have:=(Fq hi w b).ext.len;omega
 .omega
end
def zvH(c:Int):(dK c none).length=28:=rfl
def PR(c:Int)(o:Option (List Nat))(n:Nat):a_ n (dK c o)=dK c o:=by cases o<;>simp[dK,iW,V.cl,St.cs,Da.cs,av,aam]
def zxz(c:Int)(o:Option (List Nat)):(dK c o).map V.k9=dK c o:=by cases o<;>simp[dK,V.k9,St.cs,Da.cs,av,aam]
def zAP(c:Int):(dK c none).take 28=dK c none:=aaf (by rw[zvH];exact aaH _)
def zE5[eU G](H:ae)(b live:Nat)(a c:List V)(k1:∀n,a_ n a=a)(k2:∀n,a_ n c=c)(d:a.map V.k9=a)(e:c.map V.k9=c) :
  bD G (.F 311 [.ptr b 0,.agg a,.agg c,.int .u32 live] H (.fn 310 [.ptr (H.length+3) 0,.ptr H.length 0,.ptr (H.length+1) 0,.ptr (H.length+2) 0])
   (H++[some (.cells [.ptr b 0]),some (.cells a),some (.cells c),some (.cells [.int .u32 live])])):=by
 refine eV eU.adY (aag rfl) ?_;simp
def zty[ef G][dM G][aE G][aD G][bQ G][dC G][dp G][aQ G][db G][dc G][b_ G][cA G][bP G][ar G][CP:eg G][cG G][aM G][cd G][cU G][eU G]
  (v w:List af) (live:Nat) (hf:v.length<=maxLen) (hg:w.length<=maxLen) (H:∀x∈v,x.k<4294967296) (I:∀x∈w,x.k<4294967296) (iH:live<4294967296) :
  FP G 312 [FL v,FL w,.int .u32 live] (.bf [.agg (dK (ee v w live).1 (ee v w live).2),.int .i64 (if(aY v&&aY w)=true then 0 else 1)]):=by
 haveI:bG G:=CP.tobG
 refine bA eU.adZ (aag rfl) ?_;obtain⟨Z,hZ⟩:∃Z:List V,Z=vcs (abG 18 0) [] .full:=⟨_,rfl⟩
 have lZ:Z.length=19:=by rw[hZ];rfl
 have dY:Z.drop 19=[]:=aal an
 have HK:[V.int .i64 0,.int .i64 0,.int .i64 0,.int .i64 0,.int .i64 0,.int .i64 0,.int .i64 0,.int .i64 0,.int .i64 0,.int .i64 0,.int .i64 0,.int .i64 0,.int .i64 0,.int .i64 0,.int .i64 0,.int .i64 0,.int .i64 0,.int .i64 0,.vs [] .full]=Z:=by rw[hZ];rfl
 obtain⟨m,B⟩:∃m:List V,m=dK 0 none:=⟨_,rfl⟩
 have hm:V.int .i64 0::(av .u32 (aR 20)++av .u64 (aR 7))=m:=by rw[B];rfl
 have Ld:m.length=28:=by rw[B];rfl
 have TE:∀n,a_ n m=m:=λn=>by rw[B];simp[dK,iW,V.cl,av,aam]
 have O:=zCZ (a:=[.vs (IL v) .no]) (b:=[.vs (IL w) .no]) (c:=[.int .u32 live]) (d:=m) (e:=[.int .i64 0]) (λn=>by simp[a_,V.cl,Tk.cl]) (λn=>by simp[a_,V.cl,Tk.cl]) (λn=>by simp[a_,V.cl]) TE (λn=>by simp[a_,V.cl]);obtain⟨j,D⟩:=ax (TD [.vs (IL v) .no] [.vs (IL w) .no] [.int .u32 live] m [.int .i64 0]);rw[<-D] at O
 have W:j.length=8:=by rw[D];rfl
 have t0:∀r,ak 8 (j++r)=j:=λr=>by have:=O.shut.back r;rwa[W] at this
 have a8:∀r:ae,(j++r)[8]?=r[0]?:=λr=>nJ W;have a9:∀r:ae,(j++r)[9]?=r[1]?:=λr=>qX W 1;have b8:∀(r:ae) x,(j++r).set 8 x=j++r.set 0 x:=λr x=>sj W x;have b9:∀(r:ae) x,(j++r).set 9 x=j++r.set 1 x:=λr x=>x_ W 1 x
 have o0:∀r:ae,(j++r)[0]?=some (some (.cells [.vs (IL v) .no])):=λr=>by rw[D];rfl
 have o1:∀r:ae,(j++r)[1]?=some (some (.cells [.vs (IL w) .no])):=λr=>by rw[D];rfl
 have o3:∀r:ae,(j++r)[3]?=some (some (.cells m)):=λr=>by rw[D];rfl
 have o4:∀r:ae,(j++r)[4]?=some (some (.cells [.int .i64 0])):=λr=>by rw[D];rfl
 have ho:Bk (j++[none]) 6 7 5 []:=O.app λn=>by simp
 simp[FL,hm];refine vm (zE4 [.vs (IL v) .no] [.vs (IL w) .no] [.int .u32 live] m [.int .i64 0]) ir ?_;simp;rw[show([some (.cells [.vs (IL v) .no]),some (.cells [.vs (IL w) .no]),some (.cells [.int .u32 live]),some (.cells m),some (.cells [.int .i64 0]),some (.map []),some (.cells [.vs [] (.own 7),.mp 5]),some (.zone 0),none]:ae)=j++[none] from by rw[D];rfl];obtain⟨o,uj⟩:=ax (zu [] v)
 obtain⟨f,TG⟩:=ax (xD [] v)
 have i1:Inv o:=by rw[uj];exact zxx Inv.nil H
 have z1:o.length<=114:=by rw[uj];simpa using zxy Inv.nil H
 have x1:f.length=19:=by rw[TG];exact zsl Inv.nil H
 have c1:∀n,a_ n f=f:=λn=>by rw[TG];exact zvG v n
 have me:=zvF (G:=G) v ho Inv.nil aga hf H;rw[<-uj,<-TG,O.bW] at me;obtain⟨U,hU⟩:=ax (dw j 6 7 5 o)
 have TH:Bk U 6 7 5 o:=by rw[hU];exact O.to i1 an
 rw[<-hU] at me
 have Y:U.length=8:=by rw[hU,rS,W]
 have Gm:∀{p:Nat} {c:List V},(j++[])[p]?=some (some (.cells c))->p≠6->U[p]?=some (some (.cells c)):=fun{p c} J aC=>by
  rw[hU];exact zsA O (by simpa using J) aC
 obtain⟨u,TI⟩:=ax (zu o w);obtain⟨g,Pk⟩:=ax (xD o w)
 have i2:Inv u:=by rw[TI];exact zxx i1 I
 have z2:u.length<=228:=by rw[TI];have:=zxy i1 I;omega
 have x2:g.length=19:=by rw[Pk];exact zsl i1 I
 have c2:∀n,a_ n g=g:=λn=>by rw[Pk];exact zvG w n
 have hq:Bk (U++[some (.cells f),none]) 6 7 5 o:=TH.app λn=>by simp[az.cl,c1]
 have Em:=zvF (G:=G) w hq i1 an hg I;rw[<-TI,<-Pk,TH.bW] at Em;obtain⟨T,hT⟩:=ax (dw U 6 7 5 u)
 have hs:Bk T 6 7 5 u:=by rw[hT];exact TH.to i2 an
 rw[<-hT] at Em
 have l:T.length=8:=by rw[hT,rS,Y]
 have vH:∀{p:Nat} {c:List V},(j++[])[p]?=some (some (.cells c))->p≠6->T[p]?=some (some (.cells c)):=fun{p c} J aC=>by
  rw[hT];exact zsA TH (Gm J aC) aC
 have Le:∀{A:ae} {p:Nat} {c:List V},A[p]?=some (some (.cells c))->∀r:ae,(A++r)[p]?=some (some (.cells c)):=fun{A p c} J r=>by
  rw[aai (aab.1 J).1];exact J
 have u1:=Le (Gm (o1 []) aga);have ht:∀(r:ae) h,(U++r)[1]'h=some (.cells [.vs (IL w) .no]):=λr h=>(aab.1 (u1 r)).2;have q0:=Le (vH (o0 []) aga);have q1:=Le (vH (o1 []) aga);have q2:=Le (vH (c:=[.int .u32 live]) (p:=2) (by rw[D];rfl) aga);have q3:=Le (vH (o3 []) aga);have q4:=Le (vH (o4 []) aga);have h0:∀(r:ae) h,(T++r)[0]'h=some (.cells [.vs (IL v) .no]):=λr h=>(aab.1 (q0 r)).2
 have EH:∀(r:ae) h,(T++r)[1]'h=some (.cells [.vs (IL w) .no]):=λr h=>(aab.1 (q1 r)).2;have EI:∀(r:ae) h,(T++r)[2]'h=some (.cells [.int .u32 live]):=λr h=>(aab.1 (q2 r)).2;have Lc:∀(r:ae) h,(T++r)[3]'h=some (.cells m):=λr h=>(aab.1 (q3 r)).2;have h3:∀(r:ae) h,(T++r)[4]'h=some (.cells [.int .i64 0]):=λr h=>(aab.1 (q4 r)).2;have h4:∀r:ae,(U++r)[8]?=r[0]?:=λr=>nJ Y;have h5:∀r:ae,(U++r)[9]?=r[1]?:=λr=>qX Y 1
 have hu:∀(r:ae) x,(U++r).set 8 x=U++r.set 0 x:=λr x=>sj Y x;have h6:∀(r:ae) x,(U++r).set 9 x=U++r.set 1 x:=λr x=>x_ Y 1 x;have h7:∀r:ae,(T++r)[8]?=r[0]?:=λr=>nJ l;have h8:∀r:ae,(T++r)[9]?=r[1]?:=λr=>qX l 1;have h9:∀(r:ae) x,(T++r).set 8 x=T++r.set 0 x:=λr x=>sj l x;have hy:∀(r:ae) x,(T++r).set 9 x=T++r.set 1 x:=λr x=>x_ l 1 x;have d1:f.drop 19=[]:=aal an;have d2:g.drop 19=[]:=aal an
 have e1:f.take 19=f:=aaf an;have e2:g.take 19=g:=aaf an;simp only[FL] at me Em;refine cN me ?_;simp[Y,hu,HK,lZ,dY,x1,ht];refine cN Em ?_;simp[l,hy,lZ,dY,x2]
 have aj:∀p,p<8->p<T.length:=λp J=>by omega
 have Gj:∀(r:ae) x,(T++r).set 3 x=T.set 3 x++r:=λr x=>aaq _ _ an;have Gk:∀(r:ae) y x,(T.set 3 y++r).set 4 x=(T.set 3 y).set 4 x++r:=λr y x=>aaq _ _ (by simp;omega)
 have hz:∀(r:ae) y x,((T.set 3 y).set 4 x++r)[3]?=some y:=λr y x=>by
  rw[aai (by simp;omega),aaI aga,aaR an]
 have hA:∀(r:ae) y x,((T.set 3 y).set 4 x++r)[4]?=some x:=λr y x=>by
  rw[aai (by simp;omega),aaR (by simp;omega)]
 have El:∀(r:ae) y,(T.set 3 y++r)[4]?=some (some (.cells [.int .i64 0])):=λr y=>by
  have:=q4 [];rw[aai (by simp;omega),aaI aga];simpa using this
 have vG:∀(r:ae) y h,(T.set 3 y++r)[4]'h=some (.cells [.int .i64 0]):=λr y h=>(aab.1 (El r y)).2;have BJ:∀(r:ae) y x h,((T.set 3 y).set 4 x++r)[3]'h=y:=λr y x h=>(aab.1 (hz r y x)).2;have BK:∀(r:ae) y x h,((T.set 3 y).set 4 x++r)[4]'h=x:=λr y x h=>(aab.1 (hA r y x)).2;have K:m.take 28=m:=aaf an;have TJ:m.drop 28=[]:=aal an
 have M:m.map V.k9=m:=by rw[B];simp[dK,av,aam,V.k9]
 cases C:aY v with
 | false =>
  have hd:ee v w live=(0,none):=by simp[ee,C]
  simp[hd,<-B,l,Lc,Ld,Gj,Gk,K,TJ,vG,BJ,BK,TE,M]
 | true =>
 cases hw:aY w with
 | false =>
  have hd:ee v w live=(0,none):=by simp[ee,C,hw]
  simp[hd,<-B,l,Lc,Ld,Gj,Gk,K,TJ,vG,BJ,BK,TE,M]
 | true =>
 have TK:f=vcs (aU [] v).p (aU [] v).st .no:=by rw[TG,xD,if_pos C]
 have hC:o=(aU [] v).L:=by rw[uj,zu,if_pos C]
 have TM:g=vcs (aU o w).p (aU o w).st .no:=by rw[Pk,xD,if_pos hw]
 have hF:u=(aU o w).L:=by rw[TI,zu,if_pos hw]
 have k1:=Fq Inv.nil v H;have k2:=Fq i1 w I;have s:ee v w live=ee v w live:=rfl
 conv at s=>rhs;rw[ee,C,hw,if_pos (show(true&&true)=true from rfl),<-hC,<-hF]
 obtain⟨P,hP⟩:=ax ((aU [] v).p);obtain⟨S,hS⟩:=ax ((aU [] v).st);obtain⟨Q,hQ⟩:=ax ((aU o w).p);obtain⟨R,hR⟩:=ax ((aU o w).st)
 have pl:P.length=18:=by rw[hP];exact k1.len
 have ql:Q.length=18:=by rw[hQ];exact k2.len
 have sl:S.length<=1000000:=by
  have pO:v.length<=32:=by simp only[aY,aah,decide_eq_true_eq] at C;exact C.1
  have:=k1.st;rw[hS];omega
 rw[<-hP,<-hQ,<-hS,<-hR] at s;rw[<-hP,<-hS] at TK;rw[<-hQ,<-hR] at TM;have ha:=zE3 (G:=G) P Q S R live iH pl ql sl;rw[<-TK,<-TM] at ha
 have m1:f.map V.k9=f:=by rw[TK];simp[vcs,mX,aam,V.k9]
 have m2:g.map V.k9=g:=by rw[TM];simp[vcs,mX,aam,V.k9]
 simp[l,EI,x1,x2,e1,e2,m1,m2,c1,c2];refine aw ha ?_
 cases zY:zt P Q S R live with
 | true =>
  rw[zY,if_pos rfl] at s
  have At:V.int .i64 0::m.tail=m:=by rw[B];rfl
  simp[s,<-B,l,Lc,Ld,Gj,Gk,K,TJ,vG,BJ,BK,TE,M,At]
 | false =>
  rw[zY] at s;simp only[aaG,if_false] at s;simp[l,EI,x1,x2,e1,e2]
  have hG:(T++[some (az.cells f),some (az.cells g)]).length=10:=by simp[l]
  have yy:=zE5 (G:=G) (T++[some (az.cells f),some (az.cells g)]) 6 live f g c1 c2 m1 m2;rw[hG,aar] at yy;refine vm yy ir ?_;simp;subst B;obtain⟨E,hE⟩:=ax (T++[some (az.cells f),some (az.cells g),some (.cells [.ptr 6 0]),some (.cells f),some (.cells g),some (.cells [.int .u32 live])])
  have t:E.length=14:=by rw[hE];simp[l]
  obtain⟨i,F⟩:=ax (E++[some (az.loop jv [46] sX sY .ready)])
  have xa:i.length=15:=by rw[F];simp[t]
  have z:i=T++[some (az.cells f),some (az.cells g),some (.cells [.ptr 6 0]),some (.cells f),some (.cells g),some (.cells [.int .u32 live]),some (az.loop jv [46] sX sY .ready)]:=by rw[F,hE];simp
  have N:Bk E 6 7 5 u:=by rw[hE];refine hs.qJ λn hn=>?_;simp[l] at hn;simp[az.cl,c1,c2,a_,V.cl,show 6<n by omega]
  have TO:Bk i 6 7 5 u:=by rw[F];refine N.qJ λn hn=>?_;simp[t] at hn;simp[az.cl,jv,V.cl,show 0<n by omega,show 1<n by omega,show 2<n by omega,show 3<n by omega,show 4<n by omega]
  have hb:i[14]?=some (some (.loop jv [46] sX sY .ready)):=by rw[F];exact nJ t
  have hc:BI i v w live:=⟨by rw[z];exact q0 _,by rw[z];exact q1 _,by rw[z];exact q2 _,by rw[z];exact q3 _,by rw[z];exact q4 _,hb,TO.shut⟩
  have hH:i[10]?=some (some (.cells [.ptr 6 0])):=by rw[z];exact qX l 2
  have hI:i[11]?=some (some (.cells (vcs P S .no))):=by rw[z,<-TK];exact qX l 3
  have hJ:i[12]?=some (some (.cells (vcs Q R .no))):=by rw[z,<-TM];exact qX l 4
  have hK:i[13]?=some (some (.cells [.int .u32 live])):=by rw[z];exact qX l 5
  have pk:=zAL (G:=G) TO i2 (id:=14) (i1:=13) (i2:=10) (i3:=11) (i4:=12) (live:=live) iH hK hH hI hJ pl ql an (hit:=λr=>BE v w live (vD r) (mr (r.drop 18))) (H':=jw i)
   (λr hr hh X hX=>by
    obtain⟨mF,uF⟩:=TC hr;have:=zAO (G:=G) (hc.app hX) hf hg H I iH C hw mF uF hh
    simpa using this)
   (λr hr hh X hX=>by
    obtain⟨mF,uF⟩:=TC hr;have:=zAO (G:=G) (hc.app hX) hf hg H I iH C hw mF uF hh;rw[zCY an] at this
    simpa using this)
   (λr hr hh=>⟨by
    have:=(zoo TO.shut an r).self
    rwa[show(jw i r).length=i.length by simp[jw]] at this,by simp[jw]⟩)
  rw[<-hE];have he:=N.shut.self;rw[t] at he
  have oA:look (gP [(3,V.ptr 0 0),(4,V.ptr 1 0),(5,V.ptr 2 0),(6,V.ptr 3 0),(7,V.ptr 4 0),(45,V.fn 310 [V.ptr 13 0,V.ptr 10 0,V.ptr 11 0,V.ptr 12 0])]) [3,4,5,6,7]=jv:=by simp[jv]
  cases oB:(sg u P Q live).find? (λr=>BE v w live (vD r) (mr (r.drop 18))) with
  | none =>
   rw[oB] at pk s
   have hL:ak 14 i=E:=by rw[F];have:=N.shut.back [some (az.loop jv [46] sX sY .ready)];rwa[t] at this
   refine MC (as:=sX) (bo:=sY) (x:=.nx) (H2:=i) (r:=.bf []) ?_ (by rw[t];exact hb) (.inl ⟨rfl,rfl⟩) ?_
   .rw[t];rw[F] at pk;rw[F,oA];exact pk
   rw[t,hL,hE];simp only[] at s;have At:∀c,V.int .i64 c::(dK 0 none).tail=dK c none:=λc=>rfl
   simp[s,l,Lc,Ld,Gj,Gk,TJ,vG,BJ,BK,At,zvH,PR,zxz,zAP]
  | some r =>
   rw[oB] at pk s;obtain⟨mF,uF⟩:=TC (abw oB)
   have lA:(dK 1 (some r)).length=28:=by have h1:=La (zvt mF uF);have h2:=Tx (OU (w:=r.drop 18) (by simp[mF]) (λx hx=>uF x (aaO hx)));simp only[dK,aap,aaj,h1,h2]
   obtain⟨q,Gd⟩:=ax (dK 1 (some r))
   have hj:∀n,a_ n q=q:=λn=>by rw[Gd];exact PR _ _ n
   have hM:q.map V.k9=q:=by rw[Gd];exact zxz _ _
   rw[<-Gd] at lA;have hN:q.take 28=q:=aaf an
   have hO:jw i r=((T.set 3 (some (.cells q))).set 4 (some (.cells [.int .i64 0])))++[some (az.cells f),some (az.cells g),some (.cells [.ptr 6 0]),some (.cells f),some (.cells g),some (.cells [.int .u32 live]),some (.loop jv [46] sX sY (.done .ret))]:=by rw[z,jw,<-Gd,Gj,Gk];rw[abF _ _ (by simp;omega)];simp[l]
   have fz:=zoo TO.shut an r
   have hV:(jw i r)[14]?=some (some (.loop jv [46] sX sY (.done .ret))):=by unfold jw;exact aaR (by simp;omega)
   have Pm:ak 14 (jw i r)=((T.set 3 (some (.cells q))).set 4 (some (.cells [.int .i64 0])))++[some (az.cells f),some (az.cells g),some (.cells [.ptr 6 0]),some (.cells f),some (.cells g),some (.cells [.int .u32 live])]:=by
    have hW:E.map (aat (az.cl 14))=E:=by have:=he;unfold ak at this;rwa[aaf an] at this
    have hY:ak 14 ((E.set 3 (some (.cells q))).set 4 (some (.cells [.int .i64 0])))=(E.set 3 (some (.cells q))).set 4 (some (.cells [.int .i64 0])):=by unfold ak;rw[aaf (by simp;omega),abh,abh,hW];simp[az.cl,hj,a_,V.cl]
    have hl:(E.set 3 (some (.cells q))).set 4 (some (.cells [.int .i64 0]))=((T.set 3 (some (.cells q))).set 4 (some (.cells [.int .i64 0])))++[some (az.cells f),some (az.cells g),some (.cells [.ptr 6 0]),some (.cells f),some (.cells g),some (.cells [.int .u32 live])]:=by rw[hE,Gj,Gk]
    have rj:jw i r=((E.set 3 (some (.cells q))).set 4 (some (.cells [.int .i64 0])))++[some (.loop jv [46] sX sY (.done .ret))]:=by rw[hl,hO];simp
    rw[rj,Pa hY (by simp;exact t),hl]
   refine MC (as:=sX) (bo:=sY) (x:=.ret) (H2:=jw i r) (r:=.bf []) ?_ (by rw[t];exact hV) (.inr ⟨rfl,aga⟩) ?_
   .rw[t];rw[oA,<-F];exact pk
   rw[t,Pm];simp only[] at s;simp[s,l,lA,hN,hj,hM,BJ,BK,<-Gd]
open Go Go.RowKit
variable {G:aP}
def zw{v w:List af}{live:Nat}(d:aY v=true)(e:aY w=true) :
  ee v w live=(0,none)/\zt (aU [] v).p (aU (aU [] v).L w).p (aU [] v).st (aU (aU [] v).L w).st live=true \/
  (∃r,ee v w live=(1,some r)/\r∈sg (aU (aU [] v).L w).L (aU [] v).p (aU (aU [] v).L w).p live/\BE v w live (vD r) (mr (r.drop 18))=true/\zt (aU [] v).p (aU (aU [] v).L w).p (aU [] v).st (aU (aU [] v).L w).st live=false) \/
  ee v w live=(2,none)/\(∀r∈sg (aU (aU [] v).L w).L (aU [] v).p (aU (aU [] v).L w).p live,BE v w live (vD r) (mr (r.drop 18))=false)/\zt (aU [] v).p (aU (aU [] v).L w).p (aU [] v).st (aU (aU [] v).L w).st live=false:=by
 have a:ee v w live=ee v w live:=rfl
 conv at a=>rhs;rw[ee,d,e,if_pos (show(true&&true)=true from rfl)]
 cases c:zt (aU [] v).p (aU (aU [] v).L w).p (aU [] v).st (aU (aU [] v).L w).st live with
 | true =>
  rw[c,if_pos rfl] at a
  exact .inl ⟨a,rfl⟩
 | false =>
  rw[c] at a;simp only[aaG,if_false] at a
  cases b:(sg (aU (aU [] v).L w).L (aU [] v).p (aU (aU [] v).L w).p live).find? (λr=>BE v w live (vD r) (mr (r.drop 18))) with
  | none =>
   rw[b] at a;refine .inr (.inr ⟨a,λr f=>?_,rfl⟩);have:=abr.1 b r f
   simpa using this
  | some r =>
   rw[b] at a;have g:=List.find?_some b;exact .inr (.inl ⟨r,a,abw b,g,rfl⟩)
def zyE{r:List Nat}(b:r.length=34)(d:∀x∈r,x<4294967296)(c:Int):(dK c (some r)).length=28/\(dK c (some r)).tail.take 18=(vD r).cs/\(dK c (some r)).drop 19=(mr (r.drop 18)).cs:=by
 have a:=La (zvt b d);have e:=Tx (OU (w:=r.drop 18) (by simp[b]) (λx f=>d x (aaO f)));refine⟨by simp only[dK,aap,aaj,a,e],?_,?_⟩
 .simp only[dK,List.tail_cons];rw[ab2 a]
 .simp only[dK];rw[abp,List.drop_left' a]
def zxA(c:Int)(o:Option (List Nat)):(dK c o).take 1=[.int .i64 c]:=by cases o<;>rfl
def zvI(v w:List af)(live:Nat):(dK (ee v w live).1 (ee v w live).2).length=28:=by
 cases a:aY v&&aY w with
 | false =>
  have b:ee v w live=(0,none):=by simp[ee,a]
  rw[b];rfl
 | true =>
  simp only[aah] at a
  rcases zw (live:=live) a.1 a.2 with⟨e,_⟩|⟨r,e,c,_,_⟩|⟨e,_,_⟩
  .rw[e];rfl
  .obtain⟨d,f⟩:=TC c;rw[e];exact(zyE d f 1).1
  .rw[e];rfl
def zAQ{x:af}(h:mc x=true):x.op≠5/\bp x.op=false/\x.op≠6/\x.op≠22:=by simp only[mc,aah] at h;obtain⟨b,c,a⟩:=YX h.1.1;simp only[il,decide_eq_false_iff_not,not_or] at a;exact⟨b,c,a.1,a.2⟩
def zGr(g:List af):bh g [0]=nd g:=by
 funext p
 simp[bh]
def bM(m:List Bool)(n:Nat):Nat:=(m.take n).countP id
def kV(m:List Bool)(x:af):af:=if x.op=5 then{ x with k:=bM m x.k } else if bp x.op then{ x with jt:=(bM m x.jt.toNat:Nat),jf:=(bM m x.jf.toNat:Nat) } else x
def dS:List af->List Bool->List af
 | x::f,true::m=>kV m x::dS f m
 | _::f,false::m=>dS f m
 | _,_=>[]
def nH:List af->List Bool->Prop
 | x::f,b::m=>(b=true->∀o∈bg x,m[o]?=some true)/\nH f m
 | [],[]=>True
 | _,_=>False
def Lf:∀{f:List af} {m:List Bool},nH f m->f.length=m.length
 | [],[],_=>rfl
 | [],_::_,h=>by cases h
 | _::_,[],h=>by cases h
 | x::f,b::m,h=>by simp[Lf h.2]
def ztz:∀{f:List af} {m:List Bool} (o:Nat),nH f m->nH (f.drop o) (m.drop o)
 | _,_,0,h=>by simpa using h
 | [],[],o+1,h=>by simp[nH]
 | [],_::_,_+1,h=>by cases h
 | _::_,[],_+1,h=>by cases h
 | x::f,b::m,o+1,h=>by simpa using ztz o h.2
def zop(b:Bool)(m:List Bool)(n:Nat):bM (b::m) (n+1)=(if b then 1 else 0)+bM m n:=by cases b<;>simp[bM,ab8]
def GH(m:List Bool):bM m 0=0:=by simp[bM]
def P3:∀(f:List af) (m:List Bool) (o:Nat),f.length=m.length->(dS f m).drop (bM m o)=dS (f.drop o) (m.drop o)
 | f,m,0,h=>by simp[GH]
 | [],m,o+1,h=>by
  have:m=[]:=abo (by simpa using h.symm);subst this
  simp[dS]
 | x::f,[],o+1,h=>by simp at h
 | x::f,b::m,o+1,h=>by
  have a:=P3 f m o (by simpa using h);rw[zop]
  cases b with
  | true =>
   rw[if_pos rfl,dS,ab8,abp,a];rfl
  | false =>
   simp only[aaG,if_false,aa3,dS];rw[a];rfl
def GD(m:List Bool)(x:af):(kV m x).op=x.op:=by
 unfold kV;split
 .rfl
 .split<;>rfl
def zC0(m:List Bool)(s:St)(x:af)(d:Da):o_ s (kV m x) d=o_ s x d:=by
 by_cases a:x.op=5
 .have b:cT (5:Int)=(0,false,false):=by decide
  have c:(kV m x).op=5:=by rw[GD,a]
  have o:∀y:af,y.op=5->o_ s y d=(s,true):=λy e=>by
   simp only[o_,e,b,aaG,if_false,v8];simp
  rw[o _ c,o _ a]
 .unfold kV;rw[if_neg a]
  split<;>rfl
def zC1(m:List Bool)(s:St)(x:af):goes s (kV m x)=bM m (goes s x):=by
 have b:=GD m x
 by_cases a:x.op=5
 .simp only[goes,b,a,if_true];simp[kV,a]
 by_cases c:bp x.op=true
 .have d:kV m x={ x with jt:=(bM m x.jt.toNat:Nat),jf:=(bM m x.jf.toNat:Nat) }:=by rw[kV,if_neg a,if_pos c]
  have e:tV s (kV m x)=tV s x:=by rw[d];rfl
  simp only[goes,b,if_neg a,c,if_true,e];rw[d]
  cases tV s x<;>simp
 .simp[goes,b,a,c,GH]
def zxB(d:Da):∀(n:Nat) (f:List af) (m:List Bool) (s:St),f.length<=n->nH f m->m[0]?=some true->run d (dS f m) s=run d f s
 | _,[],[],_,_,_,h=>by cases h
 | _,[],_::_,_,_,h,_=>by cases h
 | _,_::_,[],_,_,h,_=>by cases h
 | 0,_::_,_,_,h,_,_=>by simp at h
 | n+1,x::f,b::m,s,j,g,i=>by
  simp only[aaP,abq.injEq] at i;subst i;rw[dS,zvr,zvr,GD,zC0,zC1]
  by_cases a:x.op=6
  .have l:(kV m x).k=x.k:=by
    have:bp (6:Int)=false:=by decide
    simp[kV,a,this]
   rw[if_pos a,if_pos a,l]
  rw[if_neg a,if_neg a]
  by_cases c:x.op=22
  .rw[if_pos c,if_pos c]
  rw[if_neg c,if_neg c]
  by_cases e:(o_ s x d).2=true
  case neg=>rw[if_neg e,if_neg e]
  rw[if_pos e,if_pos e]
  have o:il x.op=false:=by simp[il,a,c]
  have p:=g.1 rfl _ (zAi o s);have q:=zxB d n (f.drop (goes s x)) (m.drop (goes s x)) (o_ s x d).1 (by simp at j |-;omega) (ztz _ g.2) (by rw[abK,aby];exact p);rw[P3 f m _ (Lf g.2),q]
def GC:∀(f:List af) (m:List Bool),f.length=m.length->(dS f m).length=m.countP id
 | [],[],_=>rfl
 | [],_::_,h=>by simp at h
 | _::_,[],h=>by simp at h
 | x::f,true::m,h=>by simp[dS,GC f m (by simpa using h)]
 | x::f,false::m,h=>by simp[dS,GC f m (by simpa using h)]
def zsm{m:List Bool}{o:Nat}(h:m[o]?=some true):bM m o<m.countP id:=by
 have a:=(aab.1 h).1
 have e:m=m.take o++true::m.drop (o+1):=by have:=aaV a;rw[(aab.1 h).2] at this;rw[<-this,List.take_append_drop]
 rw[bM]
 conv=>rhs;rw[e,abL,List.countP_cons]
 simp
def Jy(m:List Bool)(o:Nat):bM m o<=o:=by have:=abI (p:=id) (l:=m.take o);rw[bM];have a:=List.length_take_le o m;omega
def zAR{x:af}(m:List Bool)(h:ij x=true)(j:kR x=true):ij (kV m x)=true/\kR (kV m x)=true:=by
 have p:=A_ h;have l:∀n,bM m n<=n:=Jy m;obtain⟨a,d,f,k⟩:=x
 by_cases g:a=5
 .subst g
  have b:bp 5=false:=by decide
  simp only[kV,if_true];constructor
  .simp only[ij] at h |-
   have c:oh 5=some (5,[106,97],true,false):=by decide
   simp only[c] at h |-;simpa using h
  .simp[kR]
 .cases b:bp a
  .simp[kV,g,b,h,j]
  .obtain⟨q,s,t,u⟩:=p b;simp only at q s t u
   have e:kV m ⟨a,d,f,k⟩=⟨a,(bM m d.toNat:Nat),(bM m f.toNat:Nat),k⟩:=by simp[kV,g,b]
   rw[e];constructor
   .simp only[ij] at h |-
    cases c:oh a with
    | none=>rw[c] at h;cases h
    | some r =>
     rw[c] at h;simp only[aah] at h |-;refine⟨h.1,?_⟩;have o:=h.2;have v:=l d.toNat;have w:=l f.toNat;split at o
     .rename_i i;rw[if_pos i,decide_eq_true_eq];omega
     .rename_i i;rw[decide_eq_true_eq] at o;rw[if_neg i,decide_eq_true_eq];omega
   .simpa[kR] using j
def zoq:∀{f:List af} {m:List Bool},nH f m->j7 f=true->j7 (dS f m)=true
 | [],[],_,_=>rfl
 | [],_::_,h,_=>by cases h
 | _::_,[],h,_=>by cases h
 | x::f,false::m,h,c=>by
  rw[j7,aah] at c;rw[dS]
  exact zoq h.2 c.2
 | x::f,true::m,h,c=>by
  rw[j7,aah] at c;rw[dS,j7,aah];refine⟨?_,zoq h.2 c.2⟩;have g:=c.1;simp only[bX,aah] at g;obtain⟨⟨⟨j,l⟩,p⟩,q⟩:=g;obtain⟨p1,p2⟩:=zAR m j l;have d:=h.1 rfl;rw[bX,p1,p2,GC f m (Lf h.2),GD];simp only[abt,aah];constructor
  .by_cases a:x.op=5
   .have:=d x.k (by have:il (5:Int)=false:=aga;simp[bg,a,this]);rw[if_pos a,decide_eq_true_eq];simp only[kV,if_pos a];exact zsm this
   .rw[if_neg a]
  .by_cases b:bp x.op=true
   .have a:x.op≠5:=λe=>by rw[e] at b;revert b;decide
    have i:il x.op=false:=by rcases I0 b with e|e|e|e|e|e|e|e<;>rw[e]<;>decide
    have n:=d x.jt.toNat (by simp[bg,i,a,b]);have o:=d x.jf.toNat (by simp[bg,i,a,b]);have r:=zsm n;have s:=zsm o;rw[if_pos b,decide_eq_true_eq];simp only[kV,if_neg a,if_pos b];omega
   .rw[if_neg b]
def zvJ:∀{f:List af} {m:List Bool},f.length=m.length->m.any id=false->dS f m=[]
 | [],[],_,_=>rfl
 | [],_::_,h,_=>by simp at h
 | _::_,[],h,_=>by simp at h
 | x::f,true::m,_,h=>by simp at h
 | x::f,false::m,h,a=>by
  rw[dS];exact zvJ (by simpa using h) (by simpa using a)
def zvK:∀{f:List af} {m:List Bool},f.length=m.length->m.any id=true->dS f m≠[]
 | [],[],_,h=>by simp at h
 | [],_::_,h,_=>by simp at h
 | _::_,[],h,_=>by simp at h
 | x::f,true::m,_,_=>by simp[dS]
 | x::f,false::m,h,a=>by
  rw[dS];exact zvK (by simpa using h) (by simpa using a)
def zAS{x:af}{f:List af}(h:f≠[]):kp (x::f)=kp f:=by
 cases f with
 | nil=>exact absurd rfl h
 | cons y f=>simp[kp,List.getLast?_cons_cons]
def zE6{x:af}(h:il x.op=false):bg x≠[]:=by
 unfold bg;rw[h];simp only[aaG,if_false];split
 .simp
 .split<;>simp
def zxC:∀{f:List af} {m:List Bool},nH f m->m.any id=true->kp (dS f m)=true
 | [],[],_,h=>by simp at h
 | [],_::_,h,_=>by cases h
 | _::_,[],h,_=>by cases h
 | x::f,b::m,h,c=>by
  have d:=Lf h.2
  cases a:m.any id with
  | true =>
   have e:=zxC h.2 a
   cases b with
   | true=>rw[dS,zAS (zvK d a),e]
   | false=>rw[dS,e]
  | false =>
   have i:b=true:=by rw[List.any_cons,a] at c;simpa using c
   subst i;rw[dS,zvJ d a];simp only[kp,List.getLast?_singleton,GD]
   cases j:il x.op with
   | true=>rfl
   | false =>
    exfalso
    cases g:bg x with
    | nil=>exact zE6 j g
    | cons o l =>
     have:=h.1 rfl o (by rw[g];simp);have k:=aan this;have:m.any id=true:=abe.2 ⟨true,k,rfl⟩;rw[a] at this;cases this
def zAT{f:List af}{m:List Bool}(b:dR f=true)(a:nH f m)(c:m[0]?=some true):dR (dS f m)=true:=by have d:=Lf a;have g:=GC f m d;have h:=abI (p:=id) (l:=m);have e:m.any id=true:=abe.2 ⟨true,aan c,rfl⟩;simp only[dR,aah,decide_eq_true_eq] at b |-;exact⟨⟨an,zoq a b.1.2⟩,zxC a e⟩
def kM(x:af):Bool:=((cT x.op).2.2&&!(cT x.op).2.1)||decide (x.op=0)||decide (x.op=1)
def kN(w:List af):List Nat:=(w.filter kM).map af.k
def zAU(w:List af)(x:af):kN (w++[x])=if kM x then kN w++[x.k] else kN w:=by
 unfold kN;rw[List.filter_append,ab3]
 by_cases h:kM x=true<;>simp[h]
def TP(w:List af):(kN w).length<=w.length:=by simp[kN,List.length_filter_le]
noncomputable def zx(w:List af):List Nat :=
 (dk (aU [] w).L ((aU [] w).p.getD 0 0)).toList++((de (aR 34) (aU [] w).L ((aU [] w).p.getD 0 0)).toList++(de (4294967295::aR 33) (aU [] w).L ((aU [] w).p.getD 0 0)).toList)
def zE7[cG G](H:ae):bD G (.F 256 [] H (.ptr (H.length+1) 0) (H++[some (.map []),some (.cells [.vs [] .full,.mp H.length])])):=by refine eV cG.adO (aag rfl) ?_;simp
def BH(a:Option az)(L:List Nd):ae:=[a,some (.map (ents L)),some (yD L 3 1),some (.zone L.length)]
def zDz{a:Option az}{L:List Nd}(b:∀n,a.map (az.cl n)=a)(c:∀x∈L,x.ok)(d:L.length<=1000000):Bk (BH a L) 2 3 1 L:=by refine⟨rfl,rfl,rfl,λn e=>?_,c,d⟩;simp only[BH,aap,abi] at e;simp[BH,yD,az.cl,b,a_,V.cl,Tk.cl,ents,Vd,show 3<n by omega,show 1<n by omega]
def zyF[ef G][dM G][aE G][aD G][aQ G][ar G][hB:iT G][cG G][aM G][di G][cA G][gC G](w:List af)(hf:w.length<=maxLen)(hk:∀x∈w,x.k<4294967296)(I:aY w=true) :
  FP G 326 [FL w] (.vs (ah .u32 (kN w++zx w)) .no):=by
 haveI:bG G:=hB.tobG
 refine bA gC.ad0 (aag rfl) ?_;obtain⟨L,U⟩:=ax ((aU [] w).L);have W:=Fq Inv.nil w hk
 have hi:Inv L:=by rw[U];exact W.ext.inv
 have pO:w.length<=32:=by simp only[aY,aah,decide_eq_true_eq] at I;exact I.1
 have Uk:L.length<=114:=by rw[U];have:=W.ext.len;simp at this;omega
 obtain⟨X,J⟩:=ax (xD [] w)
 have K:X.length=19:=by rw[J];exact zsl Inv.nil hk
 have l:∀n,a_ n X=X:=λn=>by rw[J];exact zvG w n
 have nX:X.map V.k9=X:=by rw[J,xD,if_pos I,vcs];simp[mX,aam,V.k9]
 obtain⟨p0,Qu⟩:=ax ((aU [] w).p.getD 0 0)
 have M:X.take 1=[.int .i64 p0]:=by rw[J,xD,if_pos I,zuu W.len,Qu,aa4,aad (show 0<(aU [] w).p.length by rw[W.len];decide)];rfl
 have Jk:∀k,Bk (BH (some (.zone k)) []) 2 3 1 []:=λk=>zDz (λn=>rfl) ir ir;have o:∀k,Bk (BH (some (.zone k)) L) 2 3 1 L:=λk=>zDz (λn=>rfl) hi.ok an
 have he:∀k,Bk (BH (some (.zone k)) L++[some (.cells X)]) 2 3 1 L:=λk=>(o k).app λn=>by simp[az.cl,l]
 have me:=λk=>zvF (G:=G) w ((Jk k).app (r:=[none]) λn=>by simp) Inv.nil aga hf hk
 have e1:∀k,dw (BH (some (.zone k)) []) 2 3 1 (zu [] w)=BH (some (.zone k)) L:=λk=>by rw[U,zu,if_pos I];rfl
 have me:∀k,SF G 296 [.ptr 2 0,.vs (IL w) .no] (BH (some (.zone k)) []++[none]) (.bf [.agg X,.bool true]) (BH (some (.zone k)) L++[none]):=λk=>by
  have:=me k;rw[(Jk k).bW,<-J,e1,I] at this;exact this
 have Y:=λk=>zno (G:=G) p0 (he k);have uc:=fun(k:Nat) (r:ae) (hr:∀n,r.map (aat (az.cl n))=r)=>zyV (G:=G) p0 (aR 34) ((o k).app hr) hi ir (wQ 34);have uq:=fun(k:Nat) (r:ae) (hr:∀n,r.map (aat (az.cl n))=r)=>zyV (G:=G) p0 (4294967295::aR 33) ((o k).app hr) hi ir (λc Y=>by rcases aay.1 Y with rfl|h;decide;exact wQ 33 c h)
 have D:zx w=(dk L p0).toList++((de (aR 34) L p0).toList++(de (4294967295::aR 33) L p0).toList):=by rw[U,Qu];rfl
 rw[D];generalize dk L p0=m at Y |-;generalize de (aR 34) L p0=o2 at uc |-;generalize de (4294967295::aR 33) L p0=o3 at uq |-;obtain⟨T,D⟩:∃T:Nat->List Nat,∀j,T j=kN (w.take j):=⟨_,λ_=>rfl⟩
 have T0:T 0=[]:=by rw[D];rfl
 have TN:T w.length=kN w:=by rw[D,aaF]
 have Tl:∀i,(T i).length<=i:=λi=>by rw[D];exact ab9 (TP _) (by rw[aau];omega)
 simp[FL];refine aN w.length (λi=>[(0,FL w),(3,.vs (ah .u32 (T i)) (.own 0)),(18,FL w),(19,.int .i64 w.length),(20,.int .i64 i)]) (λi=>[some (.zone (T i).length)]) (λ_=>True) ?_ ?_
 .simp[au,ak,FL,T0]
 intro i sI _
 by_cases q:i<w.length
 .obtain⟨x,hx⟩:=ax (w[i])
  have hg:w[i]?=some x:=by rw[aad q,hx]
  have dL:=rz q;rw[<-hx] at dL;have gU:=J8 (G:=G) x;have dD:x.cs=[.int .i64 x.op,.int .i64 x.jt,.int .i64 x.jf,.int .u32 (x.k:Int)]:=rfl;have hl:=Tl i
  have d:T (i+1)=if kM x then T i++[x.k] else T i:=by rw[D,D,aas,hg];exact zAU _ _
  simp only[IV,dD] at gU;have e:ah .u32 (T i)++[[V.int .u32 (x.k:Int)]]=ah .u32 (T i++[x.k]):=Kz .u32 (T i) x.k;simp(disch:=omega)[bC,FL,dL,dD];refine aw gU ?_
  cases ha:(cT x.op).2.2 with
  | true =>
   cases C:(cT x.op).2.1 with
   | false =>
    have g:kM x=true:=by simp[kM,ha,C]
    rw[if_pos g] at d
    have s:(T (i+1)).length=(T i).length+1:=by rw[d];simp
    rw[<-d] at e
    simp(disch:=omega)[aA,q,e,s,bF,au,ak,-aae]
   | true =>
    by_cases t:x.op=0
    .have g:kM x=true:=by simp[kM,t]
     rw[if_pos g] at d
     have s:(T (i+1)).length=(T i).length+1:=by rw[d];simp
     rw[<-d] at e;simp(disch:=omega)[aA,q,t,e,s,bF,au,ak,-aae]
    by_cases m:x.op=1
    .have g:kM x=true:=by simp[kM,m]
     rw[if_pos g] at d
     have s:(T (i+1)).length=(T i).length+1:=by rw[d];simp
     rw[<-d] at e;simp(disch:=omega)[aA,q,m,e,s,bF,au,ak,-aae]
    have g:kM x=false:=by simp[kM,C,t,m]
    rw[g] at d;simp only[aaG,if_false] at d
    simp(disch:=omega)[aA,q,aL t,aL m,d,bF,au,ak,-aae]
  | false =>
    by_cases t:x.op=0
    .have g:kM x=true:=by simp[kM,t]
     rw[if_pos g] at d
     have s:(T (i+1)).length=(T i).length+1:=by rw[d];simp
     rw[<-d] at e;simp(disch:=omega)[aA,q,t,e,s,bF,au,ak,-aae]
    by_cases m:x.op=1
    .have g:kM x=true:=by simp[kM,m]
     rw[if_pos g] at d
     have s:(T (i+1)).length=(T i).length+1:=by rw[d];simp
     rw[<-d] at e;simp(disch:=omega)[aA,q,m,e,s,bF,au,ak,-aae]
    have g:kM x=false:=by simp[kM,ha,t,m]
    rw[g] at d;simp only[aaG,if_false] at d;simp(disch:=omega)[aA,q,aL t,aL m,d,bF,au,ak,-aae]
 .have aC:i=w.length:=an
  subst aC;have Ff:=TP w;obtain⟨O,hO⟩:=ax (kN w);simp only[TN,<-hO];rw[<-hO] at Ff;simp[FL];refine vm (zE7 _) ir ?_;simp;rw[show([some (.zone O.length),some (.map []),some (.cells [.vs [] (.own 3),.mp 1]),some (.zone 0),none]:ae)=BH (some (.zone O.length)) []++[none] from rfl];refine cN (me _) ?_;have b:∀k,(BH (some (.zone k)) L).length=4:=λk=>rfl;have kk:∀(k:Nat) (r:ae),(BH (some (.zone k)) L++r)[4]?=r[0]?:=λk r=>nJ (b k)
  have k0:∀(k:Nat) (r:ae) x,(BH (some (.zone k)) L++r).set 4 x=BH (some (.zone k)) L++r.set 0 x:=λk r x=>sj (b k) x;have N:∀(k:Nat) (r:ae),(BH (some (.zone k)) L++r)[0]?=some (some (.zone k)):=λk r=>rfl;have P:∀(k n:Nat) (r:ae),(BH (some (.zone k)) L++r).set 0 (some (.zone n))=BH (some (.zone n)) L++r:=λk n r=>rfl;obtain⟨Z,hZ⟩:∃Z:List V,Z=vcs (abG 18 0) [] .full:=⟨_,rfl⟩
  have lZ:Z.length=19:=by rw[hZ];rfl
  have HK:[V.int .i64 0,.int .i64 0,.int .i64 0,.int .i64 0,.int .i64 0,.int .i64 0,.int .i64 0,.int .i64 0,.int .i64 0,.int .i64 0,.int .i64 0,.int .i64 0,.int .i64 0,.int .i64 0,.int .i64 0,.int .i64 0,.int .i64 0,.int .i64 0,.vs [] .full]=Z:=by rw[hZ];rfl
  have tX:X.take 19=X:=aaf an;have dZ:Z.drop 19=[]:=aal an;simp[HK,lZ,kk,k0,K,dZ];simp[M];refine cN (Y _) ?_
  rcases m with _|a
  .obtain⟨f,u⟩:=ax (O++[])
   have hh:f.length<=40:=by rw[u];simp;omega
   obtain⟨F,v⟩:∃F:Nat->List Nat,∀i,F i=f++(if i=0 then [] else if i=1 then o2.toList else o2.toList++o3.toList):=⟨_,λ_=>rfl⟩
   have E:F 0=f:=by rw[v];simp
   have z:F 1=f++o2.toList:=by rw[v];simp
   have H:F 2=F 1++o3.toList:=by rw[v,z];simp
   have lF:∀i,(F i).length<=42:=λi=>by
    rw[v];split
    .simp;omega
    .split
     .cases o2<;>simp<;>omega
     .cases o2<;>cases o3<;>simp<;>omega
   simp(disch:=omega)[b,aA]
   have hj:O=f:=by rw[u];simp
   refine aN 2 (λi=>[(3,.vs (ah .u32 (F i)) (.own 0)),(9,.ptr 2 0),(10,.ptr 4 0),(71,.agg [.int .u32 0,.int .u32 4294967295]),(72,.int .i64 i)]) (λi=>BH (some (.zone (F i).length)) L++[some (.cells X)]) (λ_=>True) ?_ ?_
   .have:=((o f.length).app (r:=[some (.cells X)]) λn=>by simp[az.cl,l]).shut.self;simp[b] at this;simp[au,b,E,this,hj]
   intro i VI _;have hm:=lF i
   have Q:aB .i64 0 1=1:=by decide
   have R:aB .i64 1 1=2:=by decide
   have S:∀k:Nat,ak 5 (BH (some (.zone k)) L++[some (.cells X)])=BH (some (.zone k)) L++[some (.cells X)]:=λk=>by
    have:=((o k).app (r:=[some (.cells X)]) λn=>by simp[az.cl,l]).shut.self;simpa[b] using this
   have C:∀(k:Nat),ak 5 (BH (some (.zone k)) L++[some (.cells X),none])=BH (some (.zone k)) L++[some (.cells X)]:=λk=>by
    have:=((o k).app (r:=[some (.cells X)]) λn=>by simp[az.cl,l]).shut.back [none];simpa[b] using this
   by_cases h0:i=0
   .subst h0;simp[b,K,M];refine cN (uc _ _ λn=>by simp[az.cl,l]) ?_
    cases o2 with
    | none =>
     have A:F 1=F 0:=by rw[z,E];simp
     simp[b,au,S,Q,A]
    | some y =>
     have A:F 1=F 0++[y]:=by rw[z,E];simp
     have l1:(F 1).length=(F 0).length+1:=by rw[A];simp
     have e:ah .u32 (F 0)++[[V.int .u32 (y:Int)]]=ah .u32 (F 1):=by rw[A];exact Kz .u32 (F 0) y
     simp(disch:=omega)[b,N,P,aA,au,C,Q,e,l1]
   by_cases h1:i=1
   .subst h1;simp[b,K,M];refine cN (uq _ _ λn=>by simp[az.cl,l]) ?_
    cases o3 with
    | none =>
     have B:F 2=F 1:=by rw[H];simp
     simp[b,au,S,R,B]
    | some y =>
     have B:F 2=F 1++[y]:=by rw[H];simp
     have l2:(F 2).length=(F 1).length+1:=by rw[B];simp
     have e:ah .u32 (F 1)++[[V.int .u32 (y:Int)]]=ah .u32 (F 2):=by rw[B];exact Kz .u32 (F 1) y
     simp(disch:=omega)[b,N,P,aA,au,C,R,e,l2]
   obtain rfl:i=2:=by omega
   have cK:F 2=O++((none:Option Nat).toList++(o2.toList++o3.toList)):=by rw[H,z,u];simp
   simp[cK]
  .obtain⟨f,u⟩:=ax (O++[a])
   have hh:f.length<=40:=by rw[u];simp;omega
   obtain⟨F,v⟩:∃F:Nat->List Nat,∀i,F i=f++(if i=0 then [] else if i=1 then o2.toList else o2.toList++o3.toList):=⟨_,λ_=>rfl⟩
   have E:F 0=f:=by rw[v];simp
   have z:F 1=f++o2.toList:=by rw[v];simp
   have H:F 2=F 1++o3.toList:=by rw[v,z];simp
   have lF:∀i,(F i).length<=42:=λi=>by
    rw[v];split
    .simp;omega
    .split
     .cases o2<;>simp<;>omega
     .cases o2<;>cases o3<;>simp<;>omega
   simp(disch:=omega)[b,N,P,aA]
   have ho:ah .u32 O++[[V.int .u32 (a:Int)]]=ah .u32 f:=by rw[u];exact Kz .u32 O a
   have hn:O.length+1=f.length:=by rw[u];simp
   refine aN 2 (λi=>[(3,.vs (ah .u32 (F i)) (.own 0)),(9,.ptr 2 0),(10,.ptr 4 0),(71,.agg [.int .u32 0,.int .u32 4294967295]),(72,.int .i64 i)]) (λi=>BH (some (.zone (F i).length)) L++[some (.cells X),none]) (λ_=>True) ?_ ?_
   .have:=((o f.length).app (r:=[some (.cells X),none]) λn=>by simp[az.cl,l]).shut.self;simp[b] at this;simp[au,b,E,this,u.symm,hn]
   intro i VI _;have hm:=lF i
   have Q:aB .i64 0 1=1:=by decide
   have R:aB .i64 1 1=2:=by decide
   have S:∀k:Nat,ak 6 (BH (some (.zone k)) L++[some (.cells X),none])=BH (some (.zone k)) L++[some (.cells X),none]:=λk=>by
    have:=((o k).app (r:=[some (.cells X),none]) λn=>by simp[az.cl,l]).shut.self;simpa[b] using this
   have C:∀(k:Nat),ak 6 (BH (some (.zone k)) L++[some (.cells X),none,none])=BH (some (.zone k)) L++[some (.cells X),none]:=λk=>by
    have:=((o k).app (r:=[some (.cells X),none]) λn=>by simp[az.cl,l]).shut.back [none];simpa[b] using this
   by_cases h0:i=0
   .subst h0;simp[b,K,M];refine cN (uc _ _ λn=>by simp[az.cl,l]) ?_
    cases o2 with
    | none =>
     have A:F 1=F 0:=by rw[z,E];simp
     simp[b,au,S,Q,A]
    | some y =>
     have A:F 1=F 0++[y]:=by rw[z,E];simp
     have l1:(F 1).length=(F 0).length+1:=by rw[A];simp
     have e:ah .u32 (F 0)++[[V.int .u32 (y:Int)]]=ah .u32 (F 1):=by rw[A];exact Kz .u32 (F 0) y
     simp(disch:=omega)[b,N,P,aA,au,C,Q,e,l1]
   by_cases h1:i=1
   .subst h1;simp[b,K,M];refine cN (uq _ _ λn=>by simp[az.cl,l]) ?_
    cases o3 with
    | none =>
     have B:F 2=F 1:=by rw[H];simp
     simp[b,au,S,R,B]
    | some y =>
     have B:F 2=F 1++[y]:=by rw[H];simp
     have l2:(F 2).length=(F 1).length+1:=by rw[B];simp
     have e:ah .u32 (F 1)++[[V.int .u32 (y:Int)]]=ah .u32 (F 2):=by rw[B];exact Kz .u32 (F 1) y
     simp(disch:=omega)[b,N,P,aA,au,C,R,e,l2]
   obtain rfl:i=2:=by omega
   have cK:F 2=O++((some a).toList++(o2.toList++o3.toList)):=by rw[H,z,u];simp
   simp[cK]
def qt(l:List af)(x:af):List af:=if x∈l then l else if aY [x]=true then l++[x] else l
def TQ(l:List af)(x:af):(qt l x).length<=l.length+1:=by unfold qt;split;omega;split<;>simp
def we(l:List af):List (V×V):=l.map λx=>(IV x,.bool true)
def zAV{x:af}:∀{l:List af} (i:Nat),x∈l->j0 (.row [.int,.int,.int,.int]) (.agg x.cs) (we l) i=some (some (i+l.idxOf x,.bool true))
 | [],i,h=>by cases h
 | y::l,i,h=>by
  simp only[we,abc,j0,j4,IV,Bb]
  by_cases e:x=y
  .subst e;simp
  .have b:x∈l:=by simpa[e] using h
   have a:=zAV (i+1) b
   have c:(y::l).idxOf x=l.idxOf x+1:=by rw[List.idxOf_cons,beq_false_of_ne (Ne.symm e)];rfl
   simp only[we,IV] at a;simp only[e,decide_false,a,c,show i+1+l.idxOf x=i+(l.idxOf x+1) from an]
def zsn{x:af}:∀{l:List af} (i:Nat),x∉l->j0 (.row [.int,.int,.int,.int]) (.agg x.cs) (we l) i=some none
 | [],i,_=>rfl
 | y::l,i,h=>by
  simp only[aay,not_or] at h;have a:=zsn (i+1) h.2;simp only[we,IV] at a;simp only[we,abc,j0,j4,IV,Bb,h.1,decide_false,a]
def pJ(a b:List af)(n:Nat):ae:=[some (.cells [.vs (IL a) (.own 3)]),some (.map (we b)),some (.cells [.mp 1]),some (.zone n)]
def BL(l:List af):ae:=pJ l l l.length
def zso(a b:List af)(n:Nat):gV (pJ a b n):=by
 intro m c;simp only[pJ,aap,abi] at c
 have d:(we b).map (λp=>(p.1.cl m,p.2.cl m))=we b:=by simp[we,IV,af.cs,V.cl,a_,aam]
 simp[pJ,az.cl,a_,V.cl,Tk.cl,show 3<m by omega,show 1<m by omega,d]
def TS[aE G][aD G][aQ G][fI G](l:List af)(x:af)(r:ae)(D:∀n,r.map (aat (az.cl n))=r)(O:l.length<=1000000)(E:x.k<4294967296) :
  SF G 327 [IV x,.ptr 2 0,.ptr 0 0] (BL l++r) (.bf []) (BL (qt l x)++r):=by
 refine j_ fI.ad1 (aag rfl) ?_;have h:∀a b n,(pJ a b n).length=4:=λa b n=>rfl;have m:x.cs.length=4:=rfl;have o:x.cs.take 4=x.cs:=rfl
 have P:∀n,a_ n x.cs=x.cs:=λn=>by simp[af.cs,a_,V.cl]
 have nx:x.cs.map V.k9=x.cs:=rfl;have F:∀a b n (s:ae),(pJ a b n++s)[0]?=some (some (.cells [.vs (IL a) (.own 3)])):=λa b n s=>rfl;have v:∀a b n (s:ae),(pJ a b n++s)[1]?=some (some (.map (we b))):=λa b n s=>rfl;have w:∀a b n (s:ae),(pJ a b n++s)[2]?=some (some (.cells [.mp 1])):=λa b n s=>rfl;have H:∀a b n (s:ae),(pJ a b n++s)[3]?=some (some (.zone n)):=λa b n s=>rfl;have Q:∀a c b n (s:ae),(pJ a b n++s).set 0 (some (.cells [.vs (IL c) (.own 3)]))=pJ c b n++s:=λa c b n s=>rfl
 have I:∀a b d n (s:ae),(pJ a b n++s).set 1 (some (.map (we d)))=pJ a d n++s:=λa b d n s=>rfl;have R:∀a b n e (s:ae),(pJ a b n++s).set 3 (some (.zone e))=pJ a b e++s:=λa b n e s=>rfl
 have kk:∀a b n (s:ae),(pJ a b n++(r++s))[4+r.length]?=s[0]?:=λa b n s=>by
  rw[<-aar];exact nJ (by simp[h])
 have J:∀a b n (s:ae) y,(pJ a b n++(r++s)).set (4+r.length) y=pJ a b n++(r++s.set 0 y):=λa b n s y=>by
  rw[<-aar,sj (by simp[h]),aar]
 have z:(∀y∈x.cs,y.pure=true)=True:=eq_true (λy i=>by simp only[af.cs,aay,aaK,or_false] at i;rcases i with rfl|rfl|rfl|rfl<;>rfl);have p:=Bb x x;simp only[decide_true] at p;have A:=AD (G:=G) [x] (by simp[maxLen]) (λy i=>by simp at i;rw[i];exact E);simp only[FL,IL,abc,abA] at A
 have q:∀a b n (s:ae),ak (4+r.length) (pJ a b n++(r++s))=pJ a b n++r:=λa b n s=>by
  have:=((zso a b n).app D).back s;rw[aar,aaj,h] at this;exact this
 simp[BL,h,IV,m,o,v,w,J,j4,p]
 by_cases g:x∈l
 .have j:qt l x=l:=if_pos g;simp[zAV 0 g,j,q]
 .simp[zsn 0 g,m,o,kk,z];refine aw A ?_
  cases B:aY [x] with
  | false =>
   have j:qt l x=l:=by rw[qt,if_neg g,B];rfl
   simp[j,q]
  | true =>
   have j:qt l x=l++[x]:=by rw[qt,if_neg g,B];rfl
   have K:we l++[(V.agg x.cs,V.bool true)]=we (l++[x]):=by simp[we,IV]
   have S:IL l++[x.cs]=IL (l++[x]):=by simp[IL]
   have T:x.cs.all V.pure=true:=rfl
   have L:∀f∈IL l,f.length=4:=λf C=>by simp only[IL,aa2] at C;obtain⟨y,_,rfl⟩:=C;rfl
   have M:(l.length+1)*32<=140737488355328:=an
   have t:∀a c b n,(pJ a b n).set 0 (some (.cells [.vs (IL c) (.own 3)]))=pJ c b n:=λa c b n=>rfl;have N:∀a b d n,(pJ a b n).set 1 (some (.map (we d)))=pJ a d n:=λa b d n=>rfl;have u:∀a b n e,(pJ a b n).set 3 (some (.zone e))=pJ a b e:=λa b n e=>rfl;simp[zsn 0 g,j4,p,m,o,F,v,w,H,h,K,I,z,t,u,M,j,q]
def Jz{f:Nat}{cap args:List V}{r:V}{H H':ae}{base:Nat}{d:Option Nat}{os:List aF}{K:List Kt}{e:Env}{Q:Ex->Env->ae->Prop}(h:SF G f (args++cap) H r H')
  (a:WO G base os K (e.put d r) H' Q):JN G false (.fn f cap) args base d os K e H Q:=by
 obtain⟨i,H1,b,c,g⟩:=h;refine kF b (λh=>by cases h) ?_;rw[c,g];exact a
def fF(l xs:List af):List af:=xs.foldl qt l
def CE:∀(xs l:List af),(fF l xs).length<=l.length+xs.length
 | [],l=>aaH _
 | x::xs,l=>by
  have a:=CE xs (qt l x);have b:=TQ l x;show(fF (qt l x) xs).length<=_;rw[aap];omega
def ztA(l xs:List af)(x:af):fF l (xs++[x])=qt (fF l xs) x:=by simp[fF]
def zwr(l xs ys:List af):fF l (xs++ys)=fF (fF l xs) ys:=by simp[fF]
def BM:List Nat:=[0,1,4,84,68,164]
def m_(n:Nat):List af:=BM.map fun(o:Nat)=>(⟨o,0,0,n⟩:af)
def Gp(w:List af)(a:List Nat):List af:=fF (fF (fF [] w) [⟨7,0,0,0⟩,⟨135,0,0,0⟩]) (a.flatMap m_)
def zyG[ef G][dM G][aE G][aD G][aQ G][ar G][A:iT G][cG G][aM G][di G][cA G][gC G][fI G](w:List af)(P:w.length<=maxLen)(E:∀x∈w,x.k<4294967296)(C:aY w=true)
  (Q:∀n∈kN w++zx w,n<4294967296):FP G 330 [FL w] (.bf [FL (Gp w (kN w++zx w)),.int .i64 0]):=by
 refine bA fI.ad2 (aag rfl) ?_;have F:=AD (G:=G) w P E;have e:=zyF (G:=G) w P E C
 have pO:w.length<=32:=by simp only[aY,aah,decide_eq_true_eq] at C;exact C.1
 have Z:(kN w++zx w).length<=35:=by
  have:=TP w;rw[aaj,zx];simp only[aaj]
  have b:∀o:Option Nat,o.toList.length<=1:=λo=>by cases o<;>simp
  have a1:=b (dk (aU [] w).L ((aU [] w).p.getD 0 0));have a2:=b (de (aR 34) (aU [] w).L ((aU [] w).p.getD 0 0));have a3:=b (de (4294967295::aR 33) (aU [] w).L ((aU [] w).p.getD 0 0));omega
 generalize kN w++zx w=fh at e Z Q |-;rw[C] at F;simp only[FL] at F e;simp[FL];refine aw F ?_;obtain⟨T,h⟩:∃T:Nat->List af,∀j,T j=fF [] (w.take j):=⟨_,λ_=>rfl⟩
 have T0:T 0=[]:=by rw[h];rfl
 have TN:T w.length=fF [] w:=by rw[h,aaF]
 have Tl:∀i,i<=w.length->(T i).length<=i:=λi hi=>by rw[h];have:=CE (w.take i) [];rw[aau] at this;simp at this;omega
 have c:∀l,(BL l).length=4:=λl=>rfl;have kk:∀l (r:ae),(BL l++r)[4]?=r[0]?:=λl r=>nJ (c l);have k0:∀l (r:ae) x,(BL l++r).set 4 x=BL l++r.set 0 x:=λl r x=>sj (c l) x;have bk:∀l (r:ae),ak 4 (BL l++r)=BL l:=λl r=>(zso l l l.length).back r;have q:∀l,ak 4 (BL l)=BL l:=λl=>(zso l l l.length).self;have H:∀l,(BL l)[0]?=some (some (.cells [.vs (IL l) (.own 3)])):=λl=>rfl;have hE:([some (.cells [.vs [] (.own 3)]),some (.map []),some (.cells [.mp 1]),some (.zone 0)]:ae)=BL []:=rfl
 simp[hE];refine aN w.length (λi=>[(0,FL w),(4,.ptr 0 0),(6,.fn 327 [.ptr 2 0,.ptr 0 0]),(18,FL w),(19,.int .i64 w.length),(20,.int .i64 i)]) (λi=>BL (T i)) (λ_=>True) ?_ ?_
 .simp[au,FL,T0,c,q]
 intro i hi _
 by_cases d:i<w.length
 .obtain⟨x,I⟩:=ax (w[i])
  have hg:w[i]?=some x:=by rw[aad d,I]
  have R:=rz d;rw[<-I] at R;have eS:x.cs.length=4:=rfl;have jV:x.cs.take 4=x.cs:=rfl;have ha:([V.int .i64 0,.int .i64 0,.int .i64 0,.int .u32 0]:List V).drop 4=[]:=rfl;have uK:=E x (I▸aa9 d);have nx:x.cs.map V.k9=x.cs:=rfl
  have J:T (i+1)=qt (T i) x:=by rw[h,h,aas,hg];exact ztA _ _ _
  have s:=TS (G:=G) (T i) x [some (.cells x.cs)] (λn=>by simp[az.cl,af.cs,a_,V.cl]) (by have:=Tl i hi;omega) uK;simp only[IV] at s;simp(disch:=omega)[bC,FL,R,eS,jV,c,kk,k0];refine Jz s ?_;simp(disch:=omega)[d,J,bF,au,c,bk,-aae]
 .have K:i=w.length:=an
  subst K;have t:=TS (G:=G) (fF [] w) ⟨7,0,0,0⟩ [] (λn=>rfl) (by have:=CE w [];simp at this;omega) aga;have f:=TS (G:=G) (qt (fF [] w) ⟨7,0,0,0⟩) ⟨135,0,0,0⟩ [] (λn=>rfl) (by have:=CE w [];have:=TQ (fF [] w) ⟨7,0,0,0⟩;simp at *;omega) aga;obtain⟨B,A⟩:=ax (qt (qt (fF [] w) ⟨7,0,0,0⟩) ⟨135,0,0,0⟩);rw[<-A] at f
  have CG:B.length<=34:=by rw[A];have b:=CE w [];have M:=TQ (fF [] w) ⟨7,0,0,0⟩;have S:=TQ (qt (fF [] w) ⟨7,0,0,0⟩) ⟨135,0,0,0⟩;simp at b;omega
  have AZ:Gp w fh=fF B (fh.flatMap m_):=by rw[A];rfl
  simp only[IV,af.cs,aa0] at t f;simp[FL,TN];refine Jz t ?_;simp;refine Jz f ?_;simp;refine aw e ?_;obtain⟨U,u⟩:∃U:Nat->List af,∀j,U j=fF B ((fh.take j).flatMap m_):=⟨_,λ_=>rfl⟩
  have U0:U 0=B:=by rw[u];rfl
  have UN:U fh.length=Gp w fh:=by rw[u,aaF,AZ]
  have Ul:∀i,(U i).length<=34+6*35:=λi=>by
   rw[u];have b:=CE ((fh.take i).flatMap m_) B
   have M:((fh.take i).flatMap m_).length=6*(fh.take i).length:=by
    generalize fh.take i=l
    induction l with
    | nil=>rfl
    | cons a l ih=>rw[aa1,aaj,ih,aap];simp[m_,BM];omega
   rw[M,aau] at b;omega
  simp[H];refine aN fh.length (λi=>[(4,.ptr 0 0),(6,.fn 327 [.ptr 2 0,.ptr 0 0]),(35,.vs (ah .u32 fh) .no),(36,.int .i64 fh.length),(37,.int .i64 i)]) (λi=>BL (U i)) (λ_=>True) ?_ ?_
  .simp[au,U0,c,q]
  intro i VI _
  by_cases d:i<fh.length
  .obtain⟨n,N⟩:=ax (fh[i])
   have zh:fh[i]?=some n:=by rw[aad d,N]
   have SW:=Q n (N▸aa9 d);obtain⟨Y,v⟩:∃Y:Nat->List af,∀j,Y j=fF (U i) ((m_ n).take j):=⟨_,λ_=>rfl⟩
   have Y0:Y 0=U i:=by rw[v];rfl
   have Y6:Y 6=U (i+1):=by rw[v,u,u,aaf (show(m_ n).length<=6 from aaH _),aas,zh];simp[zwr]
   have Yl:∀j,(Y j).length<=34+6*35+6:=λj=>by
    rw[v];have b:=CE ((m_ n).take j) (U i);have M:=Ul i;have S:(m_ n).length=6:=rfl;rw[aau,S] at b;omega
   obtain⟨g,D⟩:∃g:List V,g=[.int .i64 0,.int .i64 1,.int .i64 4,.int .i64 84,.int .i64 68,.int .i64 164]:=⟨_,rfl⟩
   have l6:g.length=6:=by rw[D];rfl
   have W:∀m,a_ m g=g:=λm=>by rw[D];simp[a_,V.cl]
   have O:∀j,j<6->(g.drop j).take 1=[.int .i64 (BM.getD j 0:Nat)]:=λj hj=>by
    rw[D]
    rcases(by omega:j=0\/j=1\/j=2\/j=3\/j=4\/j=5) with rfl|rfl|rfl|rfl|rfl|rfl<;>rfl
   simp(disch:=omega)[bC,N.symm,<-D,H];refine aN 6 (λj=>[(4,.ptr 0 0),(6,.fn 327 [.ptr 2 0,.ptr 0 0]),(10,.int .u32 n),(35,.vs (ah .u32 fh) .no),(36,.int .i64 fh.length),(37,.int .i64 i),(41,.agg g),(42,.int .i64 j)]) (λj=>BL (Y j)) (λ_=>True) ?_ ?_
   .simp[au,Y0,c,q,W]
   intro j hj _
   by_cases y:j<6
   .obtain⟨o,X⟩:=ax (BM.getD j 0)
    have J:Y (j+1)=qt (Y j) ⟨o,0,0,n⟩:=by
     rw[v,v,aas,<-ztA]
     congr 2
     have:(m_ n)[j]?=some ⟨o,0,0,n⟩:=by
      rw[X]
      rcases(by omega:j=0\/j=1\/j=2\/j=3\/j=4\/j=5) with rfl|rfl|rfl|rfl|rfl|rfl<;>rfl
     rw[this];rfl
    have z:=O j y;rw[<-X] at z;have s:=TS (G:=G) (Y j) ⟨o,0,0,n⟩ [] (λn=>rfl) (by have:=Yl j;omega) SW;simp only[IV,af.cs,aa0] at s;simp(disch:=omega)[bC,l6,z,aA];refine Jz s ?_;simp(disch:=omega)[y,J,bF,au,c,q,W,-aae]
   .obtain rfl:j=6:=by omega
    simp(disch:=omega)[d,bF,au,c,q,Y6,-aae]
  .have K:i=fh.length:=an
   subst K;simp[H,UN]
def TU(L:List af):List (List af):=L.flatMap λx=>L.map λy=>[x,y]
def rJ(w L:List af):List (List af) :=
 if w.length=0 then [] else []::(if w.length=1 then [] else L.map (λx=>[x])++(if w.length=2 then [] else TU L))
def ztB{L:List af}{i j:Nat}{x y:af}:∀{K:List af},K[i]?=some x->L[j]?=some y->(K.flatMap λx=>L.map λy=>[x,y])[i*L.length+j]?=some [x,y]
 | [],h,_=>by simp at h
 | z::K,h,a=>by
  have b:=(aab.1 a).1;rw[aa1]
  cases i with
  | zero =>
   simp only[aaP,abq.injEq] at h;subst h
   rw[Nat.zero_mul,aa3,aai (by simpa using b),abV,a];rfl
  | succ i =>
   rw[aaW] at h;rw[abv (by rw[aa_,abB];omega),aa_,show(i+1)*L.length+j-L.length=i*L.length+j by rw[abB];omega];exact ztB h a
def ztC(L:List af):∀K:List af,(K.flatMap λx=>L.map λy=>[x,y]).length=K.length*L.length
 | []=>by simp
 | z::K=>by rw[aa1,aaj,ztC L K,aa_,aap,abB];omega
section
variable {w L:List af} {i j:Nat} {x y:af}
def zKX(a:w.length≠0):(rJ w L)[0]?=some []:=by simp[rJ,a]
def zKY(a:2<=w.length)(h:L[i]?=some x):(rJ w L)[i+1]?=some [x]:=by have hi:=(aab.1 h).1;rw[rJ,if_neg an,aaW,if_neg an,aai (by simpa using hi),abV,h];rfl
def zKZ(b:3<=w.length)(h:L[i]?=some x)(a:L[j]?=some y):(rJ w L)[L.length+1+(i*L.length+j)]?=some [x,y]:=by rw[rJ,if_neg an,show L.length+1+(i*L.length+j)=(L.length+(i*L.length+j))+1 by omega,aaW,if_neg an,abv ir,aa_,if_neg an,Nat.add_sub_cancel_left];exact ztB h a
def zC2:(rJ w L).length=if w.length=0 then 0 else if w.length=1 then 1 else if w.length=2 then L.length+1 else L.length+1+L.length*L.length:=by
 unfold rJ;split
 .rfl
 split
 .rfl
 split
 .simp
 .simp only[aap,aaj,aa_,TU,ztC];omega
def PL{c:List af}(h:c∈rJ w L):c.length<w.length:=by
 unfold rJ at h;split at h
 .cases h
 .split at h
  .simp at h;subst h;simp;omega
  .split at h
   .simp at h
    rcases h with rfl|⟨a,_,rfl⟩
    .simp;omega
    .simp;omega
   .simp[TU] at h
    rcases h with rfl|⟨a,_,rfl⟩|⟨a,_,b,_,rfl⟩
    .simp;omega
    .simp;omega
    .simp;omega
def PM{c:List af}(h:c∈rJ w L):∀x∈c,x∈L:=by
 unfold rJ at h;split at h
 .cases h
 .split at h
  .simp at h;subst h;simp
  .split at h
   .simp at h
    rcases h with rfl|⟨a,d,rfl⟩<;>simp_all
   .simp[TU] at h
    rcases h with rfl|⟨a,d,rfl⟩|⟨a,d,b,e,rfl⟩<;>simp_all
end
def t_(hit:Nat->List af->Bool):List (List af)->Nat->Option (Nat×List af)
 | [],_=>none
 | c::l,k=>if hit k c=true then some (k,c) else t_ hit l (k+1)
def zpz{hit:Nat->List af->Bool}:∀{l:List (List af)} {k:Nat},(∀j<l.length,∀c,l[j]?=some c->hit (k+j) c=false)->t_ hit l k=none
 | [],_,_=>rfl
 | c::l,k,h=>by
  rw[t_,if_neg (by rw[show k=k+0 by rfl,h 0 ir c rfl];simp)]
  exact zpz λj b c a=>by rw[show k+1+j=k+(j+1) by omega];exact h (j+1) (by simp;omega) c (by simpa using a)
def ztD{hit:Nat->List af->Bool}{c:List af}:∀{l:List (List af)} {k j:Nat},l[j]?=some c->hit (k+j) c=true->(∀i<j,∀c,l[i]?=some c->hit (k+i) c=false)->t_ hit l k=some (k+j,c)
 | [],_,_,h,_,_=>by simp at h
 | d::l,k,0,h,a,_=>by
  simp only[aaP,abq.injEq] at h;subst h;rw[aby] at a
  rw[t_,if_pos a];rfl
 | d::l,k,j+1,h,a,b=>by
  rw[t_,if_neg (by rw[show k=k+0 by rfl,b 0 an d rfl];simp)];rw[show k+(j+1)=k+1+j by omega] at a |-
  exact ztD (by simpa using h) a λi hi c e=>by rw[show k+1+i=k+(i+1) by omega];exact b (i+1) an c (by simpa using e)
open Go Go.RowKit
variable {G:aP}
def zAW[fJ G]{H:ae}(fz:gV H){id i1 i2:Nat}{w L:List af}{tk:Tk}(Cl:w.length<=1000)(hL:L.length<=1000)
  (f:H[i1]?=some (some (.cells [.vs (IL w) .no]))) (M:H[i2]?=some (some (.cells [.vs (IL L) .no]))) (bH:id<H.length) {hit:Nat->List af->Bool} {H':Nat->List af->ae}
  (xC:∀k c,(rJ w L)[k]?=some c->hit k c=false->∀X:ae,(∀n,X.map (aat (az.cl n))=X)->YS G id [.int .i64 k,.vs (IL c) .full] (H++X) true (H++X))
  (jd:∀k c,(rJ w L)[k]?=some c->hit k c=true->∀X:ae,(∀n,X.map (aat (az.cl n))=X)->YS G id [.int .i64 k,.vs (IL c) .full] (H++X) false (H' k c++X))
  (nR:∀k c,(rJ w L)[k]?=some c->hit k c=true->ak H.length (H' k c)=H' k c/\(H' k c).length=H.length) :
  SF G 328 [.yld id,.ptr i1 0,.ptr i2 0] H (.bf []) (match t_ hit (rJ w L) 0 with|some p=>H' p.1 p.2|none=>H):=by
 refine j_ fJ.ad3 (aag rfl) ?_;have Ej:i1<H.length:=(aab.1 f).1;have N:i2<H.length:=(aab.1 M).1;have B:=fz.self;have rq:=fz.back;have g1:=(aab.1 f).2;have g2:=(aab.1 M).2
 have e1:∀X:ae,(H++X)[i1]?=some (some (.cells [.vs (IL w) .no])):=λX=>by rw[aai Ej];exact f
 have e2:∀X:ae,(H++X)[i2]?=some (some (.cells [.vs (IL L) .no])):=λX=>by rw[aai N];exact M
 have HO:∀(X:ae) h,(H++X)[i1]'h=some (.cells [.vs (IL w) .no]):=λX h=>(aab.1 (e1 X)).2;have Ce:∀(X:ae) h,(H++X)[i2]'h=some (.cells [.vs (IL L) .no]):=λX h=>(aab.1 (e2 X)).2;have k0:∀(r:ae) x,(H++r).set H.length x=H++r.set 0 x:=λr x=>sj rfl x;have kk:∀r:ae,(H++r)[H.length]?=r[0]?:=λr=>nJ rfl;have ha:∀(r:ae) x,(H++r).set (H.length+1) x=H++r.set 1 x:=λr x=>x_ rfl 1 x;have hb:∀r:ae,(H++r)[H.length+1]?=r[1]?:=λr=>qX rfl 1
 have O:=zC2 (w:=w) (L:=L);have lK:∀x:af,(∀y∈x.cs,y.pure=true)=True:=λx=>eq_true (λy d=>by simp only[af.cs,aay,aaK,or_false] at d;rcases d with rfl|rfl|rfl|rfl<;>rfl);have eS:∀x:af,x.cs.length=4:=λx=>rfl;have jV:∀x:af,x.cs.take 4=x.cs:=λx=>rfl;have nx:∀x:af,x.cs.map V.k9=x.cs:=λx=>rfl
 have kx:∀(x:af) n,a_ n x.cs=x.cs:=λx n=>by simp[af.cs,a_,V.cl]
 obtain⟨C,P⟩:=ax (rJ w L);rw[<-P] at O |-
 have jH:∀n,C.length<=n->(∀j<n,∀c,C[j]?=some c->hit j c=false)->t_ hit C 0=none:=λn g l=>zpz λj o c a=>by rw[aa3];exact l j an c a
 have ua:∀k c,C[k]?=some c->hit k c=true->(∀j<k,∀c,C[j]?=some c->hit j c=false)->t_ hit C 0=some (k,c):=λk c a b l=>by
  have:=ztD (hit:=hit) (k:=0) a (by rw[aa3];exact b) λi hi c a=>by rw[aa3];exact l i hi c a
  rwa[aa3] at this
 rw[<-P] at xC jd nR
 by_cases t:w.length=0
 .have g:t_ hit C 0=none:=jH 0 (by rw[O,if_pos t];exact aaH _) λj o=>by omega
  have Q:((w.length:Int)==0)=true:=by simp[t]
  simp[f,t,g,B]
 have Q:((w.length:Int)==0)=false:=aL an
 have D:C[0]?=some []:=by rw[P];exact zKX t
 simp[f,Q]
 cases E:hit 0 [] with
 | true =>
  have:=jd 0 [] D E [] (λn=>rfl);simp only[aa0,IL,abA] at this;refine Ch this ?_
  have F:=ua 0 [] D E λj o=>by omega
  obtain⟨I,R⟩:=nR 0 [] D E
  simp[F,I]
 | false =>
 have:=xC 0 [] D E [] (λn=>rfl);simp only[aa0,IL,abA] at this;refine Ch this ?_
 by_cases w1:w.length=1
 .have g:t_ hit C 0=none:=jH 1 (by rw[O,if_neg t,if_pos w1];exact aaH _) λj o c a=>by
   obtain rfl:j=0:=by omega
   rw[D] at a;cases a;exact E
  simp[f,w1,g,B]
 have he:((w.length:Int)==1)=false:=aL an
 have xa:2<=w.length:=an
 simp[f,M,he]
 have P1:∀j<1,∀c,C[j]?=some c->hit j c=false:=λj o c a=>by
  obtain rfl:j=0:=by omega
  rw[D] at a;cases a;exact E
 have p_:∀X:ae,(∀n,X.map (aat (az.cl n))=X)->ak H.length (H++X)=H:=λX _=>rq X;obtain⟨u,v⟩:∃u:Nat->Nat,∀i,u i=i+1:=⟨_,λ_=>rfl⟩;have hk:u 0=1:=v 0;refine aN L.length (λi=>[(0,.yld id),(1,.ptr i1 0),(2,.ptr i2 0),(4,.int .i64 (u i:Nat)),(24,.vs (IL L) .no),(25,.int .i64 L.length),(26,.int .i64 i)]) (λ_=>H) (λi=>∀j<i+1,∀c,C[j]?=some c->hit j c=false) ?_ ?_
 .simp[au,B,bH,Ej,N,hk];simpa using P1
 intro i hi l
 by_cases z:i<L.length
 .obtain⟨x,S⟩:=ax (L[i])
  have hg:L[i]?=some x:=by rw[aad z,S]
  have T:=rz z;rw[<-S] at T
  have a:C[i+1]?=some [x]:=by rw[P];exact zKY xa hg
  have J:∀n,([some (az.cells x.cs)]:ae).map (aat (az.cl n))=[some (az.cells x.cs)]:=λn=>by simp[az.cl,kx]
  have Pk:∀n,([some (az.cells x.cs)]:ae).map (aat (az.cl n))=[some (az.cells x.cs)]:=J;simp(disch:=omega)[bC,T,eS,jV,kk,k0,lK];have U:IL [x]=[x.cs]:=rfl
  cases b:hit (i+1) [x] with
  | true =>
   have d:=jd (i+1) [x] a b _ J;rw[U,<-v i] at d;refine Ch d ?_;have F:=ua (i+1) [x] a b l;obtain⟨I,R⟩:=nR (i+1) [x] a b;rw[<-v i] at I R F
   simp[F,Pa I R]
  | false =>
   have d:=xC (i+1) [x] a b _ J;rw[U,<-v i] at d;refine Ch d ?_
   have qh:∀j<i+1+1,∀c,C[j]?=some c->hit j c=false:=λj o c A=>by
    rcases aao.1 o with h|rfl
    .exact l j h c A
    .rw[a] at A;cases A;exact b
   have a1:aB .i64 (u i:Int) 1=(u (i+1):Int):=by rw[v,v];exact bF an
   simp(disch:=omega)[z,bF,a1,au,rq,bH,Ej,N,-aae];exact qh
 .have aC:i=L.length:=an
  subst aC;simp
  by_cases w2:w.length=2
  .have g:t_ hit C 0=none:=jH (L.length+1) (by rw[O,if_neg t,if_neg w1,if_pos w2];exact aaH _) l;simp[f,w2,g,B]
  have hl:((w.length:Int)==2)=false:=aL an
  have ho:3<=w.length:=an
  have nn:L.length*L.length<=1000000:=ab9 (Nat.mul_le_mul hL hL) aga;simp[f,M,hl];obtain⟨s,TW⟩:∃s:Nat->Nat,∀i,s i=L.length+1+i*L.length:=⟨_,λ_=>rfl⟩
  have hp:s 0=L.length+1:=by rw[TW];omega
  have hr:u L.length=L.length+1:=v _;refine aN L.length (λi=>[(0,.yld id),(2,.ptr i2 0),(4,.int .i64 (s i:Nat)),(42,.vs (IL L) .no),(43,.int .i64 L.length),(44,.int .i64 i)]) (λ_=>H) (λi=>∀j<s i,∀c,C[j]?=some c->hit j c=false) ?_ ?_
  .simp[au,B,bH,N,hp,hr];exact l
  intro i hi hQ;have vJ:i*L.length<=L.length*L.length:=Nat.mul_le_mul_right _ hi
  by_cases z:i<L.length
  .obtain⟨x,S⟩:=ax (L[i])
   have hg:L[i]?=some x:=by rw[aad z,S]
   have T:=rz z;rw[<-S] at T
   have J:∀n,([some (az.cells x.cs)]:ae).map (aat (az.cl n))=[some (az.cells x.cs)]:=λn=>by simp[az.cl,kx]
   have hs:ak (H.length+1) (H++[some (.cells x.cs)])=H++[some (.cells x.cs)]:=by have:=(fz.app J).self;simpa using this
   have mD:∀r:ae,ak (H.length+1) (H++some (.cells x.cs)::r)=H++[some (.cells x.cs)]:=λr=>by
    have:=(fz.app J).back r;simpa using this
   have hw:(i+1)*L.length=i*L.length+L.length:=abB _ _;have hz:∀r:ae,(H++r)[i2]?=some (some (.cells [.vs (IL L) .no])):=e2;simp(disch:=omega)[bC,T,eS,jV,kk,k0,e2];obtain⟨e,K⟩:∃e:Nat->Nat,∀j,e j=L.length+1+(i*L.length+j):=⟨_,λ_=>rfl⟩
   have ht:e 0=s i:=by rw[K,TW];omega
   have Pn:e L.length=s (i+1):=by rw[K,TW];omega
   have hu:∀j,e (j+1)=e j+1:=λj=>by rw[K,K];omega
   have hv:∀j,j<=L.length->e j<=2000000:=λj o=>by rw[K];omega
   refine aN L.length (λj=>[(0,.yld id),(2,.ptr i2 0),(4,.int .i64 (e j:Nat)),(8,.ptr H.length 0),(42,.vs (IL L) .no),(43,.int .i64 L.length),(44,.int .i64 i),(48,.vs (IL L) .no),(49,.int .i64 L.length),(50,.int .i64 j)]) (λ_=>H++[some (.cells x.cs)]) (λj=>∀m<e j,∀c,C[m]?=some c->hit m c=false) ?_ ?_
   .simp[au,hs,show id<H.length+1 by omega,show i2<H.length+1 by omega,ht];exact hQ
   intro j o hR
   by_cases vQ:j<L.length
   .obtain⟨y,d⟩:=ax (L[j])
    have Py:L[j]?=some y:=by rw[aad vQ,d]
    have r9:=rz vQ;rw[<-d] at r9
    have a:C[L.length+1+(i*L.length+j)]?=some [x,y]:=by rw[P];exact zKZ ho hg Py
    have W:∀n,([some (az.cells x.cs),some (az.cells y.cs)]:ae).map (aat (az.cl n))=[some (az.cells x.cs),some (az.cells y.cs)]:=λn=>by simp[az.cl,kx]
    have U:IL [x,y]=[x.cs,y.cs]:=rfl;rw[<-K j] at a;have LM:=hv j an;have Y:=hu j;obtain⟨q,hq⟩:=ax (e j);rw[<-hq] at a LM Y
    have GR:∀m<q,∀c,C[m]?=some c->hit m c=false:=by rw[hq];exact hR
    have a3:aB .i64 (q:Int) 1=((q+1:Nat):Int):=bF an;simp only[<-hq];simp(disch:=omega)[bC,r9,eS,jV,kk,hb,ha,lK]
    cases b:hit q [x,y] with
    | true =>
     have Z:=jd q [x,y] a b _ W;rw[U] at Z;refine Ch Z ?_;have F:=ua q [x,y] a b GR;obtain⟨I,R⟩:=nR q [x,y] a b
     simp[F,Pa I R]
    | false =>
     have Z:=xC q [x,y] a b _ W;rw[U] at Z;refine Ch Z ?_
     have qh:∀m<q+1,∀c,C[m]?=some c->hit m c=false:=λm hm c A=>by
      rcases aao.1 hm with h|rfl
      .exact GR m h c A
      .rw[a] at A;cases A;exact b
     simp(disch:=omega)[vQ,bF,a3,Y,au,mD,show id<H.length+1 by omega,show i2<H.length+1 by omega,-aae];exact qh
   .obtain rfl:j=L.length:=by omega
    rw[Pn] at hR;simp(disch:=omega)[Pn,z,bF,au,rq,bH,N,-aae,-abg];exact hR
  .have aC:i=L.length:=an
   subst aC;have g:t_ hit C 0=none:=jH (s L.length) (by rw[TW,O,if_neg t,if_neg w1,if_neg w2];exact aaH _) hQ;simp[g,B]
def Pq:ba:=.seq (.region 0 [⟨some 11,.mv (.t 26),none⟩]) (.region 0 [⟨some 12,.mv (.t 27),none⟩])
def Pr:ba:=.block 1 (.seq (.seq (.region 0 [⟨some 28,.mv (.t 11),none⟩,⟨some 29,.load 1 false false (.t 5),none⟩,⟨some 30,.bin .geq (.t 28) (.t 29),none⟩]) (.cond (.t 30) (.exit 0) .skip)) (.seq (.keep [3,4,6,7,8,12])
 (.seq (.region 1 [⟨some 32,.load 1 false false (.t 3),none⟩,⟨some 33,.mv (.t 12),none⟩,⟨some 34,.load 1 false false (.t 4),none⟩,⟨some 35,.pcall 312 [.t 32,.t 33,.t 34],none⟩,⟨some 31,.mv (.t 35),none⟩,⟨some 36,.ext 0 (.t 31),none⟩,⟨some 37,.ext 1 (.t 31),none⟩,
  ⟨some 13,.alloc 0 (dK 0 none),none⟩,⟨none,.store 28 (.t 13) (.t 36),none⟩,⟨some 14,.mv (.t 37),none⟩]) (.seq (.keep [6,7,8,12,13]) (.seq (.region 0 [⟨some 38,.pz 0 (.t 13),none⟩,⟨some 39,.load 1 false false (.t 38),none⟩,⟨some 40,.bin .eql (.t 39) (.c (.int .i64 0)),none⟩])
   (.cond (.t 40) (.seq (.region 0 [⟨some 41,.mv (.t 12),none⟩,⟨none,.store 1 (.t 6) (.t 41),none⟩,⟨none,.store 1 (.t 7) (.c (.bool true)),none⟩,⟨none,.store 1 (.t 8) (.c (.int .i64 0)),none⟩]) .ret) .skip))))))
def Lh:List (Nat×V):=[(3,.ptr 0 0),(4,.ptr 1 0),(5,.ptr 2 0),(6,.ptr 3 0),(7,.ptr 4 0),(8,.ptr 5 0)]
def FH(w L:List af)(live:Nat)(tries:Int)(o:List af)(b:Bool)(st:B5):ae :=
 [some (.cells [.vs (IL w) .no]),some (.cells [.int .u32 live]),some (.cells [.int .i64 tries]),some (.cells [.vs (IL o) .full]),some (.cells [.bool b]),some (.cells [.int .i64 0]),some (.cells [.vs (IL w) .no]),some (.cells [.vs (IL L) .no]),some (.loop Lh [26,27] Pq Pr st)]
section
variable {w L o:List af} {live:Nat} {tries:Int} {b:Bool} {st:B5}
def TX:gV (FH w L live tries o b st):=by intro n a;simp only[FH,aap,abi] at a;simp[FH,Lh,az.cl,a_,V.cl,Tk.cl,show 0<n by omega,show 1<n by omega,show 2<n by omega,show 3<n by omega,show 4<n by omega,show 5<n by omega]
noncomputable def sh(w:List af)(live:Nat)(tries:Int)(k:Nat)(c:List af):Bool:=decide (tries<=k)||decide ((ee w c live).1=0)
def zvL[ef G][dM G][aE G][aD G][bQ G][dC G][dp G][aQ G][db G][dc G][b_ G][cA G][bP G][ar G][CP:eg G][cG G][aM G][cd G][cU G][eU G]
  (k:Nat) (c:List af) (p:w.length<=maxLen) (q:∀x∈w,x.k<4294967296) (s:live<4294967296) (t:c.length<=maxLen) (u:∀x∈c,x.k<4294967296) (X:ae) (v:∀n,X.map (aat (az.cl n))=X) :
  YS G 8 [.int .i64 k,.vs (IL c) .full] (FH w L live tries [] false .ready++X) (!sh w live tries k c)
   (if tries<=k then FH w L live tries [] false (.done (.exit 0))++X else if(ee w c live).1=0 then FH w L live tries c true (.done .ret)++X else FH w L live tries [] false .ready++X):=by
 have nF:∀o b st,(FH w L live tries o b st).length=9:=λo b st=>rfl
 obtain⟨a,H',z,rfl,rfl⟩:=zDo (R:=λa H'=>a=(!sh w live tries k c)/\H'=(if tries<=k then FH w L live tries [] false (.done (.exit 0))++X else if(ee w c live).1=0 then FH w L live tries c true (.done .ret)++X else FH w L live tries [] false .ready++X))
  (G:=G) (H:=FH w L live tries [] false .ready++X) (id:=8) (args:=[.int .i64 k,.vs (IL c) .full]) (e0:=Lh) (ps:=[26,27]) (as:=Pq) (bo:=Pr) rfl rfl (by
  have C:∀o b st d (r:ae),(FH w L live tries o b st++r).set 8 (some (.loop Lh [26,27] Pq Pr d))=FH w L live tries o b d++r:=λo b st d r=>rfl;have f:∀o b st (r:ae),(FH w L live tries o b st++r)[8]?=some (some (.loop Lh [26,27] Pq Pr st)):=λo b st r=>rfl;have D:∀o b st (r:ae),(FH w L live tries o b st++r)[0]?=some (some (.cells [.vs (IL w) .no])):=λo b st r=>rfl;have E:∀o b st (r:ae),(FH w L live tries o b st++r)[1]?=some (some (.cells [.int .u32 live])):=λo b st r=>rfl
  have F:∀o b st (r:ae),(FH w L live tries o b st++r)[2]?=some (some (.cells [.int .i64 tries])):=λo b st r=>rfl;have I:∀o b st (r:ae),(FH w L live tries o b st++r)[3]?=some (some (.cells [.vs (IL o) .full])):=λo b st r=>rfl;have J:∀o b st (r:ae),(FH w L live tries o b st++r)[4]?=some (some (.cells [.bool b])):=λo b st r=>rfl;have K:∀o b st (r:ae),(FH w L live tries o b st++r)[5]?=some (some (.cells [.int .i64 0])):=λo b st r=>rfl
  have M:∀o e b st (r:ae),(FH w L live tries o b st++r).set 3 (some (.cells [.vs (IL e) .full]))=FH w L live tries e b st++r:=λo e b st r=>rfl;have N:∀o b a st (r:ae),(FH w L live tries o b st++r).set 4 (some (.cells [.bool a]))=FH w L live tries o a st++r:=λo b a st r=>rfl;have O:∀o b st (r:ae),(FH w L live tries o b st++r).set 5 (some (.cells [.int .i64 0]))=FH w L live tries o b st++r:=λo b st r=>rfl
  have h:∀o b st (r:ae),ak (9+X.length) (FH w L live tries o b st++(X++r))=FH w L live tries o b st++X:=λo b st r=>by
   have:=((TX (w:=w) (L:=L) (live:=live) (tries:=tries) (o:=o) (b:=b) (st:=st)).app v).back r;rw[aar,aaj,nF] at this;exact this
  have i:∀o b st,ak (9+X.length) (FH w L live tries o b st++X)=FH w L live tries o b st++X:=λo b st=>by
   have:=h o b st [];simpa using this
  have kk:∀o b st (r:ae),(FH w L live tries o b st++(X++r))[9+X.length]?=r[0]?:=λo b st r=>by
   rw[<-aar];exact nJ (by simp[nF])
  have P:∀o b st (r:ae) y,(FH w L live tries o b st++(X++r)).set (9+X.length) y=FH w L live tries o b st++(X++r.set 0 y):=λo b st r y=>by
   rw[<-aar,sj (by simp[nF]),aar]
  have hd:=zty (G:=G) w c live p t q u s;simp only[FL] at hd;obtain⟨A,l⟩:=ax (dK 0 none)
  have Q:A.length=28:=by rw[l];rfl
  obtain⟨g,B,S,T,kB,U,W⟩:∃(g:Int) (B:List V),(ee w c live).1=g/\B=dK (ee w c live).1 (ee w c live).2/\(∀n,a_ n B=B)/\B.length=28/\B.take 1=[.int .i64 g] :=
   ⟨_,_,rfl,rfl,λn=>PR _ _ n,zvI w c live,zxA _ _⟩
  have tB:B.take 28=B:=aaf an;have Y:A.drop 28=[]:=aal an;rw[<-T] at hd;simp only[sh,S];simp[Pq,Lh,rZ];refine⟨_,_,_,_,f _ _ _ _,?_⟩;rw[C];simp[Pr,nF,F];have Z:∀o e b st,(FH w L live tries o b st).set 3 (some (.cells [.vs (IL e) .full]))=FH w L live tries e b st:=λo e b st=>rfl;have ha:∀o b a st,(FH w L live tries o b st).set 4 (some (.cells [.bool a]))=FH w L live tries o a st:=λo b a st=>rfl
  have hb:∀o b st,(FH w L live tries o b st).set 5 (some (.cells [.int .i64 0]))=FH w L live tries o b st:=λo b st=>rfl
  by_cases m:tries<=(k:Int)
  .simp[m,f];exact⟨_,_,_,_,⟨rfl,rfl,rfl,rfl⟩,i _ _ _⟩
  simp[m,nF,D,E];refine aw hd ?_;simp[nF,<-l,Q,U,Y,P,W]
  by_cases j:g=0
  .simp[j,nF,I,J,K,M,N,O,f];exact⟨_,_,_,_,⟨rfl,rfl,rfl,rfl⟩,h _ _ _ _⟩
  .simp[j,aL j,nF,f]
   exact⟨_,_,_,_,⟨rfl,rfl,rfl,rfl⟩,h _ _ _ _⟩)
 exact z
end
def zAX{L:List Nd}(h:Inv L){x:Int}{c:Nat}(e:dk L x=some c):c<4294967296:=by
 unfold dk at e;split at e
 .cases b:L[x.toNat]? with
  | none=>rw[b] at e;cases e
  | some a =>
   rw[b] at e;simp only[Option.bind_some,pW] at e;split at e
   .exact xT e (h.wf a (aan b)).1
   .cases e
 .cases e
def zxD{w:List af}(b:∀x∈w,x.k<4294967296)(j:aY w=true):∀n∈kN w++zx w,n<4294967296:=by
 have hi:Inv (aU [] w).L:=(Fq Inv.nil w b).ext.inv;intro n a;rw[aaz] at a
 rcases a with a|a
 .simp only[kN,aa2,List.mem_filter] at a;obtain⟨x,⟨e,_⟩,rfl⟩:=a;exact b x e
 .simp only[zx,aaz,Option.mem_toList] at a
  have c:∀v,de v (aU [] w).L ((aU [] w).p.getD 0 0)=some n->n<4294967296:=λv h=>by
   have f:0<=(aU [] w).p.getD 0 0:=by
    unfold de at h;split at h
    .rename_i d;simp only[bO,decide_eq_true_eq] at d;exact d.1
    .cases h
   obtain⟨i,g⟩:=abC f;rw[g] at h;exact VY hi h
  rcases a with h|h|h
  .exact zAX hi h
  .exact c _ h
  .exact c _ h
noncomputable def gO(w:List af):List af:=Gp w (kN w++zx w)
def zK0{l:List af}{x:af}(a:∀y∈l,y.k<4294967296)(b:x.k<4294967296):∀y∈qt l x,y.k<4294967296:=by
 unfold qt;split
 .exact a
 .split
  .intro y c
   rcases aaz.1 c with h|h
   .exact a y h
   .rw[aba.1 h];exact b
  .exact a
def TY:∀{xs l:List af},(∀y∈l,y.k<4294967296)->(∀y∈xs,y.k<4294967296)->∀y∈fF l xs,y.k<4294967296
 | [],_,a,_=>a
 | x::xs,l,a,b=>by
  show ∀y∈fF (qt l x) xs,y.k<4294967296;exact TY (zK0 a (b x ir)) λy c=>b y (by simp[c])
def zAY{w:List af}{b:List Nat}(c:∀x∈w,x.k<4294967296)(d:∀n∈b,n<4294967296):∀y∈Gp w b,y.k<4294967296:=by
 refine TY (TY (TY ir c) ?_) ?_
 .intro y a;simp only[aay,aaK,or_false] at a
  rcases a with rfl|rfl<;>decide
 .intro y a;simp only[abX,m_,aa2] at a;obtain⟨n,e,o,_,rfl⟩:=a;exact d n e
def zws(w:List af)(b:List Nat):(Gp w b).length<=w.length+2+6*b.length:=by
 unfold Gp;have c:=CE w [];have d:=CE [⟨7,0,0,0⟩,⟨135,0,0,0⟩] (fF [] w);have f:=CE (b.flatMap m_) (fF (fF [] w) [⟨7,0,0,0⟩,⟨135,0,0,0⟩])
 have g:(b.flatMap m_).length=6*b.length:=by
  generalize b=l
  induction l with
  | nil=>rfl
  | cons a l e=>rw[aa1,aaj,e,aap];simp[m_,BM];omega
 simp at c d;omega
def zC3(w:List af):(zx w).length<=3:=by
 have a:∀o:Option Nat,o.toList.length<=1:=λo=>by cases o<;>simp
 have b:=a (dk (aU [] w).L ((aU [] w).p.getD 0 0));have c:=a (de (aR 34) (aU [] w).L ((aU [] w).p.getD 0 0));have d:=a (de (4294967295::aR 33) (aU [] w).L ((aU [] w).p.getD 0 0));rw[zx,aaj,aaj];omega
def zrw{w:List af}(a:∀x∈w,x.k<4294967296)(b:aY w=true):∀y∈gO w,y.k<4294967296:=zAY a (zxD a b)
def zvM{w:List af}(a:aY w=true):(gO w).length<=300:=by
 have c:w.length<=32:=by simp only[aY,aah,decide_eq_true_eq] at a;exact a.1
 have b:=zws w (kN w++zx w);have d:=TP w;have e:=zC3 w;rw[aaj] at b;unfold gO;omega
def zE8[fJ G](H:ae)(w L:List af):bD G (.F 329 [.vs (IL w) .no,.vs (IL L) .no] H (.fn 328 [.ptr H.length 0,.ptr (H.length+1) 0]) (H++[some (.cells [.vs (IL w) .no]),some (.cells [.vs (IL L) .no])])):=by refine eV fJ.ad4 (aag rfl) ?_;simp
noncomputable def jA(w:List af)(live:Nat)(tries:Int):Option (List af) :=
 match t_ (sh w live tries) (rJ w (gO w)) 0 with
 | some p=>if tries<=p.1 then none else some p.2
 | none=>none
def zrx{hit:Nat->List af->Bool}{p:Nat×List af}:∀{l:List (List af)} {k:Nat},t_ hit l k=some p->k<=p.1/\l[p.1-k]?=some p.2/\hit p.1 p.2=true
 | [],_,h=>by cases h
 | c::l,k,h=>by
  rw[t_] at h;split at h
  .rename_i a;cases h;exact⟨aaH _,ir,a⟩
  .obtain⟨e,b,d⟩:=zrx h;refine⟨an,?_,d⟩;rw[show p.1-k=(p.1-(k+1))+1 by omega];exact b
def zE9[ef G][dM G][aE G][aD G][bQ G][dC G][dp G][aQ G][db G][dc G][b_ G][cA G][bP G][ar G][v:eg G][cG G][aM G][di G][cd G][cU G][eU G][gC G][fI G][fJ G][jB G]
  (w:List af) (live:Nat) (tries:Int) (q:w.length<=maxLen) (j:∀x∈w,x.k<4294967296) (i:aY w=true) (t:live<4294967296) :
  FP G 333 [FL w,.int .u32 live,.int .i64 tries] (.bf [FL ((jA w live tries).getD []),.bool (jA w live tries).isSome,.int .i64 0]):=by
 haveI:iT G:=v.toiT
 refine bA jB.ad5 (aag rfl) ?_;have m:=zyG (G:=G) w q j i (zxD j i);have g:=zrw j i;have y:=zvM i
 have z:w.length<=32:=by simp only[aY,aah,decide_eq_true_eq] at i;exact i.1
 have a:jA w live tries=jA w live tries:=rfl
 conv at a=>rhs;unfold jA
 change FP G 330 [FL w] (.bf [FL (gO w),.int .i64 0]) at m;generalize gO w=L at m g y a;simp only[FL] at m;simp[FL];refine aw m ?_;simp;refine vm (zE8 _ w L) ir ?_;simp
 have e:=zAW (G:=G) (H:=FH w L live tries [] false .ready) TX (id:=8) (i1:=6) (i2:=7) (w:=w) (L:=L) (tk:=.no) an an rfl rfl (show 8<9 by decide) (hit:=sh w live tries)
  (H':=λk c=>if tries<=(k:Int) then FH w L live tries [] false (.done (.exit 0)) else FH w L live tries c true (.done .ret))
  (λk c n f X r=>by
   have l:=aan n;have:=zvL (G:=G) (L:=L) (tries:=tries) k c q j t (by have:=PL l;simp only[maxLen];omega) (λx s=>g x (PM l x s)) X r;rw[f] at this;simp only[sh,abl,decide_eq_false_iff_not] at f;rw[if_neg f.1,if_neg f.2] at this
   exact this)
  (λk c n f X r=>by
   have l:=aan n;have:=zvL (G:=G) (L:=L) (tries:=tries) k c q j t (by have:=PL l;simp only[maxLen];omega) (λx s=>g x (PM l x s)) X r;rw[f] at this;simp only[sh,abm,decide_eq_true_eq] at f
   by_cases d:tries<=(k:Int)
   .rw[if_pos d] at this |-;exact this
   .rw[if_neg d,if_pos (f.resolve_left d)] at this;rw[if_neg d]
    exact this)
  (λk c n f=>by
   by_cases d:tries<=(k:Int)
   .rw[if_pos d];exact⟨(TX (w:=w) (L:=L) (live:=live) (tries:=tries) (o:=[]) (b:=false) (st:=.done (.exit 0))).self,rfl⟩
   .rw[if_neg d];exact⟨(TX (w:=w) (L:=L) (live:=live) (tries:=tries) (o:=c) (b:=true) (st:=.done .ret)).self,rfl⟩)
 have h:∀o b st,ak 8 (FH w L live tries o b st)=[some (.cells [.vs (IL w) .no]),some (.cells [.int .u32 live]),some (.cells [.int .i64 tries]),some (.cells [.vs (IL o) .full]),some (.cells [.bool b]),some (.cells [.int .i64 0]),some (.cells [.vs (IL w) .no]),some (.cells [.vs (IL L) .no])]:=λo b st=>by
  simp[ak,FH,az.cl,a_,V.cl,Tk.cl]
 cases u:t_ (sh w live tries) (rJ w L) 0 with
 | none =>
  rw[u] at e a;simp only[] at e a;refine MC e rfl (.inl ⟨rfl,rfl⟩) ?_
  simp[h,a]
 | some p =>
  rw[u] at e a;simp only[] at e a
  by_cases d:tries<=(p.1:Int)
  .rw[if_pos d] at e a;refine MC (x:=.exit 0) e rfl (.inr ⟨rfl,ir⟩) ?_;simp[h,a]
  .rw[if_neg d] at e a;refine MC (x:=.ret) e rfl (.inr ⟨rfl,ir⟩) ?_;simp[h,a]
open Go Go.RowKit
variable {G:aP} {L L':List Nd}
def zDA(F:Nat->List Nd->Int->Prop):Prop:=∀i L L' x,F i L x->L <+: L'->F i L' x
def zy(F:Nat->List Nd->Int->Prop)(n:Nat)(L:List Nd)(p:List Int):Prop:=p.length=18/\∀i<n,F i L (p.getD i 0)
def zy.pre{F:Nat->List Nd->Int->Prop}{n:Nat}{p:List Int}(h:zy F n L p)(a:zDA F)(e:L <+: L'):zy F n L' p:=⟨h.1,λi hi=>a i _ _ _ (h.2 i hi) e⟩
def zy.set{F:Nat->List Nd->Int->Prop}{n i:Nat}{p:List Int}{x:Int}(h:zy F n L p)(a:zDA F)(e:L <+: L')(d:F i L' x):zy F n L' (p.set i x):=by
 refine⟨by rw[abZ];exact h.1,λj b=>?_⟩
 by_cases c:i=j
 .subst c
  by_cases f:i<p.length
  .rw[aaA,aaR f];exact d
  .rw[List.set_eq_of_length_le an];exact a _ _ _ _ (h.2 i b) e
 .rw[aaA,aaI c,<-aaA];exact a _ _ _ _ (h.2 j b) e
variable {G:aP}
section
variable {w:List af} {live:Nat} {tries:Int}
def zot{hit:Nat->List af->Bool}{p:Nat×List af}:∀{l:List (List af)} {k:Nat},t_ hit l k=some p->∀i,k+i<p.1->∀c,l[i]?=some c->hit (k+i) c=false
 | [],_,h=>by cases h
 | d::l,k,h=>by
  rw[t_] at h;split at h
  .cases h;intro i hi;omega
  .rename_i b;intro i hi c a
   cases i with
   | zero =>
    simp only[aaP,abq.injEq] at a;subst a
    simpa using b
   | succ i =>
    rw[show k+(i+1)=k+1+i by omega];exact zot h i an c (by simpa using a)
def zC4{c:List af}(h:jA w live tries=some c):∃k:Nat,(k:Int)<tries/\(rJ w (gO w))[k]?=some c/\(ee w c live).1=0/\∀j<k,∀c,(rJ w (gO w))[j]?=some c->(ee w c live).1≠0:=by
 unfold jA at h;split at h
 .rename_i p a;obtain⟨_,b,d⟩:=zrx a;have e:=zot a;rw[Nat.sub_zero] at b;split at h
  .cases h
  .rename_i f;cases h;simp only[sh,abm,decide_eq_true_eq] at d;refine⟨p.1,an,b,d.resolve_left f,λj i c g=>?_⟩;have:=e j an c g;simp only[sh,aa3,abl,decide_eq_false_iff_not] at this;exact this.2
 .cases h
end
def zFa{l:List af}{x:af}(a:∀y∈l,aY [y]=true):∀y∈qt l x,aY [y]=true:=by
 unfold qt;split
 .exact a
 .split
  .rename_i b;intro y c
   rcases aaz.1 c with h|h
   .exact a y h
   .rw[aba.1 h];exact b
  .exact a
def TZ:∀{xs l:List af},(∀y∈l,aY [y]=true)->∀y∈fF l xs,aY [y]=true
 | [],_,a=>a
 | x::xs,l,a=>by
  show ∀y∈fF (qt l x) xs,aY [y]=true;exact TZ (zFa a)
def zwt{w:List af}{a:List Nat}:∀y∈Gp w a,mc y=true:=by intro y b;have:=TZ (TZ (TZ (l:=[]) ir)) y b;simpa[aY] using this
def zC5{w L c:List af}(b:∀y∈L,mc y=true)(a:c∈rJ w L)(f:w.length<=32):aY c=true:=by have g:=PL a;have d:=PM a;simp only[aY,aah,decide_eq_true_eq,aaQ];exact⟨an,λx e=>b x (d x e)⟩
open Go Go.RowKit
variable {G:aP}
def sA(a:Nat):St:=⟨a,0,aR 16⟩
def Prd(f:List af)(i:Nat):Prop:=∃j x o,f[j]?=some x/\o∈bg x/\j+1+o=i
def yu(f:List af):Prop:=∀i,0<i->i<f.length->Prd f i
def LC(f:List af)(m:List Bool):Prop:=∀i,m[i]?=some true->0<i->∃j x o,f[j]?=some x/\m[j]?=some true/\o∈bg x/\j+1+o=i
def UC(m:List Bool)(i o:Nat):bM m (i+o)=bM m i+bM (m.drop i) o:=by simp only[bM];rw[List.take_add,abL]
def zC6{m:List Bool}{i:Nat}(h:m[i]?=some true):bM m (i+1)=bM m i+1:=by rw[UC];have a:=(aab.1 h);obtain⟨b,c⟩:=a;have:=aaV b;rw[c] at this;rw[this];simp[bM]
def zqn:∀(m:List Bool) (p:Nat),p<m.countP id->∃i,m[i]?=some true/\bM m i=p
 | [],p,h=>by simp at h
 | true::m,0,_=>⟨0,rfl,GH _⟩
 | true::m,p+1,h=>by
  obtain⟨i,a,b⟩:=zqn m p (by simpa using h)
  exact⟨i+1,by simpa using a,by rw[zop,b];simp;omega⟩
 | false::m,p,h=>by
  obtain⟨i,a,b⟩:=zqn m p (by simpa using h);exact⟨i+1,by simpa using a,by rw[zop,b];simp⟩
def zGs{f:List af}{m:List Bool}{i:Nat}{x:af}(d:f.length=m.length)(e:f[i]?=some x)(g:m[i]?=some true):(dS f m)[bM m i]?=some (kV (m.drop (i+1)) x):=by
 have a:=P3 f m i d;obtain⟨h,j⟩:=aab.1 e;obtain⟨k,l⟩:=aab.1 g;have b:=aaV h;have c:=aaV k;rw[j] at b;rw[l] at c;rw[b,c,dS] at a
 have n:((dS f m).drop (bM m i))[0]?=some (kV (m.drop (i+1)) x):=by rw[a];rfl
 rwa[abK,aby] at n
def zC7(m:List Bool){x:af}{o:Nat}(h:o∈bg x):bM m o∈bg (kV m x):=by
 unfold bg at h |-;rw[GD];split at h
 .cases h
 rename_i c;rw[if_neg c];split at h
 .rename_i a;rw[if_pos a];simp only[aba] at h;subst h;simp[kV,a]
 .rename_i a;rw[if_neg a];split at h
  .rename_i b;rw[if_pos b];simp only[aay,aaK,or_false] at h
   have d:kV m x={ x with jt:=(bM m x.jt.toNat:Nat),jf:=(bM m x.jf.toNat:Nat) }:=by rw[kV,if_neg a,if_pos b]
   rw[d]
   rcases h with rfl|rfl<;>simp
  .rename_i b;rw[if_neg b];simp only[aba] at h |-;subst h;exact GH _
def zC8{f:List af}{m:List Bool}(e:nH f m)(g:LC f m):yu (dS f m):=by
 have a:=Lf e;intro p r b;rw[GC f m a] at b;obtain⟨i,k,c⟩:=zqn m p b
 have hi:0<i:=by
  rcases Nat.eq_zero_or_pos i with rfl|h
  .rw[GH] at c;omega
  .exact h
 obtain⟨j,x,o,l,d,n,q⟩:=g i k hi;refine⟨bM m j,_,_,zGs a l d,zC7 (m.drop (j+1)) n,?_⟩;rw[<-c,<-q,UC,zC6 d]
def zAZ:∀a b:List UInt8,Op.bytesLess a b=false->a≠b->Op.bytesLess b a=true
 | [],[],_,h=>absurd rfl h
 | [],_::_,h,_=>by simp[Op.bytesLess] at h
 | _::_,[],_,_=>by simp[Op.bytesLess]
 | x::a,y::b,h,d=>by
  simp only[Op.bytesLess,abl,Bool.and_eq_false_iff,decide_eq_false_iff_not,beq_eq_false_iff_ne] at h;simp only[Op.bytesLess,abm,aah,decide_eq_true_eq,beq_iff_eq]
  by_cases e:x=y
  .subst e;exact .inr ⟨rfl,zAZ a b (h.2.resolve_left (λh=>h rfl)) (λe=>d (by rw[e]))⟩
  .refine .inl ?_;have c:=h.1;rw[UInt8.not_lt] at c;exact UInt8.lt_of_le_of_ne c (λe'=>e e'.symm)
def zvN:∀a b c:List UInt8,Op.bytesLess a b=true->Op.bytesLess b c=true->Op.bytesLess a c=true
 | _,[],_,h,_=>by cases ‹List UInt8›<;>simp[Op.bytesLess] at h
 | _,_::_,[],_,h=>by simp[Op.bytesLess] at h
 | [],_::_,_::_,_,_=>by simp[Op.bytesLess]
 | x::a,y::b,z::c,e,d=>by
  simp only[Op.bytesLess,abm,aah,decide_eq_true_eq,beq_iff_eq] at e d |-
  rcases e with e|⟨rfl,e⟩
  .rcases d with d|⟨rfl,d⟩
   .exact .inl (UInt8.lt_trans e d)
   .exact .inl e
  .rcases d with d|⟨rfl,d⟩
   .exact .inl d
   .exact .inr ⟨rfl,zvN a b c e d⟩
structure TR where
 fr:List af
 to:List af
 lv:Nat
def T1(k:Nat):List UInt8:=(aaJ 4).map λi=>aaM (k/2^(8*i)%256)
def abW(x:af):List UInt8:=[aaM (x.op.toNat%256),aaM (x.op.toNat/256%256),aaM (x.jt.toNat%256),aaM (x.jf.toNat%256)]++T1 x.k
def Es(w:List af):List UInt8:=w.flatMap abW
def TR.by(r:TR):List UInt8:=T1 r.lv++([aaM (r.fr.length%256),aaM (r.to.length%256)]++(Es r.fr++Es r.to))
def TR.may(r:TR):Bool:=aY r.fr&&aY r.to&&decide (r.to.length<r.fr.length)&&decide (r.lv<262144)
def vS(a b:TR):Bool:=Op.bytesLess a.by b.by
def uH:List TR->Bool
 | []=>true
 | [_]=>true
 | a::b::l=>vS a b&&uH (b::l)
def cF(t:List TR):Bool:=t.all TR.may&&uH t&&decide (t.length<=64)
def oH(t:List TR)(r:TR):Nat:=(t.takeWhile λy=>vS y r).length
def rr(t:List TR)(r:TR):Bool:=match t[oH t r]? with
 | some y=>decide (y.by=r.by)
 | none=>false
def oM(t:List TR)(r:TR):List TR×Int :=
 if(cF t&&r.may)=true then if rr t r=true then(t,0) else if t.length=64 then(t,3) else(t.take (oH t r)++r::t.drop (oH t r),0)
 else(t,1)
def zB(t:List TR)(w:List af)(live:Nat):Option (List af) :=
 if cF t=true then(t.find? λr=>decide (r.fr=w)&&decide (live%262144=r.lv)).map TR.to else none
def zA0{a:TR}{t:List TR}(h:uH (a::t)=true):uH t=true:=by
 cases t with
 | nil=>rfl
 | cons b l=>simp only[uH,aah] at h;exact h.2
def zsp{a:TR}:∀{t:List TR},uH (a::t)=true->∀b∈t,vS a b=true
 | [],_,b,hb=>by cases hb
 | c::t,h,b,hb=>by
  simp only[uH,aah] at h
  rcases aay.1 hb with rfl|hb
  .exact h.1
  .exact zvN _ _ _ h.1 (zsp h.2 b hb)
def ztE{a:TR}{t:List TR}(h:∀b,t.head?=some b->vS a b=true)(c:uH t=true):uH (a::t)=true:=by
 cases t with
 | nil=>rfl
 | cons b l =>
  simp only[uH,aah];exact⟨h b rfl,c⟩
def zvO:∀{t:List TR} {r:TR},uH t=true->rr t r=false->uH (t.take (oH t r)++r::t.drop (oH t r))=true
 | [],r,_,_=>by simp[oH,uH]
 | a::t,r,h,c=>by
  cases e:vS a r with
  | true =>
   have d:oH (a::t) r=oH t r+1:=by simp[oH,e]
   have g:rr t r=false:=by rw[rr,d,aaW] at c;exact c
   have i:=zvO (zA0 h) g;rw[d,List.take_succ_cons,abp,List.cons_append];refine ztE (λb f=>?_) i;have hm:b∈t.take (oH t r)++r::t.drop (oH t r):=List.mem_of_mem_head? f;rw[aaz,aay] at hm
   rcases hm with hm|rfl|hm
   .exact zsp h b (abJ hm)
   .exact e
   .exact zsp h b (aaO hm)
  | false =>
   have d:oH (a::t) r=0:=by simp[oH,e]
   rw[d,ab4,List.drop_zero,List.nil_append];refine ztE (λb f=>?_) h;simp only[List.head?_cons,abq.injEq] at f;subst f;rw[rr,d] at c;simp only[aaP,decide_eq_false_iff_not] at c;exact zAZ _ _ e c
def zvP(t:List TR)(r:TR):oH t r<=t.length:=by unfold oH;exact(List.takeWhile_prefix _).length_le
def zvQ{t:List TR}{r:TR}(d:cF t=true)(e:r.may=true):cF (oM t r).1=true/\t.length<=(oM t r).1.length/\(oM t r).1.length<=t.length+1/\(∀x∈(oM t r).1,x∈t\/x=r):=by
 unfold oM;rw[d,e,if_pos (show(true&&true)=true from rfl)];have c:cF t=true/\t.length<=t.length/\t.length<=t.length+1/\(∀x∈t,x∈t\/x=r):=⟨d,aaH _,an,λx b=>.inl b⟩;split
 .exact c
 rename_i i;split
 .exact c
 rename_i k;have l:=zvP t r;simp only[cF,aah,decide_eq_true_eq] at d;obtain⟨⟨f,j⟩,m⟩:=d
 have a:(t.take (oH t r)++r::t.drop (oH t r)).length=t.length+1:=by simp only[aaj,aap,aau,abY];omega
 have g:∀x∈t.take (oH t r)++r::t.drop (oH t r),x∈t\/x=r:=λx b=>by
  rw[aaz,aay] at b
  rcases b with b|rfl|b
  .exact .inl (abJ b)
  .exact .inr rfl
  .exact .inl (aaO b)
 refine⟨?_,by rw[a];omega,by rw[a];exact aaH _,g⟩;simp only[cF,aah,decide_eq_true_eq];refine⟨⟨?_,zvO j (by simpa using i)⟩,by rw[a];omega⟩;rw[aaQ] at f |-;intro x b
 rcases g x b with h|rfl
 .exact f x h
 .exact e
def BP(a:Nat):eO .u8 (a:Int)=((a%256:Nat):Int):=by unfold eO;simp[IntKind.wrap,IntKind.bits,IntKind.signed]
def fc(x:af):List Nat:=[x.op.toNat%256,x.op.toNat/256%256,x.jt.toNat%256,x.jf.toNat%256]++cO x.k 4
def Pw(x:af):(fc x).length=8:=by simp[fc,cO]
def ew(w:List af):List Nat:=w.flatMap fc
def rK:∀w:List af,(ew w).length=8*w.length
 | []=>rfl
 | x::w=>by rw[ew,aa1,aaj,Pw,<-ew,rK w,aap];omega
def zrz(w:List af)(x:af):ew (w++[x])=ew w++fc x:=by simp[ew]
def zvR(w:List af):Es w=(ew w).map aaM:=by
 rw[Es,ew,List.map_flatMap]
 congr 1
def Pv{x:af}(h:ij x=true):(0<=x.op/\x.op<=255)/\(0<=x.jt/\x.jt<=255)/\0<=x.jf/\x.jf<=255:=by
 cases a:oh x.op with
 | none=>simp[ij,a] at h
 | some r =>
  obtain⟨c,d⟩:=Ig a
  have e:∀r∈oZ,0<=r.1/\r.1<=255:=by decide
  have b:=e r d;rw[c] at b;refine⟨b,?_⟩;rw[ij,a] at h;simp only[aah] at h;obtain⟨_,h⟩:=h;split at h
  .simp only[decide_eq_true_eq] at h;omega
  .simp only[decide_eq_true_eq] at h;omega
def zC9[aE G][eA G](w:List af)(l:w.length<=4096)(m:∀x∈w,x.k<4294967296)(d:∀x∈w,ij x=true):FP G 350 [FL w] (.int .i64 0):=by
 refine bA eA.ad6 (aag rfl) ?_;have e:((4096:Int)<(w.length:Int))=False:=af9;simp[FL,e];refine aN w.length (λi=>[(8,FL w),(9,.int .i64 w.length),(10,.int .i64 i)]) (λ_=>[]) (λ_=>True) ?_ ?_
 .simp[au,ak,FL]
 intro i hi _
 by_cases a:i<w.length
 .obtain⟨x,b⟩:=ax (w[i]);have c:=rz a;rw[<-b] at c;have f:=d x (by rw[b];exact aa9 a);have g:x.cs.length=4:=rfl;have h:x.cs.take 4=x.cs:=rfl;simp(disch:=omega)[bC,FL,c,g,h];refine aw (Lj x) ?_;simp(disch:=omega)[f,a,bF,au,ak,-aae]
 .have j:i=w.length:=an
  subst j;simp
def WE[aE G][eA G](w:List af)(z:w.length<=4096)(m:∀x∈w,x.k<4294967296)(n:∀x∈w,ij x=true):FP G 351 [FL w] (.bf [.vs (ah .u8 (ew w)) .no,.int .i64 0]):=by
 refine bA eA.ad7 (aag rfl) ?_;have A:=zC9 (G:=G) w z m n;simp[FL];refine aw A ?_;simp;obtain⟨T,a⟩:∃T:Nat->List Nat,∀j,T j=ew (w.take j):=⟨_,λ_=>rfl⟩
 have B:T 0=[]:=by rw[a];rfl
 refine aN w.length (λi=>[(5,.vs (ah .u8 (T i)) (.own 0)),(14,FL w),(15,.int .i64 w.length),(16,.int .i64 i)]) (λi=>[some (.zone (T i).length)]) (λ_=>True) ?_ ?_
 .simp[au,ak,FL,B]
 intro i hi _
 by_cases b:i<w.length
 .obtain⟨x,e⟩:=ax (w[i]);have p:=rz b;rw[<-e] at p;have O:x.k<4294967296:=m x (by rw[e];exact aa9 b);obtain⟨P,Q,R⟩:=Pv (n x (by rw[e];exact aa9 b))
  have C:T (i+1)=T i++fc x:=by rw[a,a,aas,aad b,Option.toList_some,zrz,e]
  have q:(T i).length=8*i:=by rw[a,rK,aau];omega
  obtain⟨o,r⟩:∃o:Nat,x.op=o:=⟨x.op.toNat,an⟩;obtain⟨c,s⟩:∃o:Nat,x.jt=o:=⟨x.jt.toNat,an⟩;obtain⟨d,t⟩:∃o:Nat,x.jf=o:=⟨x.jf.toNat,an⟩;obtain⟨k,u⟩:∃k,x.k=k:=⟨_,rfl⟩
  have D:x.cs=[.int .i64 o,.int .i64 c,.int .i64 d,.int .u32 k]:=by rw[af.cs,r,s,t,u]
  have E:fc x=[o%256,o/256%256,c%256,d%256]++cO k 4:=by rw[fc,r,s,t,u];rfl
  have f:jI .i64 (o:Int) 8=((o/256:Nat):Int):=zH (j:=8) aga;obtain⟨U,g⟩:∃U:List Nat,U=T i++[o%256,o/256%256,c%256,d%256]:=⟨_,rfl⟩
  have v:U.length=8*i+4:=by rw[g,aaj,q];rfl
  have F:ah .u8 (T i)++[[V.int .u8 (o%256:Nat)],[V.int .u8 (o/256%256:Nat)],[V.int .u8 (c%256:Nat)],[V.int .u8 (d%256:Nat)]]=ah .u8 U:=by rw[g];simp[ah]
  simp(disch:=omega)[bC,FL,p,D,BP,f,F,q,aA,-aae,-abd,-aaC]
  refine aN 4 (λj=>[(5,.vs (ah .u8 (U++cO k j)) (.own 0)),(7,.ptr 1 0),(14,FL w),(15,.int .i64 w.length),(16,.int .i64 i),(36,.int .i64 j)])
   (λj=>[some (.zone (8*i+4+j)),some (.cells [.int .i64 o,.int .i64 c,.int .i64 d,.int .u32 k]),none]) (λ_=>True) ?_ ?_
  .have H:cO k 0=[]:=rfl;simp[au,ak,FL,H]
  intro j S _
  by_cases h:j<4
  .have I:da .i64 8 (j:Int)=((8*j:Nat):Int):=by unfold da;exact IntWalk.i64_in _ ⟨an,an⟩
   have J:jI .u32 (k:Int) ((8*j:Nat):Int)=((k/256^j:Nat):Int):=by rw[zV an,Nat.pow_mul]
   have K:(((8*j:Nat):Int)<0)=False:=af9
   have L:ah .u8 (U++cO k j)++[[V.int .u8 (k/256^j%256:Nat)]]=ah .u8 (U++cO k (j+1)):=by rw[zAh];simp[ah]
   have M:(U++cO k j).length=8*i+4+j:=by rw[aaj,v,UM]
   simp(disch:=omega)[bC,K,I,J,BP,L,M,aA,bF,h,au,ak,FL,-aae,-abg,-abd,-aaC,-ab1];omega
  .have l:j=4:=an
   subst l
   have y:U++cO k 4=T (i+1):=by rw[C,E,g,aar]
   have N:(T (i+1)).length=8*i+4+4:=by rw[<-y,aaj,v,UM]
   simp(disch:=omega)[y,N,b,bF,au,ak,FL,-aae]
 .have l:i=w.length:=an
  subst l
  have:T w.length=ew w:=by rw[a,aaF]
  simp[this]
def TR.cs(r:TR):List V:=[.vs (IL r.fr) .no,.vs (IL r.to) .no,.int .u32 r.lv]
def TV(r:TR):V:=.agg r.cs
def TL(t:List TR):List (List V):=t.map TR.cs
def TF(t:List TR):V:=.vs (TL t) .no
@[simp] theorem zLq (t:List TR):(TL t).length=t.length:=by simp[TL]
theorem CO{t:List TR}{i:Nat}{r:TR}(h:t[i]?=some r):(TL t)[i]?=some r.cs:=by simp[TL,h]
def TR.ok(r:TR):Prop:=r.fr.length<=maxLen/\r.to.length<=maxLen/\(∀x∈r.fr,x.k<4294967296)/\(∀x∈r.to,x.k<4294967296)/\r.lv<4294967296
def Jm:∀l:List Nat,(∀b∈l,b<256)->B7 (ah .u8 l)=some (l.map aaM)
 | [],_=>rfl
 | b::l,h=>by
  have a:=Jm l λc d=>h c (by simp[d]);simp only[ah] at a;simp[ah,B7,a]
def zC{w:List af}(h:aY w=true):w.length<=32/\∀x∈w,ij x=true:=by simp only[aY,aah,decide_eq_true_eq,aaQ,mc] at h;exact⟨h.1,λx a=>(h.2 x a).1.2⟩
def zxE{x:af}:∀b∈fc x,b<256:=by
 intro b a;simp only[fc,cO,aaz,aay,aaK,or_false,aa2,aaL] at a
 rcases a with(rfl|rfl|rfl|rfl)|⟨j,_,rfl⟩<;>exact abx _ aga
def TR.jg(r:TR):List Nat:=cO r.lv 4++[r.fr.length%256,r.to.length%256]++ew r.fr++ew r.to
def PK(r:TR):r.by=r.jg.map aaM:=by
 have a:T1 r.lv=(cO r.lv 4).map aaM:=by simp[T1,cO,aaJ,aaJ.loop]
 rw[TR.by,TR.jg,a,zvR,zvR];simp
def Jq(r:TR):∀b∈r.jg,b<256:=by
 intro b a;simp only[TR.jg,aaz,aay,aaK,or_false,ew,abX] at a
 rcases a with((a|rfl|rfl)|⟨x,_,a⟩)|⟨x,_,a⟩
 .simp only[cO,aa2,aaL] at a;obtain⟨j,_,rfl⟩:=a;exact abx _ aga
 .exact abx _ aga
 .exact abx _ aga
 .exact zxE b a
 .exact zxE b a
def ztF[aE G][aD G][aQ G][cS G](r:TR)(h:r.ok):FP G 352 [TV r] (.bool r.may):=by
 refine bA cS.ad8 (aag rfl) ?_;obtain⟨i,j,k,l,m⟩:=h;have e:=AD (G:=G) r.fr i k;have f:=AD (G:=G) r.to j l;simp only[FL] at e f;simp[TV,TR.cs];refine aw e ?_
 cases a:aY r.fr with
 | false=>simp[TR.may,a]
 | true =>
  simp;refine aw f ?_
  cases b:aY r.to with
  | false=>simp[TR.may,a,b]
  | true =>
   by_cases c:r.to.length<r.fr.length
   .by_cases g:r.lv<262144
    .have d:((r.lv:Int)<262144)=True:=af8;simp[TR.may,a,b,c,g,d]
    .have d:((r.lv:Int)<262144)=False:=af9;simp[TR.may,a,b,c,g,d]
   .simp[TR.may,a,b,c]
def SE(G:aP)(f:Nat)(args:List V)(H:ae)(r:V):Prop:=∃H1,bD G (.F f args H r H1)/\ak H.length H1=H
def zDB{f b:Nat}{body:ba}{a:List jj}{args:List V}{r:V}{H:ae}(d:G f=some ⟨b,body,a⟩)(e:args.length<=b)
  (h:W G body [] (gP (pU 0 args)) H (QX a λg H1=>g=r/\ak H.length H1=H)):SE G f args H r:=by
 obtain⟨x,m,H1,c,i,vs,j,k,l⟩:=h;rw[<-LW] at c;rw[<-k];exact⟨_,.fn d e c i j,l⟩
def SE.vcall{f:Nat}{cap args:List V}{r:V}{H:ae}{base:Nat}{d:Option Nat}{os:List aF}{K:List Kt}{e:Env}{Q:Ex->Env->ae->Prop}{ro:Bool}(h:SE G f (args++cap) H r)(b:r.cl H.length=r)
  (c:WO G base os K (e.put d r) H Q):JN G ro (.fn f cap) args base d os K e H Q:=by
 obtain⟨H1,g,a⟩:=h;refine kF g (λ_=>a) ?_;rw[b,a];exact c
def SE.scall{f:Nat}{args:List V}{r:V}{H:ae}{base:Nat}{d:Option Nat}{os:List aF}{K:List Kt}{e:Env}{Q:Ex->Env->ae->Prop}(h:SE G f args H r)(a:r.cl H.length=r)
  (b:WO G base os K (e.put d r) H Q):Qn G f args base d os K e H Q:=by
 obtain⟨H1,c,g⟩:=h;refine yF c ?_;rw[a,g];exact b
def Lv[aE G][eA G][cS G](r:TR)(A:r.ok)(o:r.may=true)(H:ae)(p:gV H):SE G 353 [TV r] H (.str r.by):=by
 refine zDB cS.ad9 (aag rfl) ?_;have d:=NM p;have C:∀s:ae,ak H.length (H++s)=H:=λs=>p.back s;obtain⟨S,T,E,F,U⟩:=A;simp only[TR.may,aah,decide_eq_true_eq] at o;obtain⟨⟨⟨I,J⟩,_⟩,_⟩:=o;obtain⟨W,K⟩:=zC I;obtain⟨X,L⟩:=zC J;have q:=WE (G:=G) r.fr an E K;have t:=WE (G:=G) r.to an F L;simp only[FL] at q t;obtain⟨v,f⟩:∃v,r.lv=v:=⟨_,rfl⟩;have M:jI .u32 (v:Int) 8=((v/256:Nat):Int):=zV (j:=8) aga
 have N:jI .u32 (v:Int) 16=((v/65536:Nat):Int):=zV (j:=16) aga;have O:jI .u32 (v:Int) 24=((v/16777216:Nat):Int):=zV (j:=24) aga;obtain⟨B,e⟩:∃B:List Nat,B=cO v 4++[r.fr.length%256,r.to.length%256]:=⟨_,rfl⟩
 have u:B.length=6:=by rw[e];simp[cO]
 have P:[[V.int .u8 (v%256:Nat)],[V.int .u8 (v/256%256:Nat)],[V.int .u8 (v/65536%256:Nat)],[V.int .u8 (v/16777216%256:Nat)],[V.int .u8 (r.fr.length%256:Nat)],[V.int .u8 (r.to.length%256:Nat)]]=ah .u8 B:=by rw[e];simp[ah,cO,aaJ,aaJ.loop]
 simp(disch:=omega)[kO,TV,TR.cs,f,M,N,O,BP,P,-abd,-aaC]
 obtain⟨D,g⟩:∃D:Nat->List Nat,∀j,D j=if j=0 then B else if j=1 then B++ew r.fr else B++ew r.fr++ew r.to:=⟨_,λ_=>rfl⟩
 have a:D 0=B:=by rw[g];rfl
 have c:D 1=B++ew r.fr:=by rw[g];rfl
 have k:D 2=r.jg:=by rw[g,TR.jg,f,e];rfl
 have m:(D 1).length=6+8*r.fr.length:=by rw[c,aaj,u,rK]
 have Q:(D 2).length=6+8*r.fr.length+8*r.to.length:=by rw[k,TR.jg,aaj,f,<-e,<-c,m,rK]
 have p1:ah .u8 B++ah .u8 (ew r.fr)=ah .u8 (D 1):=by rw[c];simp[ah]
 have p2:ah .u8 (D 1)++ah .u8 (ew r.to)=ah .u8 (D 2):=by rw[c,g];simp[ah]
 have q1:(ew r.fr).length=8*r.fr.length:=rK _;have R:(ew r.to).length=8*r.to.length:=rK _
 have n1:∀l:List Nat,(ah .u8 l=[])=(l=[]):=λl=>by simp[ah]
 have i:∀w:List af,(ew w=[])=(w=[]):=λw=>propext ⟨λh=>abo (by have:=rK w;rw[h] at this;simp at this;omega),λh=>by rw[h];rfl⟩;have x:=Jm r.jg (Jq r);rw[<-PK,<-k] at x
 refine aN 2 (λj=>[(3,.vs (ah .u8 (D j)) (.own (H.length+1))),(36,.agg [.vs (IL r.fr) .no,.vs (IL r.to) .no]),(37,.int .i64 j)])
  (λj=>H++[some (.cells [.vs (IL r.fr) .no,.vs (IL r.to) .no,.int .u32 v]),some (.zone (D j).length)]) (λ_=>True) ?_ ?_
 .simp[au,d,a]
 have y:aB .i64 0 1=1:=by rw[eB]<;>omega
 have z:aB .i64 1 1=2:=by rw[eB]<;>omega
 intro j Y _
 rcases(show j=0\/j=1\/j=2 by omega) with rfl|rfl|rfl
 .simp;refine aw q ?_
  by_cases b:r.fr=[]
  .have n:D 1=B:=by rw[c,b];simp[ew]
   simp(disch:=omega)[a,n1,i,b,n,au,d,y]
  .simp(disch:=omega)[a,n1,i,b,u,q1,m,p1,aA,au,d,gY,y]
 .simp;refine aw t ?_
  by_cases b:r.to=[]
  .have n:D 2=D 1:=by rw[k,TR.jg,f,<-e,<-c,b];simp[ew]
   simp(disch:=omega)[n1,i,b,n,au,d,z]
  .simp(disch:=omega)[n1,i,b,R,m,Q,p2,aA,au,d,gY,z]
 .simp[x,C]
def zFb{v:V}(h:Jj (.agg [.int .i64,.int .i64,.int .i64]) v):∃a b c:Int,v=.agg [.int .i64 a,.int .i64 b,.int .i64 c]:=by unfold Jj at h;obtain⟨f,rfl,h⟩:=h;simp only[jx,y8] at h;obtain⟨a,_,rfl,⟨n1,rfl,g⟩,b,_,rfl,⟨d,rfl,i⟩,c,_,rfl,⟨e,rfl,j⟩,rfl⟩:=h;exact⟨n1,d,e,rfl⟩
def SE.fp{f:Nat}{args:List V}{s:List UInt8}(h:SE G f args [] (.str s)):FP G f args (.str s):=by obtain⟨H1,a,_⟩:=h;exact⟨_,_,a,ir⟩
def Ue:gV []:=λ_ _=>rfl
def zsq:∀{t:List TR},uH t=true↔∀(j:Nat) (a b:TR),t[j]?=some a->t[j+1]?=some b->vS a b=true
 | []=>by simp[uH]
 | [a]=>by simp[uH]
 | a::b::l=>by
  rw[uH,aah,zsq (t:=b::l)];constructor
  .rintro⟨e,f⟩ j x y c d
   cases j with
   | zero=>simp at c d;rw[<-c,<-d];exact e
   | succ j=>exact f j x y (by simpa using c) (by simpa using d)
  .intro h;exact⟨h 0 a b rfl rfl,λj x y c d=>h (j+1) x y (by simpa using c) (by simpa using d)⟩
def EJ(t:List TR)(i:Nat):Prop:=∀j<i,∀r,t[j]?=some r->r.may=true/\∀q,0<j->t[j-1]?=some q->vS q r=true
def zxF{t:List TR}(h:EJ t t.length):cF t=decide (t.length<=64):=by
 have e:t.all TR.may=true:=by rw[aaQ];intro r f;obtain⟨j,c⟩:=abn f;exact(h j (aab.1 c).1 r c).1
 have g:uH t=true:=zsq.2 λj a b i d=>(h (j+1) (aab.1 d).1 b d).2 a an (by simpa using i);simp[cF,e,g]
def Gw{t:List TR}(h:cF t=true):EJ t t.length/\t.length<=64:=by simp only[cF,aah,decide_eq_true_eq] at h;obtain⟨⟨b,c⟩,d⟩:=h;refine⟨λj f r a=>⟨aaQ.1 b r (aan a),λq g e=>?_⟩,d⟩;exact zsq.1 c (j-1) q r e (by rw[show j-1+1=j by omega];exact a)
def Qa{t:List TR}{i:Nat}{r:TR}(a:t[i]?=some r)(h:r.may=false\/∃q,0<i/\t[i-1]?=some q/\vS q r=false):cF t=false:=by
 cases d:cF t with
 | false=>rfl
 | true =>
  obtain⟨b,e⟩:=(Gw d).1 i (aab.1 a).1 r a
  rcases h with h|⟨q,f,g,c⟩
  .rw[h] at b;cases b
  .have:=e q f g;rw[this] at c;cases c
def Lt[aE G][aD G][aQ G][eA G][cS G](t:List TR)(U:t.length<=1000000)(v:∀r∈t,r.ok):FP G 354 [TF t] (.bool (cF t)):=by
 refine bA cS.aea (aag rfl) ?_;simp[TF];refine aN t.length (λi=>[(0,TF t),(5,TF t),(6,.int .i64 t.length),(7,.int .i64 i)]) (λ_=>[]) (λi=>EJ t i) ?_ ?_
 .simp[au,ak,TF];intro j k;omega
 intro i hi l
 by_cases d:i<t.length
 .obtain⟨x,w⟩:=ax (t[i])
  have a:t[i]?=some x:=by rw[w];exact aad d
  have F:=CO a;have H:x∈t:=aan a;have y:=v x H;have m:x.cs.length=3:=rfl;have o:x.cs.take 3=x.cs:=rfl
  have I:∀n,a_ n x.cs=x.cs:=λn=>by simp[TR.cs,a_,V.cl,Tk.cl]
  have J:(TL t)[i]'(by simpa using d)=x.cs:=by simp[TL,w]
  have z:=ztF (G:=G) x y;simp(disch:=omega)[bC,TF,F,J,m,o,I];simp only[TV] at z;refine aw z ?_
  cases e:x.may with
  | false =>
   have p:=Qa a (.inl e)
   simp[p]
  | true =>
   by_cases f:0<i
   .obtain⟨q,A⟩:=ax (t[i-1]'(by omega))
    have c:t[i-1]?=some q:=by rw[A];exact aad an
    have K:(TL t)[i-1]'(by simp;omega)=q.cs:=by simp[TL,A]
    have L:=CO c;have M:=(l (i-1) an q c).1;have N:=v q (aan c);have O:q.cs.length=3:=rfl;have P:q.cs.take 3=q.cs:=rfl;have B:=(Lv (G:=G) q N M [] Ue).fp;have C:=(Lv (G:=G) x y e [] Ue).fp;simp only[TV] at B C
    have Q:cL .i64 (i:Int) 1=((i-1:Nat):Int):=by rw[nC]<;>omega
    simp(disch:=omega)[f,Q,L,K,O,P,m,o,aA,fL];refine aw B ?_;simp(disch:=omega)[m,o];refine aw C ?_
    cases g:vS q x with
    | false =>
     have p:=Qa a (.inr ⟨q,f,c,g⟩);have s:Op.bytesLess q.by x.by=false:=g
     simp[s,p]
    | true =>
     have s:Op.bytesLess q.by x.by=true:=g
     have u:EJ t (i+1):=λj k r b=>by
      rcases aao.1 k with h|rfl
      .exact l j h r b
      .rw[a] at b;cases b;exact⟨e,λW _ D=>by rw[c] at D;cases D;exact g⟩
     simp(disch:=omega)[s,d,bF,au,ak,TF,-aae];exact u
   .have R:i=0:=an
    subst R
    have u:EJ t 1:=λj k r b=>by
     have:j=0:=an
     subst this;rw[a] at b;cases b;exact⟨e,λq f=>absurd f an⟩
    have S:aB .i64 0 1=1:=by rw[eB]<;>omega
    simp(disch:=omega)[au,ak,TF,S,d,u]
 .have T:i=t.length:=an
  subst T;have:=zxF l
  by_cases E:t.length<=64
  .have h:((t.length:Int)<=64)=True:=af8;simp[this,E,h,TF]
  .have h:((t.length:Int)<=64)=False:=af9;simp[this,E,h,TF]
def zsr[cS G](r:TR)(c:r.fr.length<=1000000)(d:r.to.length<=1000000):FP G 356 [TV r] (TV r):=by
 refine bA cS.aec (aag rfl) ?_
 have e:r.fr.length*32<=140737488355328:=an
 have f:r.to.length*32<=140737488355328:=an
 by_cases a:r.fr=[]<;>by_cases b:r.to=[] <;>
  simp(disch:=omega)[TV,TR.cs,zxj,a,b,aA]
def zDa{t:List TR}{x y:TR}{i:Nat}(h:∀j<i,∀z,t[j]?=some z->vS z x=true)(b:t[i]?=some y)(c:vS y x=false):oH t x=i:=by
 induction t generalizing i with
 | nil=>simp at b
 | cons a t d =>
  cases i with
  | zero=>simp at b;subst b;simp[oH,c]
  | succ i =>
   have e:=h 0 an a rfl;have:=d (i:=i) (λj g z f=>h (j+1) an z (by simpa using f)) (by simpa using b);simp only[oH] at this |-;simp[e,this]
def zA1{t:List TR}{x:TR}(h:∀z∈t,vS z x=true):oH t x=t.length:=by
 induction t with
 | nil=>rfl
 | cons a t b =>
  have:=b λz c=>h z (by simp[c]);simp only[oH] at this |-;simp[h a ir,this]
def zA2[aE G][eA G][cS G](t:List TR)(x:TR)(U:t.length<=1000000)(L:∀r∈t,r.ok)(M:∀r∈t,r.may=true)(N:x.ok)(O:x.may=true)(H:ae)(p:gV H) :
  SE G 355 [TF t,TV x,.fn 353 []] H (.bf [.int .i64 (oH t x:Nat),.bool (rr t x)]):=by
 refine zDB cS.aeb (aag rfl) ?_;have I:=NM p;have J:∀s:ae,ak H.length (H++s)=H:=λs=>p.back s;have e:x.cs.length=3:=rfl;have f:x.cs.take 3=x.cs:=rfl
 have q:∀n,a_ n x.cs=x.cs:=λn=>by simp[TR.cs,a_,V.cl,Tk.cl]
 have u:=λs v=>Lv (G:=G) x N O s v;simp only[TV] at u;simp[TF,TV,kO,gY,yG,wF];refine aN t.length (λi=>[(0,TF t),(2,.fn 353 []),(4,.ptr H.length 0),(10,TF t),(11,.int .i64 t.length),(12,.int .i64 i)]) (λ_=>H++[some (.cells x.cs)]) (λi=>∀j<i,∀z,t[j]?=some z->vS z x=true) ?_ ?_
 .simp[au,TF,I,az.cl,q]
 intro i hi w
 by_cases A:i<t.length
 .obtain⟨y,K⟩:=ax (t[i])
  have b:t[i]?=some y:=by rw[K];exact aad A
  have P:=CO b;have Q:=M y (aan b);have B:=L y (aan b);have g:y.cs.length=3:=rfl;have k:y.cs.take 3=y.cs:=rfl
  have ky:∀n,a_ n y.cs=y.cs:=λn=>by simp[TR.cs,a_,V.cl,Tk.cl]
  have R:(TL t)[i]'(by simpa using A)=y.cs:=by simp[TL,K]
  have C:=λs v=>Lv (G:=G) y B Q s v;simp only[TV] at C
  have l:gV (H++[some (.cells x.cs),some (.cells y.cs)]):=p.app λn=>by simp[az.cl,q,ky]
  have D:¬H.length+2<=H.length:=an
  have E:¬H.length+2<=H.length+1:=an
  simp(disch:=omega)[bC,TF,P,R,g,k,e,f,kO,gY,yG,wF];refine SE.vcall (args:=[.agg y.cs]) (cap:=[]) (C _ l) rfl ?_;simp(disch:=omega)[E,D,g,k,e,f,kO,gY,yG,wF];refine SE.vcall (args:=[.agg x.cs]) (cap:=[]) (u _ l) rfl ?_
  cases m:vS y x with
  | true =>
   have F:Op.bytesLess y.by x.by=true:=m
   have S:∀j<i+1,∀z,t[j]?=some z->vS z x=true:=λj o z c=>by
    rcases aao.1 o with h|rfl
    .exact w j h z c
    .rw[b] at c;cases c;exact m
   simp(disch:=omega)[F,A,bF,au,I,az.cl,q,TF,-aae]
   exact S
  | false =>
   have F:Op.bytesLess y.by x.by=false:=m;have d:=zDa w b m
   have a:rr t x=decide (y.by=x.by):=by rw[rr,d,b]
   simp(disch:=omega)[F,E,D,g,k,e,f,kO,gY,yG,wF];refine SE.vcall (args:=[.agg y.cs]) (cap:=[]) (C _ l) rfl ?_;simp(disch:=omega)[E,D,g,k,e,f,kO,gY,yG,wF];refine SE.vcall (args:=[.agg x.cs]) (cap:=[]) (u _ l) rfl ?_;simp[J,d,a];exact ab0.2 ir
 .have T:i=t.length:=an
  subst T
  have d:=zA1 (t:=t) (x:=x) λz c=>by
   obtain⟨j,o⟩:=abn c;exact w j (aab.1 o).1 z o
  have a:rr t x=false:=by rw[rr,d,List.getElem?_eq_none (aaH _)]
  simp[TF,J,d,a]
def zDb[cS G](f g:List af)(r:f.length<=1000000):FP G 358 [FL f,FL g] (.bool (decide (f=g))):=by
 refine bA cS.aee (aag rfl) ?_
 by_cases c:f.length=g.length
 .have j:((f.length:Int) !=(g.length:Int))=false:=by simp[c]
  simp[FL,j];refine aN f.length (λi=>[(0,FL f),(1,FL g),(12,.int .i64 f.length),(13,.int .i64 i)]) (λ_=>[]) (λi=>f.take i=g.take i) ?_ ?_
  .simp[au,ak,FL,c]
  intro i hi k
  by_cases l:i<f.length
  .obtain⟨x,a⟩:=ax (f[i])
   have p:i<g.length:=an
   obtain⟨y,b⟩:=ax (g[i]);have m:=rz l;have n:=rz p;rw[<-a] at m;rw[<-b] at n;have a:=a.symm;have b:=b.symm;have d:=Bb x y
   by_cases e:x=y
   .rw[decide_eq_true e] at d
    have q:f.take (i+1)=g.take (i+1):=by rw[aas,aas,k,aad l,aad p,a,b,e]
    simp(disch:=omega)[bC,FL,m,n,a,b,d,l,bF,au,ak,q,-aae]
   .rw[decide_eq_false e] at d
    have o:¬f=g:=by rintro rfl;exact e (a.symm.trans b)
    simp(disch:=omega)[bC,FL,m,n,a,b,d,o,-aae]
  .have o:i=f.length:=an
   subst o;rw[aaF,c,aaF] at k;simp[FL,k]
 .have j:((f.length:Int) !=(g.length:Int))=true:=by simp;omega
  have:¬f=g:=λh=>c (by rw[h]);simp[FL,j,this]
def Jp(t:List TR):(∀f∈TL t,f.length=3)=True:=by simp only[eq_iff_iff,iff_true];intro f a;simp only[TL,aa2] at a;obtain⟨x,_,rfl⟩:=a;rfl
def zss(r:TR):r.cs.all V.pure=true:=by simp[TR.cs]
def Lr(t:List TR)(r:TR):TL t++[r.cs]=TL (t++[r]):=by simp[TL]
def zK1{a:Nat}(h:a<4294967296):jJ .u32 (a:Int) 262143=((a%262144:Nat):Int):=by unfold jJ;rw[show(262143:Int)=((262143:Nat):Int) from rfl,ry,ry,BitVec.toNat_and,abT,abT];have b:a%2^IntKind.u32.bits=a:=Nat.mod_eq_of_lt h;have c:262143%2^IntKind.u32.bits=2^18-1:=rfl;rw[b,c,Nat.and_two_pow_sub_one_eq_mod];exact uN (by have:=abx a (show 0<2^18 by decide);omega)
def oN:Option (List af)->V
 | some x=>.bf [.vs (IL x) .no,.bool true]
 | none=>.bf [.vs [] .no,.bool false]
def CN{r:TR}(h:r.may=true):r.fr.length<=32/\r.to.length<=32:=by simp only[TR.may,aah] at h;exact⟨(zC h.1.1.1).1,(zC h.1.1.2).1⟩
def zDc[aE G][aD G][aQ G][eA G][cS G](t:List TR)(w:List af)(live:Nat)(u:t.length<=1000000)(v:∀r∈t,r.ok)(y:live<4294967296) :
  FP G 359 [TF t,FL w,.int .u32 live] (oN (zB t w live)):=by
 refine bA cS.aef (aag rfl) ?_;have a:=Lt (G:=G) t u v;simp only[TF] at a;simp[TF];refine aw a ?_
 cases d:cF t with
 | false=>simp[zB,d,oN]
 | true =>
  have z:∀r∈t,r.may=true:=λr a=>by
   simp only[cF,aah] at d;exact aaQ.1 d.1.1 r a
  simp;refine aN t.length (λi=>[(1,FL w),(2,.int .u32 live),(13,TF t),(14,.int .i64 t.length),(15,.int .i64 i)]) (λ_=>[]) (λi=>∀j<i,∀r,t[j]?=some r->(decide (r.fr=w)&&decide (live%262144=r.lv))=false) ?_ ?_
  .simp[au,ak,TF,FL]
  intro i hi k
  by_cases e:i<t.length
  .obtain⟨x,l⟩:=ax (t[i])
   have m:t[i]?=some x:=by rw[l];exact aad e
   have A:=CO m;have B:=z x (aan m);obtain⟨F,H⟩:=CN B
   have C:(TL t)[i]'(by simpa using e)=x.cs:=by simp[TL,l]
   have p:=zDb (G:=G) x.fr w an;simp only[FL] at p;simp(disch:=omega)[bC,TF,FL,A,C,TR.cs];refine aw p ?_;have n:=zK1 y
   have next:(decide (x.fr=w)&&decide (live%262144=x.lv))=false->∀j<i+1,∀r,t[j]?=some r->(decide (r.fr=w)&&decide (live%262144=r.lv))=false:=λD j b r a=>by
    rcases aao.1 b with h|rfl
    .exact k j h r a
    .rw[m] at a;cases a;exact D
   by_cases c:x.fr=w
   .by_cases q:live%262144=x.lv
    .have f:(((live%262144:Nat):Int)==(x.lv:Int))=true:=by simp;omega
     have g:zB t w live=some x.to:=by
      rw[zB,d,if_pos rfl]
      have:t.find? (λr=>decide (r.fr=w)&&decide (live%262144=r.lv))=some x:=by rw[List.find?_eq_some_iff_getElem];refine⟨by simp[c,q],i,e,l.symm,λj b=>?_⟩;rw[k j b _ (aad an)];rfl
      rw[this];rfl
     by_cases s:x.to=[]
     .simp(disch:=omega)[c,n,f,s,g,oN,-aaC]
     .simp(disch:=omega)[c,n,f,s,zxj,aA,g,oN,-aaC]
    .have f:(((live%262144:Nat):Int)==(x.lv:Int))=false:=aL an;have:=next (by simp[q]);simp(disch:=omega)[c,n,f,e,bF,au,ak,TF,FL,-aae,-aaC]
     exact λj b r a o=>by have:=this j b r a;simpa[o] using this
   .have:=next (by simp[c]);simp(disch:=omega)[c,e,bF,au,ak,TF,FL,-aae,-aaC]
    exact λj b r a o=>by have:=this j b r a;simpa[o] using this
  .have E:i=t.length:=an
   subst E
   have g:zB t w live=none:=by rw[zB,d,if_pos rfl,Option.map_eq_none_iff,abr];intro r a;obtain⟨j,b⟩:=abn a;rw[k j (aab.1 b).1 r b];simp
   simp[g,oN]
def zA3[aE G][aD G][aQ G][eA G][cS G](t:List TR)(r:TR)(M:t.length<=1000000)(N:∀r∈t,r.ok)(O:r.ok) :
  FP G 357 [TF t,TV r] (.bf [TF (oM t r).1,.int .i64 (oM t r).2]):=by
 refine bA cS.aed (aag rfl) ?_;have w:=Lt (G:=G) t M N;have h:=ztF (G:=G) r O;have x:r.cs.length=3:=rfl;have z:r.cs.take 3=r.cs:=rfl
 have k:∀n,a_ n r.cs=r.cs:=λn=>by simp[TR.cs,a_,V.cl,Tk.cl]
 simp only[TF,TV] at w h;simp[TF,TV];refine aw w ?_
 cases a:cF t with
 | false=>simp[oM,a]
 | true =>
  simp[x,z];refine aw h ?_
  cases f:r.may with
  | false=>simp[oM,a,f]
  | true =>
   have C:∀r∈t,r.may=true:=λr w=>by
    simp only[cF,aah] at a;exact aaQ.1 a.1.1 r w
   have ti:=(Gw a).2;have P:=zA2 (G:=G) t r M N C O f [some (.cells r.cs)] (λn _=>by simp[az.cl,k]);simp only[TF,TV] at P;simp[x,z];refine SE.scall P rfl ?_
   cases b:rr t r with
   | true=>simp[oM,a,f,b]
   | false =>
    by_cases E:t.length=64
    .have c:((t.length:Int)==64)=true:=by simp[E]
     simp[oM,a,f,b,E,c]
    .have c:((t.length:Int)==64)=false:=aL an;have F:=zvP t r;obtain⟨p,H⟩:=ax (oH t r)
     have Y:oM t r=(t.take p++r::t.drop p,0):=by simp[oM,a,f,b,E,H]
     rw[<-H] at F;rw[Y,<-H]
     have Z:(TL t).take p=TL (t.take p):=by simp[TL]
     have l:(TL t).drop p=TL (t.drop p):=by simp[TL]
     have th:(t.take p).length=p:=by rw[aau];omega
     have xE:=CN f;have Q:=zsr (G:=G) r an an;have nS:=zss r;simp only[TV] at Q;obtain⟨T,m⟩:∃T:Nat->List TR,∀j,T j=t.take j:=⟨_,λ_=>rfl⟩
     have pd:T 0=[]:=by rw[m];rfl
     have R:∀j,j<=t.length->(T j).length=j:=λj S=>by rw[m,aau];omega
     simp(disch:=omega)[c,aA,Z,th,Jp]
     refine aN p (λi=>[(0,TF t),(3,.ptr 0 0),(6,.int .i64 p),(8,.vs (TL (T i)) (.own 1)),(38,.vs (TL (t.take p)) .no),(39,.int .i64 p),(40,.int .i64 i)])
      (λi=>[some (.cells r.cs),some (.zone i)]) (λ_=>True) ?_ ?_
     .simp[au,ak,TF,pd,TL,az.cl,k]
     intro i hi _
     by_cases A:i<p
     .obtain⟨y,I⟩:=ax (t[i]'(by omega))
      have d:t[i]?=some y:=by rw[I];exact aad _
      have Ab:(t.take p)[i]?=some y:=by rw[List.getElem?_take,if_pos A,d]
      have o:=CO Ab
      have J:(TL (t.take p))[i]'(by simp;omega)=y.cs:=by have:=aab.1 o;exact this.2
      have O8:=CN (C y (aan d));have q:=zsr (G:=G) y an an;simp only[TV] at q;have s:y.cs.length=3:=rfl;have u:y.cs.take 3=y.cs:=rfl;have e:=zss y
      have g:TL (T i)++[y.cs]=TL (T (i+1)):=by rw[m,m,Lr,aas,d];rfl
      have B:=R i an;simp(disch:=omega)[bC,o,J,s,u];refine aw q ?_;simp(disch:=omega)[s,u,e,g,B,Jp,aA,A,bF,au,ak,TF,az.cl,k,-aae]
     .have K:i=p:=an
      subst K;obtain⟨D,L⟩:=ax (t.drop i)
      have W:D.length=t.length-i:=by rw[L,abY]
      have g:TL (T i)++[r.cs]=TL (T i++[r]):=Lr _ _;have B:=R i an;obtain⟨U,v⟩:∃U:Nat->List TR,∀j,U j=T i++[r]++D.take j:=⟨_,λ_=>rfl⟩
      have X:T i++[r]=U 0:=by rw[v,ab4,aa0]
      have K7:∀j,j<=D.length->(U j).length=i+1+j:=λj S=>by rw[v,aaj,aaj,B,aau];simp;omega
      rw[X] at g;simp[bC,x,z];refine aw Q ?_;rw[<-L] at l |-
      have I4:(TL D).take (t.length-i)=TL D:=by rw[aaf];simp;omega
      simp(disch:=omega)[TF,I4,x,z,nS,g,B,Jp,aA,l,W]
      refine aN D.length (λj=>[(8,.vs (TL (U j)) (.own 1)),(57,.vs (TL D) .no),(58,.int .i64 D.length),(59,.int .i64 j)])
       (λj=>[some (.cells r.cs),some (.zone (i+1+j)),none]) (λ_=>True) ?_ ?_
      .simp[au,ak,X,az.cl,k,W]
      intro j S _
      by_cases A:j<D.length
      .obtain⟨y,I⟩:=ax (D[j]'(by omega))
       have d:D[j]?=some y:=by rw[I];exact aad _
       have o:=CO d;have J:(TL D)[j]'(by simp;omega)=y.cs:=(aab.1 o).2
       have Pu:y∈t:=by have:=aan d;rw[L] at this;exact aaO this
       have O8:=CN (C y Pu);have q:=zsr (G:=G) y an an;simp only[TV] at q;have s:y.cs.length=3:=rfl;have u:y.cs.take 3=y.cs:=rfl;have e:=zss y
       have g:TL (U j)++[y.cs]=TL (U (j+1)):=by rw[v,v,Lr,aas,d];simp
       have iI:=K7 j an;simp(disch:=omega)[bC,o,J,s,u];refine aw q ?_;simp(disch:=omega)[s,u,e,g,iI,Jp,aA,A,bF,au,ak,az.cl,k,-aae];omega
      .have K:j=D.length:=an
       subst K
       have cK:U D.length=t.take i++r::D:=by rw[v,aaF,m];simp
       simp[cK]
end Go.Ev
