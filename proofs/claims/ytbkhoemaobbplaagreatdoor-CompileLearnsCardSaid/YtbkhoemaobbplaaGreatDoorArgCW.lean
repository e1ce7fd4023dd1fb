/- Arguments of the statements: texts and bytes. -/
import Derived.Test.YtbkhoemaobbplaaGreatDoorWinOW
import Derived.Test.YtbkhoemaobbplaaGreatDoorParCW
import Derived.Test.YtbkhoemaobbplaaGreatDoorEvWinCW
import Derived.Test.YtbkhoemaobbplaaGreatDoorEvCoeCW
import Derived.Test.YtbkhoemaobbplaaGreatDoorRunAW
import Derived.Test.YtbkhoemaobbplaaGreatDoorBitsEW
set_option linter.defProp false
set_option linter.unusedSimpArgs false
set_option linter.unusedVariables false
set_option maxHeartbeats 16000000
set_option maxRecDepth 10000
open List renaming getElem?_eq_some_iff->aab,getElem?_eq_getElem->aaf,range->aag,mem_of_getElem?->aai,getD_eq_getElem?_getD->aam,length_take->aao,mem_of_mem_take->aap,take_add_one->aaq,length_append->aar,take_of_length_le->aas,length_drop->aat,mem_of_mem_drop->aau,drop_eq_getElem_cons->aaz,mem_append->aaG,take_length->aaH,drop_eq_nil_of_le->aaI,drop_left'->aaL,all_eq_true->aaM,getElem_mem->aaP,mem_cons->aaQ,mem_singleton->aaV,take_left'->aaW,append_assoc->aaZ,mem_map->aa0,getElem?_drop->aa1,replicate->aa2,length_cons->aa3,take_append_drop->aa9,getElem?_of_mem->aba,flatMap_append->abb,drop_drop->abd,map_take->abg,flatMap_cons->abh,getElem?_append_left->abi,length->abp,getElem_cons_drop->abt,map_cons->abw,getElem?_range->abx,cons->aby,getElem?_take->abF,getElem?_map->abG,foldl_append->abI,not_mem_nil->abJ,mem_flatMap->abL,ext_getElem->abT,length_set->abV,length_nil->abX,range_succ->abY
open Int renaming natCast_add->aad,natCast_mul->aan,natCast_emod->aaA,natCast_ediv->aaO,toNat_of_nonneg->abc
open Nat renaming le_of_ble_eq_true->aae,mod_eq_of_lt->aal,mod_lt->aay,eq_or_lt_of_le->aaC,le_trans->aaF,xor_lt_two_pow->aaR,testBit_eq_decide_div_mod_eq->aa4,add_zero->aa_,two_pow_add_eq_or_of_lt->abe,lt_succ_iff_lt_or_eq->abm,div_le_self->abn,le_refl->abo,div_div_eq_div_mul->abr,pow_succ->abA,div_eq_of_lt->abU,mul_comm->ab1,sub_self->ab3,or_comm->ab4,mod_one->ab6
open UInt8 renaming ofNat->aah,toNat_ofNat'->abC
open Bool renaming and_eq_true->aaj,false_eq_true->abE,true_and->ab0
open Option renaming toList_some->aaJ,map_eq_some_iff->abq
open BitVec renaming toNat_ofNat->aaK,toNat_xor->abl,toNat_allOnes->abv,allOnes_xor->abB,toNat_not->abK,allOnes->abZ,ofNat->ab2
namespace Go.Ev
open Go Go.RowKit
def zDC{v:V}(h:Jj .str v):∃s:List UInt8,v=.str s:=by have h:jx .str [v]:=h;rw[jx] at h;obtain⟨s,a,_⟩:=h;simp only[aby.injEq,and_true] at a;exact⟨s,a⟩
def zDD{n:Int}(h:(Lit.int .u8 n).wf=true):0<=n/\n<256:=by simp[Lit.wf,IntKind.min,IntKind.max,IntKind.signed,IntKind.bits] at h;omega
def zst:∀{es:List (List V)},(∀x∈es,jx (.int .u8) x)->∃b:List Nat,es=ah .u8 b/\∀x∈b,x<256
 | [],_=>⟨[],rfl,ir⟩
 | e::es,h=>by
  obtain⟨n,rfl,c⟩:=zAf (h e ir);obtain⟨f,g⟩:=zDD c;obtain⟨b,rfl,d⟩:=zst (es:=es) λy a=>h y (by simp[a]);refine⟨n.toNat::b,by simp[ah];omega,λy a=>?_⟩
  rcases aaQ.1 a with rfl|a
  .omega
  .exact d y a
def zA4{v:V}(h:Jj (.sl (.int .u8)) v):∃b:List Nat,v=.vs (ah .u8 b) .no/\∀x∈b,x<256:=by have h:jx (.sl (.int .u8)) [v]:=h;rw[jx] at h;obtain⟨e,a,f,c⟩:=h;obtain⟨b,rfl,d⟩:=zst c;simp only[aby.injEq,and_true] at a;exact⟨b,a,d⟩
variable {G:aP}
def zwu(k i:Nat)(hi:i<4)(b:k<4294967296):uI .u32 ((k%256^i:Nat):Int) (je .u32 ((k/256^i%256:Nat):Int) ((8*i:Nat):Int))=((k%256^(i+1):Nat):Int):=by
 rw[Li an]
 have e:256^i=2^(8*i):=by rw[Nat.pow_mul]
 have c:k/256^i%256<256:=aay _ aga
 have a:k/256^i%256*2^(8*i)<4294967296:=by
  have:i=0\/i=1\/i=2\/i=3:=an
  rcases this with rfl|rfl|rfl|rfl<;>simp at c |-<;>omega
 have d:k%256^i<2^32:=Nat.lt_of_le_of_lt (Nat.mod_le _ _) b;rw[aal a,yq d a]
 have f:k%256^i<2^(8*i):=by rw[e];exact aay _ (Nat.two_pow_pos _)
 rw[ab1,ab4,<-abe f]
 congr 1
 rw[abA,Nat.mod_mul,e];omega
def uJ(b:List Nat)(k:Nat):af:=⟨(b.getD (8*k) 0+256*b.getD (8*k+1) 0:Nat),b.getD (8*k+2) 0,b.getD (8*k+3) 0,b.getD (8*k+4) 0+256*b.getD (8*k+5) 0+65536*b.getD (8*k+6) 0+16777216*b.getD (8*k+7) 0⟩
def mu(b:List Nat):List af:=(aag (b.length/8)).map (uJ b)
def mw(b:List Nat):Option (List af):=if b.length<=32768/\b.length%8=0/\(mu b).all ij=true then some (mu b) else none
def zDd(l:List Nat)(h:8<=l.length):∃a b c d e f g i r,l=a::b::c::d::e::f::g::i::r:=by
 match l,h with
 | a::b::c::d::e::f::g::i::r,_=>exact⟨a,b,c,d,e,f,g,i,r,rfl⟩
def zFf{a b c d e f g i:Nat}(h:∀x∈[a,b,c,d,e,f,g,i],x<256)(r:List Nat) :
  fc (uJ (a::b::c::d::e::f::g::i::r) 0)=[a,b,c,d,e,f,g,i]:=by
 simp only[aaQ,abJ,or_false,forall_eq_or_imp,forall_eq] at h;obtain⟨j,k,l,m,n,o,p,q⟩:=h;simp[fc,uJ,cO,aag,aag.loop];omega
def zFg{x:af}(a:ij x=true)(b:x.k<4294967296)(r:List Nat):uJ (fc x++r) 0=x:=by obtain⟨c,d,e⟩:=Pv a;cases x;simp only at c d e b;simp[fc,uJ,cO,aag,aag.loop];omega
def zDE{c b:List Nat}(d:c.length=8)(k:Nat):uJ (c++b) (k+1)=uJ b k:=by
 have e:∀i,(c++b).getD (8*(k+1)+i) 0=b.getD (8*k+i) 0:=λi=>by
  rw[aam,aam,List.getElem?_append_right an]
  congr 2;omega
 have a:=e 0;simp only[aa_] at a;simp only[uJ,e,a]
def zsu{c b:List Nat}(a:c.length=8):mu (c++b)=uJ (c++b) 0::mu b:=by
 unfold mu;rw[aar,a,show(8+b.length)/8=b.length/8+1 by omega,List.range_succ_eq_map,abw,List.map_map]
 congr 1
 refine List.map_congr_left λk _=>?_;exact zDE a k
def zt3:∀{w:List af},(∀x∈w,ij x=true)->(∀x∈w,x.k<4294967296)->mu (ew w)=w
 | [],_,_=>rfl
 | x::w,a,b=>by
  rw[show ew (x::w)=fc x++ew w from rfl,zsu (Pw x),zFg (a x ir) (b x ir),zt3 (λy h=>a y (by simp[h])) (λy h=>b y (by simp[h]))]
def zt4{w:List af}(c:w.length<=4096)(a:∀x∈w,ij x=true)(b:∀x∈w,x.k<4294967296):mw (ew w)=some w:=by unfold mw;rw[zt3 a b,rK,if_pos ⟨an,an,by simpa using a⟩]
def zt5:∀(n:Nat) {b:List Nat},b.length=8*n->(∀x∈b,x<256)->ew (mu b)=b
 | 0,b,h,_=>by
  have:b=[]:=List.length_eq_zero_iff.1 an
  subst this;rfl
 | n+1,b,h,m=>by
  obtain⟨a,d,e,f,g,i,j,k,r,rfl⟩:=zDd b an;have:=zsu (c:=[a,d,e,f,g,i,j,k]) (b:=r) rfl;simp only[List.cons_append,List.nil_append] at this;rw[this,show ∀(x:af) (w:List af),ew (x::w)=fc x++ew w from λ_ _=>rfl,zFf (λx l=>m x (by rw[show a::d::e::f::g::i::j::k::r=[a,d,e,f,g,i,j,k]++r from rfl];exact List.mem_append_left _ l)) r,zt5 n (by simp at h;omega) (λx l=>m x (by simp[l]))]
  rfl
def T2{b:List Nat}(a:∀x∈b,x<256)(k:Nat):(uJ b k).k<4294967296:=by
 have e:∀i,b.getD i 0<256:=λi=>by
  rw[aam]
  cases h:b[i]? with
  | none=>simp
  | some x=>exact a x (aai h)
 have c:=e (8*k+4);have d:=e (8*k+5);have f:=e (8*k+6);have g:=e (8*k+7);simp only[uJ];omega
def zsv{b:List Nat}{w:List af}(a:∀x∈b,x<256)(h:mw b=some w):ew w=b/\(∀x∈w,ij x=true)/\(∀x∈w,x.k<4294967296)/\w.length<=4096:=by
 unfold mw at h;split at h
 .rename_i d;obtain⟨f,g,e⟩:=d;cases h;refine⟨zt5 (b.length/8) an a,by simpa using e,λx c=>?_,by simp[mu];omega⟩;simp only[mu,aa0] at c;obtain⟨k,_,rfl⟩:=c;exact T2 a k
 .cases h
def T3{a b:Nat}(c:a<256)(d:b<256):uI .i64 (a:Int) (je .i64 (b:Int) 8)=((a+256*b:Nat):Int):=by
 have h:=Px (a:=b) (j:=8) an an;rw[show((8:Nat):Int)=8 from rfl] at h;rw[h,Gq an an,ab1,ab4,<-abe (i:=8) an]
 congr 1;omega
def zqo[aE G][kf G](b:List Nat)(n:∀x∈b,x<256)(hl:b.length<=1000000):∃e:Int,FP G 429 [.vs (ah .u8 b) .no] (.bf [FL ((mw b).getD []),.int .i64 e])/\((e==0)=(mw b).isSome):=by
 by_cases X:32768<b.length
 .have d:mw b=none:=if_neg λh=>by omega
  refine⟨3,?_,by rw[d];rfl⟩;refine bA kf.acm (aae rfl) ?_;have s:(32768<(b.length:Int))=True:=af8;rw[d];simp[s,FL]
 have s:(32768<(b.length:Int))=False:=af9;have Y:iu (b.length:Int) 8=((b.length%8:Nat):Int):=zz (b:=8)
 by_cases w:b.length%8=0
 rotate_left
 .have d:mw b=none:=if_neg λh=>by omega
  refine⟨9,?_,by rw[d];rfl⟩;refine bA kf.acm (aae rfl) ?_
  have Z:(((b.length%8:Nat):Int) !=0)=true:=by simp;omega
  rw[d];simp[s,Y,Z,FL,-aaA]
 have Z:(((b.length%8:Nat):Int) !=0)=false:=by simp;omega
 obtain⟨N,hN⟩:∃N,b.length=8*N:=⟨b.length/8,an⟩
 have sZ:(mu b).length=N:=by simp[mu];omega
 have y:∀k,k<N->(mu b)[k]?=some (uJ b k):=λk o=>by
  unfold mu;rw[abG,abx an];rfl
 obtain⟨R,A⟩:=ax (mw b)
 have C:∀k,k<N->ij (uJ b k)=false->R=none:=λk o h=>by
  rw[A];refine if_neg λhc=>?_;have:=aaM.1 hc.2.2 _ (aai (y k o));rw[h] at this;cases this
 have cu:(∀k,k<N->ij (uJ b k)=true)->R=some (mu b):=λh=>by
  rw[A];refine if_pos ⟨an,w,aaM.2 λx a=>?_⟩;obtain⟨k,o⟩:=aba a
  have F:k<N:=by have:=(aab.1 o).1;omega
  rw[y k F] at o;cases o;exact h k F
 rw[<-A];obtain⟨E,H⟩:∃E:V->Prop,∀r,E r↔∃e:Int,r=.bf [FL (R.getD []),.int .i64 e]/\((e==0)=R.isSome):=⟨_,λ_=>Iff.rfl⟩
 suffices hs:∃r,FP G 429 [.vs (ah .u8 b) .no] r/\E r by
  obtain⟨r,I,J⟩:=hs;obtain⟨e,rfl,L⟩:=(H r).1 J;exact⟨e,I,L⟩
 refine Gr kf.acm (aae rfl) ?_;obtain⟨B,p⟩:∃B:Nat->List Nat,∀k,B k=b.drop (8*k):=⟨_,λ_=>rfl⟩;obtain⟨D,hD⟩:=ax (mu b);rw[<-hD] at sZ y cu
 have Jk:B 0=b:=by rw[p];rfl
 have CG:∀k,(B k).length=8*N-8*k:=λk=>by rw[p,aat,hN]
 have Py:iu (b.length:Int) 8=0:=by rw[Y,w];rfl
 rw[<-Jk] at s Py;rw[show ah .u8 b=ah .u8 (B 0) by rw[Jk]];simp[s,Py];refine aN N (λk=>[(0,.vs (ah .u8 (B k)) .no),(4,.vs (IL (D.take k)) (.own 0))]) (λk=>[some (.zone k)]) (λk=>∀j<k,ij (uJ b j)=true) ?_ ?_
 .simp[au,ak]
 intro k F jy;have iv:=CG k
 by_cases M:k<N
 .obtain⟨f,g,l,m,a4,a5,a6,a7,r,CH⟩:=zDd (B k) an;have q:∀x∈B k,x<256:=λx a=>n x (aau (by rw[p] at a;exact a))
  have O:f<256/\g<256/\l<256/\m<256/\a4<256/\a5<256/\a6<256/\a7<256:=by rw[CH] at q;simp only[aaQ,forall_eq_or_imp] at q;obtain⟨P,I,J,L,h4,h5,h6,h7,_⟩:=q;exact⟨P,I,J,L,h4,h5,h6,h7⟩
  obtain⟨m0,m1,m2,m3,m4,m5,m6,m7⟩:=O
  have gd:∀i,b.getD (8*k+i) 0=(B k).getD i 0:=λi=>by
   rw[p,aam,aam,aa1]
  have t:=gd 0;simp only[aa_] at t;obtain⟨x,a⟩:=ax (uJ b k);obtain⟨K,hK⟩:=ax (a4+256*a5+65536*a6+16777216*a7)
  have eZ:x=⟨(f+256*g:Nat),l,m,K⟩:=by rw[a,uJ,gd,gd,gd,gd,gd,gd,gd,t,CH,hK];rfl
  have uK:K<4294967296:=an
  have b0:(B k)[0]?=some f:=by rw[CH];rfl
  have b1:(B k)[1]?=some g:=by rw[CH];rfl
  have b2:(B k)[2]?=some l:=by rw[CH];rfl
  have b3:(B k)[3]?=some m:=by rw[CH];rfl
  have bk:∀i,i<4->(B k)[4+i]?=some (K/256^i%256):=by
   intro i hi;rw[CH]
   have:i=0\/i=1\/i=2\/i=3:=an
   rcases this with rfl|rfl|rfl|rfl<;>simp<;>omega
  have f0:=(aab.1 b0).2;have f1:=(aab.1 b1).2;have f2:=(aab.1 b2).2;have f3:=(aab.1 b3).2;have mz:(0<(B k).length)=True:=af8
  have u:(B k).drop 8=B (k+1):=by rw[p,p,abd];congr 1
  have c:∀b:Nat,b<256->eO .i64 (b:Int)=(b:Int):=λb n=>IntWalk.i64_in _ ⟨an,an⟩;have Gs:∀b:Nat,b<256->eO .u32 (b:Int)=(b:Int):=λb n=>IntWalk.u32_in _ ⟨an,an⟩;have c0:=c f m0;have X:=c g m1;have w:=c l m2;have c3:=c m m3;have ho:=T3 m0 m1;simp(disch:=omega)[mz,f0,f1,f2,f3,c0,X,w,c3,ho,-aad,-aan];have wR:=Lj (G:=G) x
  have Jl:x.cs=[.int .i64 ((f+256*g:Nat):Int),.int .i64 (l:Int),.int .i64 (m:Int),.int .u32 (K:Int)]:=by rw[af.cs,eZ]
  simp only[IV,Jl] at wR;obtain⟨v,z⟩:∃v:Nat->Nat,∀i,v i=K%256^i:=⟨_,λ_=>rfl⟩
  have T4:v 0=0:=by rw[z];simp[ab6]
  have Pz:v 4=K:=by rw[z];exact aal uK
  refine aN 4 (λi=>[(0,.vs (ah .u8 (B k)) .no),(4,.vs (IL (D.take k)) (.own 0)),(5,.ptr 1 0),(40,.int .i64 i)]) (λi=>[some (.zone k),some (.cells [.int .i64 (f+256*g:Nat),.int .i64 l,.int .i64 m,.int .u32 (v i)])]) (λ_=>True) ?_ ?_
  .simp[au,ak,T4,-aad,-aan]
  intro i hi _
  by_cases Q:i<4
  .have n:=bk i Q;have q:K/256^i%256<256:=aay _ aga;have S:=zwu K i Q uK;rw[<-z,<-z] at S;obtain⟨T,CJ⟩:=ax (K/256^i%256);rw[<-CJ] at n q S
   have m8:da .i64 8 (i:Int)=((8*i:Nat):Int):=by unfold da;rw[show((8:Int)*(i:Int))=((8*i:Nat):Int) by omega];exact IntWalk.i64_in _ ⟨an,an⟩
   have U:aB .i64 4 (i:Int)=((4+i:Nat):Int):=by rw[eB]<;>omega
   have cb:=Gs T q;have fb:=(aab.1 n).2;have T5:(((8*i:Nat):Int)<0)=False:=af9;have Gt:((i:Int)<4)=True:=af8;simp(disch:=omega)[Gt,T5,fb,m8,U,cb,S,au,ak,bF,Q,-aad,-aan]
  .have:i=4:=an
   subst this;simp(disch:=omega)[Pz,-aad,-aan];refine aw wR ?_
   cases PA:ij x with
   | false =>
    have d:=C k M (by rw[<-a];exact PA);have W:E (.bf [.vs [] .no,.int .i64 2]):=(H _).2 ⟨2,by rw[d];rfl,by rw[d];rfl⟩
    simpa[au,ak] using W
   | true =>
   have iQ:((k+1)*32<=140737488355328)=True:=af8
   have gA:(D.take k).length=k:=by rw[aao];omega
   have dV:IL (D.take k)++[[.int .i64 ((f+256*g:Nat):Int),.int .i64 (l:Int),.int .i64 (m:Int),.int .u32 (K:Int)]]=IL (D.take (k+1)):=by rw[<-Jl,Lk,aaq,y k M,<-a];rfl
   have h8:((8:Int)<=((B k).length:Int))=True:=af8;have pb:(B (k+1)).take ((B k).length-8)=B (k+1):=aas (by rw[<-u,aat];omega);simp(disch:=omega)[au,ak,iQ,gA,dV,h8,zU,uL,u,pb,M,-aad,-aan];intro j hj
   rcases aaC (Nat.le_of_lt_succ hj) with h|h
   .rw[h,<-a];exact PA
   .exact jy j h
 .have:k=N:=an
  subst this;have P:(0<(B k).length)=False:=af9;have hr:=cu jy;have eT:D.take k=D:=aas an;have W:E (.bf [.vs (IL D) .no,.int .i64 0]):=(H _).2 ⟨0,by rw[hr];rfl,by rw[hr];rfl⟩;simp(disch:=omega)[P,eT];exact W
def Ll(r:Nat):Nat:=(r/2) ^^^ (3988292384*(r%2))
def zA5{r:Nat}(h:r<4294967296):Ll r<4294967296:=by unfold Ll;exact aaR (n:=32) an an
def zA6{r:Nat}(h:r<4294967296):uM .u32 (jI .u32 (r:Int) 1) (da .u32 3988292384 (jJ .u32 (r:Int) 1))=(Ll r:Nat):=by
 have c:jJ .u32 (r:Int) 1=((r%2:Nat):Int):=by have:=Lm (a:=r) (b:=1) h aga;rw[show((1:Nat):Int)=1 from rfl] at this;rw[this,Nat.and_one_is_mod]
 have d:jI .u32 (r:Int) 1=((r/2:Nat):Int):=by have:=zV (a:=r) (j:=1) aga;simpa using this
 have e:da .u32 3988292384 ((r%2:Nat):Int)=((3988292384*(r%2):Nat):Int):=by unfold da;rw[show(3988292384:Int)*((r%2:Nat):Int)=((3988292384*(r%2):Nat):Int) by omega];exact IntWalk.u32_in _ ⟨an,an⟩
 rw[c,d,e,T6 an an];rfl
def zW:Nat->Nat->Nat
 | 0,r=>r
 | n+1,r=>Ll (zW n r)
def PB{r:Nat}(h:r<4294967296):∀n,zW n r<4294967296
 | 0=>h
 | n+1=>zA5 (PB h n)
def Et(r x:Nat):Nat:=zW 8 (r ^^^ x)
def Gu(b:List Nat):Nat:=b.foldl Et 4294967295
def s6(b:List Nat):Nat:=4294967295-Gu b
def si(b:List Nat):List Nat:=b++cO (s6 b) 4
def T7:∀(b:List Nat) (r:Nat),r<4294967296->(∀x∈b,x<256)->b.foldl Et r<4294967296
 | [],r,h,_=>h
 | x::b,r,h,a=>T7 b _ (PB (aaR (n:=32) h (by have:=a x ir;omega)) 8) (λy c=>a y (by simp[c]))
def PC(b:List Nat):(si b).length=b.length+4:=by simp[si,cO]
def PD{b:List Nat}(a:∀x∈b,x<256):∀x∈si b,x<256:=by
 intro x c
 rcases aaG.1 c with h|h
 .exact a x h
 .simp only[cO,aa0,List.mem_range] at h;obtain⟨j,_,rfl⟩:=h;exact aay _ aga
def zFh[bE G](b:List Nat)(m:∀x∈b,x<256)(I:b.length<=1000000):FP G 472 [.vs (ah .u8 b) .no] (.int .u32 (s6 b:Nat)):=by
 refine bA bE.acn (aae rfl) ?_;obtain⟨R,c⟩:∃R:Nat->Nat,∀i,R i=(b.take i).foldl Et 4294967295:=⟨_,λ_=>rfl⟩
 have s:R 0=4294967295:=by rw[c];rfl
 have t:Gu b=R b.length:=by rw[c,aaH];rfl
 have j:∀i,R i<4294967296:=λi=>by rw[c];exact T7 _ _ aga (λx d=>m x (aap d))
 have u:∀i x,b[i]?=some x->R (i+1)=Et (R i) x:=λi x h=>by rw[c,c,aaq,h,aaJ,abI];rfl
 rw[s6,t];simp;refine aN b.length (λi=>[(3,.int .u32 (R i:Nat)),(6,.vs (ah .u8 b) .no),(7,.int .i64 b.length),(8,.int .i64 i)]) (λ_=>[]) (λ_=>True) ?_ ?_
 .simp[au,ak,s]
 intro i hi _
 rcases aaC hi with f|o
 .subst f
  have v:zX .u32 (R b.length:Int)=((4294967295-R b.length:Nat):Int):=by
   have:=j b.length;unfold zX;rw[show(if IntKind.u32.signed=true then(-1:Int) else IntKind.u32.max)=((4294967295:Nat):Int) from rfl,ry,ry,abl,aaK,aaK];simp only[IntKind.bits];rw[aal (show 4294967295<2^32 by decide),aal (show R b.length<2^32 from this)]
   have e:4294967295 ^^^ R b.length=4294967295-R b.length:=by
    have q:(abZ 32 ^^^ ab2 32 (R b.length)).toNat=2^32-1-R b.length:=by rw[abB,abK,aaK,aal (show R b.length<2^32 from this)]
    rw[abl,abv,aaK,aal (show R b.length<2^32 from this)] at q;exact q
   rw[e];exact uN an
  simp[v]
 .obtain⟨x,d⟩:∃x,b[i]?=some x:=⟨_,aaf o⟩;obtain⟨_,w⟩:=aab.1 d;have J:=m x (aai d);have y:((i:Int)<(b.length:Int))=True:=af8
  have z:aB .i64 (i:Int) 1=((i+1:Nat):Int):=by rw[eB]<;>omega
  have A:eO .u32 (x:Int)=(x:Int):=IntWalk.u32_in _ ⟨an,an⟩;have p:=T6 (a:=R i) (b:=x) (j i) an;have g:=u i x d;obtain⟨r,l⟩:=ax (R i ^^^ x)
  have B:r<4294967296:=by rw[l];exact aaR (n:=32) (j i) an
  rw[<-l] at p;rw[Et,<-l] at g;simp(disch:=omega)[y,w,A,p];refine aN 8 (λk=>[(3,.int .u32 (zW k r:Nat)),(6,.vs (ah .u8 b) .no),(7,.int .i64 b.length),(8,.int .i64 i),(16,.int .i64 k)]) (λ_=>[]) (λ_=>True) ?_ ?_
  .simp[au,ak,zW]
  intro k C _
  rcases aaC C with f|D
  .subst f;simp[au,ak,z,o,g,-aad]
  .have E:((k:Int)<8)=True:=af8
   have F:aB .i64 (k:Int) 1=((k+1:Nat):Int):=by rw[eB]<;>omega
   have H:=zA6 (PB B k);have f:zW (k+1) r=Ll (zW k r):=rfl;simp[E,F,H,f,D,au,ak,-aad]
def zwv[bE G](b:List Nat)(m:∀x∈b,x<256)(n:b.length<=1000000):FP G 474 [.vs (ah .u8 b) .no] (.vs (ah .u8 (si b)) .no):=by
 refine bA bE.aco (aae rfl) ?_;have h:=zFh (G:=G) b m n;obtain⟨c,g⟩:=ax (s6 b)
 have s:c<4294967296:=by rw[g,s6];omega
 have i:jI .u32 (c:Int) 8=((c/256:Nat):Int):=by have:=zV (a:=c) (j:=8) aga;simpa using this
 have d:jI .u32 (c:Int) 16=((c/65536:Nat):Int):=by have:=zV (a:=c) (j:=16) aga;simpa using this
 have e:jI .u32 (c:Int) 24=((c/16777216:Nat):Int):=by have:=zV (a:=c) (j:=24) aga;simpa using this
 have o:(b.length<=140737488355328)=True:=af8;have p:(b.length+4<=140737488355328)=True:=af8
 have q:(∀f∈ah .u8 b,f.length=1)=True:=by simp only[eq_iff_iff,iff_true];intro f k;simp only[ah,aa0] at k;obtain⟨_,_,rfl⟩:=k;rfl
 have r:ah .u8 (si b)=ah .u8 b++[[.int .u8 ((c%256:Nat):Int)],[.int .u8 ((c/256%256:Nat):Int)],[.int .u8 ((c/65536%256:Nat):Int)],[.int .u8 ((c/16777216%256:Nat):Int)]]:=by simp[si,<-g,cO,aag,aag.loop,ah]
 rw[r];rw[<-g] at h;simp;refine aw h ?_
 by_cases l:ah .u8 b=[]
 .simp[l,i,d,e,BP,-aaO,-aaA];omega
 .simp[l,i,d,e,BP,o,p,q,-aaO,-aaA];omega
def lL(b:List Nat):List Nat×Nat:=if b.length<4 then([],9) else if si (b.take (b.length-4))=b then(b.take (b.length-4),0) else([],10)
def T9:∀{a b:List Nat},(∀x∈a,x<256)->(∀x∈b,x<256)->a.map aah=b.map aah->a=b
 | [],[],_,_,_=>rfl
 | [],_::_,_,_,h=>by simp at h
 | _::_,[],_,_,h=>by simp at h
 | x::a,y::b,d,f,h=>by
  simp only[abw,aby.injEq] at h;have g:=d x ir;have i:=f y ir;have e:=congrArg UInt8.toNat h.1;simp only[abC] at e;rw[aal an,aal an] at e;rw[e,T9 (λz c=>d z (by simp[c])) (λz c=>f z (by simp[c])) h.2]
def zDF[bE G](b:List Nat)(i:∀x∈b,x<256)(w:b.length<=1000000):FP G 473 [.vs (ah .u8 b) .no] (.bf [.vs (ah .u8 (lL b).1) .no,.int .i64 ((lL b).2:Nat)]):=by
 refine bA bE.acp (aae rfl) ?_;have n1:cL .i64 (b.length:Int) 4=(b.length:Int)-4:=nC an an;unfold lL
 by_cases m:b.length<4
 .have a:((b.length:Int)-4<0)=True:=af8;rw[if_pos m];simp[n1,a,ah]
 rw[if_neg m];obtain⟨n,q⟩:=ax (b.length-4)
 have r:(b.length:Int)-4=(n:Int):=an
 rw[r] at n1;rw[<-q];have j:∀x∈b.take n,x<256:=λx s=>i x (aap s);have k:=zwv (G:=G) (b.take n) j (by rw[aao];omega);have o:=Jm _ (PD j);have l:=Jm _ i;have a:((n:Int)<0)=False:=af9;have c:((n:Int)<=(b.length:Int))=True:=af8;have d:((0:Int)<=(n:Int))=True:=af8;have y:((b.take n).length<=140737488355328)=True:=eq_true (by rw[aao];omega)
 have t:(b.take n).length=n:=by rw[aao];omega
 have u:(n<=140737488355328)=True:=af8
 have v:(∀f∈ah .u8 (b.take n),f.length=1)=True:=by simp only[eq_iff_iff,iff_true];intro f p;simp only[ah,aa0] at p;obtain⟨_,_,rfl⟩:=p;rfl
 by_cases e:si (b.take n)=b
 .rw[if_pos e];rw[e] at k o;simp[n1,d,a,c,uL];refine aw k ?_
  by_cases g:ah .u8 (b.take n)=[]
  .simp[g,l,d,c,uL]
  .simp[g,l,d,c,uL,u,t,v]
 .rw[if_neg e]
  have g:((si (b.take n)).map aah==b.map aah)=false:=by rw[beq_eq_false_iff_ne];exact λh=>e (T9 (PD j) i h)
  simp[n1,d,a,c,uL];refine aw k ?_;simp[o,l,g]
def PE(b:List Nat):Nat:=b.getD 0 0+256*b.getD 1 0+65536*b.getD 2 0+16777216*b.getD 3 0
def qu(b:List Nat):Option (TR×List Nat) :=
 if b.length<6 then none
 else if(b.drop 6).length<8*b.getD 4 0+8*b.getD 5 0 then none
 else match mw ((b.drop 6).take (8*b.getD 4 0)),mw (((b.drop 6).drop (8*b.getD 4 0)).take (8*b.getD 5 0)) with
  | some f,some g=>some (⟨f,g,PE b⟩,(b.drop 6).drop (8*b.getD 4 0+8*b.getD 5 0))
  | _,_=>none
def zww{b q:List Nat}{r:TR}(c:∀x∈b,x<256)(h:qu b=some (r,q)):r.ok/\(∀x∈q,x<256)/\q.length<b.length:=by
 unfold qu at h;split at h
 .cases h
 rename_i n;split at h
 .cases h
 have hd:∀x∈b.drop 6,x<256:=λx a=>c x (aau a);split at h
 .rename_i f g d j;cases h;obtain⟨_,o,k,p⟩:=zsv (λx a=>hd x (aap a)) d;obtain⟨_,s,l,t⟩:=zsv (λx a=>hd x (aau (aap a))) j
  have e:∀i,b.getD i 0<256:=λi=>by
   rw[aam]
   cases h:b[i]? with
   | none=>simp
   | some x=>exact c x (aai h)
  have u:=e 0;have v:=e 1;have w:=e 2;have y:=e 3
  have m:PE b<4294967296:=by unfold PE;omega
  refine⟨⟨by simp only[maxLen];omega,by simp only[maxLen];omega,k,l,m⟩,λx a=>hd x (aau a),by simp;omega⟩
 .cases h
def six(l:List Nat)(h:6<=l.length):∃a b c d e f r,l=a::b::c::d::e::f::r:=by
 match l,h with
 | a::b::c::d::e::f::r,_=>exact⟨a,b,c,d,e,f,r,rfl⟩
def zyH[aE G][kf G][bE G](b:List Nat)(H:∀x∈b,x<256)(hl:b.length<=1000000) :
  ∃r q,FP G 475 [.vs (ah .u8 b) .no] (.bf [TV r,.vs (ah .u8 q) .no,.bool (qu b).isSome])/\∀r' j,qu b=some (r',j)->r=r'/\q=j:=by
 obtain⟨R,I⟩:=ax (qu b);rw[<-I];obtain⟨E,y⟩:∃E:V->Prop,∀v,E v↔∃r q,v=.bf [TV r,.vs (ah .u8 q) .no,.bool R.isSome]/\∀r' j,R=some (r',j)->r=r'/\q=j:=⟨_,λ_=>Iff.rfl⟩
 suffices hs:∃r,FP G 475 [.vs (ah .u8 b) .no] r/\E r by
  obtain⟨r,a,z⟩:=hs;obtain⟨x,q,rfl,h3⟩:=(y r).1 z;exact⟨x,q,a,h3⟩
 refine Gr bE.acr (aae rfl) ?_
 by_cases U:b.length<6
 .have s:R=none:=by rw[I];exact if_pos U
  have J:((b.length:Int)<6)=True:=af8;have k:E (.bf [.agg [.vs [] .no,.vs [] .no,.int .u32 0],.vs [] .no,.bool false]):=(y _).2 ⟨⟨[],[],0⟩,[],by rw[s];rfl,by rw[s];intro _ _ h;cases h⟩;simp[J];exact k
 have J:((b.length:Int)<6)=False:=af9;obtain⟨a0,a1,a2,a3,A,B,c,d⟩:=six b an;have l:=H;rw[d] at l;simp only[aaQ,forall_eq_or_imp] at l;obtain⟨m0,m1,m2,m3,W,X,Y⟩:=l;obtain⟨n,s⟩:=ax (8*A);obtain⟨m,Z⟩:=ax (8*B);obtain⟨K,hK⟩:=ax (a0+256*a1+65536*a2+16777216*a3)
 have PF:K<4294967296:=an
 have o:R=if c.length<n+m then none else match mw (c.take n),mw ((c.drop n).take m) with
   | some f,some g=>some (⟨f,g,K⟩,c.drop (n+m))
   | _,_=>none:=by
  rw[I,s,Z,hK,qu,if_neg U,d];rfl
 have jU:c.length+6=b.length:=by rw[d];simp
 have b4:b[4]?=some A:=by rw[d];rfl
 have b5:b[5]?=some B:=by rw[d];rfl
 have bk:∀i,i<4->b[i]?=some (K/256^i%256):=by
  intro i hi;rw[d]
  have:i=0\/i=1\/i=2\/i=3:=an
  rcases this with rfl|rfl|rfl|rfl<;>simp<;>omega
 have f4:=(aab.1 b4).2;have f5:=(aab.1 b5).2
 have t:b.drop 6=c:=by rw[d];rfl
 obtain⟨u,C⟩:∃u:Nat->Nat,∀i,u i=K%256^i:=⟨_,λ_=>rfl⟩
 have T4:u 0=0:=by rw[C];simp[ab6]
 have Pz:u 4=K:=by rw[C];exact aal PF
 have Jn:∀x:Nat,x<256->eO .i64 (x:Int)=(x:Int):=λb H=>IntWalk.i64_in _ ⟨an,an⟩;have Gs:∀x:Nat,x<256->eO .u32 (x:Int)=(x:Int):=λb H=>IntWalk.u32_in _ ⟨an,an⟩
 have L:∀i:Nat,i<256->da .i64 8 (i:Int)=((8*i:Nat):Int):=λi hi=>by
  unfold da;rw[show((8:Int)*(i:Int))=((8*i:Nat):Int) by omega];exact IntWalk.i64_in _ ⟨an,an⟩
 have e4:=Jn A W;have e5:=Jn B X;have M:=L A W;have N:=L B X;rw[<-s] at M;rw[<-Z] at N;simp[J];refine aN 4 (λi=>[(0,.vs (ah .u8 b) .no),(2,.ptr 0 0),(5,.ptr 1 0),(15,.int .i64 i)]) (λi=>[some (.cells [.vs [] .full,.vs [] .full,.int .u32 0]),some (.cells [.vs [] .full,.vs [] .full,.int .u32 (u i)])]) (λ_=>True) ?_ ?_
 .simp[au,ak,az.cl,a_,V.cl,Tk.cl,T4]
 intro i hi _
 by_cases O:i<4
 .have PG:=bk i O;have l:=aay (K/256^i) (show 0<256 by decide);have P:=zwu K i O PF;rw[<-C,<-C] at P;obtain⟨Q,CJ⟩:=ax (K/256^i%256);rw[<-CJ] at PG l P;have cb:=Gs Q l;have fb:=(aab.1 PG).2;have T5:(((8*i:Nat):Int)<0)=False:=af9;have Gt:((i:Int)<4)=True:=af8
  have vJ:i<b.length:=an
  have mi:=L i an;simp(disch:=omega)[Gt,T5,fb,mi,cb,P,au,ak,az.cl,a_,V.cl,Tk.cl,bF,O,-aad,-aan]
 have:i=4:=an
 subst this;have w:((6:Int)<=(b.length:Int))=True:=af8;have wm:c.take (b.length-6)=c:=aas an
 have F:aB .i64 (n:Int) (m:Int)=((n+m:Nat):Int):=by rw[eB]<;>omega
 have l4:4<b.length:=an
 have l5:5<b.length:=an
 by_cases PI:c.length<n+m
 .have wo:R=none:=by rw[o,if_pos PI]
  have S:((c.length:Int)<((n+m:Nat):Int))=True:=af8;have k:E (.bf [.agg [.vs [] .no,.vs [] .no,.int .u32 0],.vs [] .no,.bool false]):=(y _).2 ⟨⟨[],[],0⟩,[],by rw[wo];rfl,by rw[wo];intro _ _ h;cases h⟩;simp(disch:=omega)[Pz,f4,f5,e4,e5,M,N,w,zU,uL,t,wm,F,S,-aad,-aan];exact k
 rw[if_neg PI] at o;have S:((c.length:Int)<((n+m:Nat):Int))=False:=af9;obtain⟨x1,p1,q1⟩:=zqo (G:=G) (c.take n) (λx T=>Y x (aap T)) (by rw[aao];omega);obtain⟨x2,p2,q2⟩:=zqo (G:=G) ((c.drop n).take m) (λx T=>Y x (aau (aap T))) (by rw[aao,aat];omega);obtain⟨e,zA⟩:=ax (mw (c.take n));obtain⟨p,Eu⟩:=ax (mw ((c.drop n).take m));rw[<-zA] at p1 q1 o;rw[<-Eu] at p2 q2 o
 have r0:((0:Int)<=(n:Int))=True:=af8;have r1:((n:Int)<=(c.length:Int))=True:=af8;have r2:((n:Int)<=((n+m:Nat):Int))=True:=af8;have r3:(((n+m:Nat):Int)<=(c.length:Int))=True:=af8
 have r4:n+m-n=m:=an
 have r5:(c.drop (n+m)).take (c.length-(n+m))=c.drop (n+m):=aas (by rw[aat];omega)
 have zY:R.isSome=(e.isSome&&p.isSome):=by rw[o];cases e<;>cases p<;>rfl
 have k:E (.bf [.agg [.vs (IL (e.getD [])) .no,.vs (IL (p.getD [])) .no,.int .u32 K],.vs (ah .u8 (c.drop (n+m))) .no,.bool (e.isSome&&p.isSome)]):=by
  refine(y _).2 ⟨⟨e.getD [],p.getD [],K⟩,c.drop (n+m),by rw[zY];rfl,?_⟩;intro r' j h;rw[o] at h
  cases a:e with
  | none=>rw[a] at h;cases h
  | some f =>
   cases z:p with
   | none=>rw[a,z] at h;cases h
   | some g=>rw[a,z] at h;cases h;exact⟨rfl,rfl⟩
 simp only[FL] at p1 p2;simp(disch:=omega)[Pz,f4,f5,e4,e5,M,N,w,zU,uL,t,wm,F,S,r0,r1,-aad,-aan];refine aw p1 ?_;simp(disch:=omega)[zU,uL,F,r0,r2,r3,r4,-aad,-aan];refine aw p2 ?_;simp(disch:=omega)[zU,uL,F,r3,r5,q1,-aad,-aan]
 cases a:e.isSome<;>rw[a] at k<;>simp[q2]<;>simpa using k
def zZ:Nat->List Nat->List TR->Option (List TR×List Nat)
 | 0,b,t=>some (t,b)
 | n+1,b,t=>match qu b with
  | none=>none
  | some (r,q)=>zZ n q (t++[r])
def s9:List Nat:=[72,82,84,49]
def rL(b:List Nat):Option (List TR) :=
 if(lL b).2≠0\/(lL b).1.length<=4\/(lL b).1.take 4≠s9 then none
 else match zZ ((lL b).1.getD 4 0) ((lL b).1.drop 5) [] with
  | some (t,q)=>if q=[]/\cF t=true then some t else none
  | none=>none
def zyI:∀(n:Nat) {b q:List Nat} {t u:List TR},(∀x∈b,x<256)->(∀r∈t,r.ok)->zZ n b t=some (u,q)->∀r∈u,r.ok
 | 0,b,q,t,u,d,c,h=>by cases h;exact c
 | n+1,b,q,t,u,d,c,h=>by
  unfold zZ at h
  cases a:qu b with
  | none=>rw[a] at h;cases h
  | some x =>
   rw[a] at h;obtain⟨e,f,_⟩:=zww d a
   exact zyI n f (λr a=>by
    rcases aaG.1 a with a|a
    .exact c r a
    .rw[aaV.1 a];exact e) h
def zwx{b:List Nat}(a:∀x∈b,x<256):∀x∈(lL b).1,x<256:=by
 unfold lL;split
 .simp
 .split
  .exact λx c=>a x (aap c)
  .simp
def zA7(b:List Nat):(lL b).1.length<=b.length:=by
 unfold lL;split
 .simp
 .split
  .rw[aao];omega
  .simp
def zDG{b:List Nat}{t:List TR}(a:∀x∈b,x<256)(h:rL b=some t):cF t=true/\∀r∈t,r.ok:=by
 unfold rL at h;split at h
 .cases h
 .split at h
  .rename_i u q c;split at h
   .rename_i d;cases h;exact⟨d.2,zyI _ (λx e=>zwx a x (aau e)) ir c⟩
   .cases h
  .cases h
def zxG[aE G][kf G][aD G][aQ G][eA G][cS G][bE G](b:List Nat)(P:∀x∈b,x<256)(hl:b.length<=1000000) :
  ∃e:Int,FP G 476 [.vs (ah .u8 b) .no] (.bf [TF ((rL b).getD []),.int .i64 e])/\((e==0)=(rL b).isSome):=by
 obtain⟨R,a⟩:=ax (rL b);rw[<-a];obtain⟨E,J⟩:∃E:V->Prop,∀v,E v↔∃e:Int,v=.bf [TF (R.getD []),.int .i64 e]/\((e==0)=R.isSome):=⟨_,λ_=>Iff.rfl⟩
 suffices hs:∃r,FP G 476 [.vs (ah .u8 b) .no] r/\E r by
  obtain⟨r,h1,h2⟩:=hs;obtain⟨e,rfl,h3⟩:=(J r).1 h2;exact⟨e,h1,h3⟩
 have f:R=none->∀e:Int,(e==0)=false->E (.bf [.vs [] .no,.int .i64 e]):=λh e he=>(J _).2 ⟨e,by rw[h];rfl,by rw[h,he];rfl⟩;refine Gr bE.acs (aae rfl) ?_;have Q:=zDF (G:=G) b P hl;have w:=zwx P;have jU:=zA7 b;unfold rL at a;obtain⟨c,K⟩:=ax ((lL b).1);obtain⟨p,T⟩:=ax ((lL b).2);rw[<-K,<-T] at Q;rw[<-K] at w jU;rw[<-K,<-T] at a;simp;refine aw Q ?_
 by_cases U:p=0
 rotate_left
 .have o:R=none:=by rw[a,if_pos (Or.inl U)]
  have g:((p:Int) !=0)=true:=by simp;omega
  have j:=f o p (by simp;omega);simp[g];exact j
 have g:((p:Int) !=0)=false:=by simp;omega
 by_cases h4:c.length<=4
 .have o:R=none:=by rw[a,if_pos (Or.inr (Or.inl h4))]
  have F:((c.length:Int)<=4)=True:=af8;have j:=f o 2 rfl;simp[g,F];exact j
 have F:((c.length:Int)<=4)=False:=af9;have W:((4:Int)<=(c.length:Int))=True:=af8;have X:=Jm (c.take 4) (λx m=>w x (aap m))
 by_cases H:c.take 4=s9
 rotate_left
 .have o:R=none:=by rw[a,if_pos (Or.inr (Or.inr H))]
  have A:((c.take 4).map aah==[72,82,84,49])=false:=by rw[beq_eq_false_iff_ne];exact λh=>H (T9 (λx m=>w x (aap m)) aga h)
  rw[abg] at A;have j:=f o 2 rfl;simp[g,F,W,uL,X,A];exact j
 have A:((c.take 4).map aah==[72,82,84,49])=true:=by rw[H];rfl
 rw[abg] at A;rw[if_neg (by simp[U,H];omega)] at a;obtain⟨n,o⟩:∃n,c[4]?=some n:=⟨_,aaf an⟩;have fn:=(aab.1 o).2;have ha:=w n (aai o);rw[aam,o,Option.getD_some] at a;have cn:eO .i64 (n:Int)=(n:Int):=IntWalk.i64_in _ ⟨an,an⟩;have h5:((5:Int)<=(c.length:Int))=True:=af8
 have l4:4<c.length:=an
 have Y:(c.drop 5).take (c.length-5)=c.drop 5:=aas (by rw[aat];omega);obtain⟨d,hd⟩:=ax (c.drop 5);rw[<-hd] at a Y
 have hf:(ah .u8 c).drop 5=ah .u8 d:=by rw[zU,<-hd]
 have L:∀x∈d,x<256:=λx m=>w x (aau (by rw[hd] at m;exact m))
 have sZ:d.length<=1000000:=by rw[hd,aat];omega
 simp[g,F,W,uL,X,A,fn,l4,cn,h5,zU,<-hd,Y];obtain⟨M,B⟩:=ax (zZ n d []);rw[<-B] at a
 refine wq (S:=Nat×List Nat×List TR) (λs=>n-s.1) (λs=>[(0,.vs (ah .u8 s.2.1) .no),(5,.vs (TL s.2.2) (.own 0)),(33,.int .i64 n),(34,.int .i64 (s.1:Nat))]) (λs=>[some (.zone s.2.2.length)])
  (λs=>s.1<=n/\s.2.2.length=s.1/\(∀x∈s.2.1,x<256)/\s.2.1.length<=1000000/\(∀r∈s.2.2,r.ok)/\zZ (n-s.1) s.2.1 s.2.2=M) (0,d,[]) ?_ ?_
 .refine⟨⟨Nat.zero_le _,rfl,L,sZ,ir,B.symm⟩,?_,?_⟩
  .simp[au,TL]
  .simp[ak]
 rintro⟨i,x,t⟩ ⟨p1,p2,p3,p4,N,l⟩;simp only at p1 p2 p3 p4 N l |-
 by_cases aj:i<n
 .have u:((i:Int)<(n:Int))=True:=af8;obtain⟨k,hk⟩:∃k,n-i=k+1:=⟨n-i-1,an⟩;obtain⟨r,q,C,Z⟩:=zyH (G:=G) x p3 p4;rw[hk] at l;unfold zZ at l;simp only[TV,TR.cs] at C
  cases O:qu x with
  | none =>
   rw[O] at l C;simp only at l;rw[<-l] at a;have j:=f a 2 rfl;simp[u];refine aw C ?_;simp
   exact j
  | some y =>
   rw[O] at l C Z;obtain⟨y1,y2⟩:=y;obtain⟨e1,e2⟩:=Z y1 y2 rfl;subst e1;subst e2;obtain⟨o1,o2,o3⟩:=zww p3 O;simp only at l;have iQ:((t.length+1)*56<=140737488355328)=True:=af8;have dh:=Jp t;have dV:TL t++[r.cs]=TL (t++[r]):=Lr t r
   have a1:aB .i64 (i:Int) 1=((i+1:Nat):Int):=by rw[eB]<;>omega
   simp only[TR.cs] at dV;simp[u];refine aw C ?_;simp[iQ,dh,dV,a1,-aad];refine⟨(i+1,q,t++[r]),by simp only;omega,⟨by simp only;omega,by simp;omega,o2,by simp only;omega,?_,by simp only[show n-(i+1)=k by omega];exact l⟩,?_,?_⟩
   .intro z hz
    rcases aaG.1 hz with hz|hz
    .exact N z hz
    .rw[aaV.1 hz];exact o1
   .simp[au]
   .simp[ak,az.cl]
 .have jz:i=n:=an
  subst jz;have u:((i:Int)<(i:Int))=False:=af9;rw[ab3] at l;rw[<-l] at a;simp only[zZ] at a;have D:=Lt (G:=G) t an N;simp only[TF] at D
  by_cases m:x=[]
  .subst m
   cases I:cF t with
   | true =>
    rw[I] at D;simp only[I,and_self,if_true] at a;have j:E (.bf [.vs (TL t) .no,.int .i64 0]):=(J _).2 ⟨0,by rw[a];rfl,by rw[a];rfl⟩;simp[u,ah];refine aw D ?_;simp
    exact j
   | false =>
    rw[I] at D;simp only[I,and_false,if_false,abE] at a;have j:=f a 2 rfl;simp[u,ah];refine aw D ?_;simp;exact j
  .have hp:=List.length_pos_iff.2 m;have gT:((0:Int)<(x.length:Int))=True:=af8;have Ub:0<x.length:=hp;simp only[m,false_and,if_false] at a;have j:=f a 2 rfl;simp[u,Ub];exact j
def Ew(t:List TR):List Nat:=s9++[t.length%256]++t.flatMap TR.jg
def zt6(t:List TR):∀x∈Ew t,x<256:=by
 intro x a
 rcases aaG.1 a with a|a
 .rcases aaG.1 a with a|a
  .have:∀y∈s9,y<256:=by decide
   exact this x a
  .rw[aaV.1 a];exact aay _ aga
 .simp only[abL] at a;obtain⟨r,_,b⟩:=a;exact Jq r x b
def kD(t:List TR):List Nat:=si (Ew t)
def PJ(r:TR):r.jg.length=6+8*r.fr.length+8*r.to.length:=by simp only[TR.jg,aar,rK];simp[cO]
def zni:∀{l:List Nat},(∀b∈l,b<256)->qv (l.map aah)=ah .u8 l
 | [],_=>rfl
 | b::l,h=>by
  have a:=zni (l:=l) λc d=>h c (by simp[d]);have f:=h b ir
  have e:(aah b).toNat=b:=by rw[abC];omega
  simp only[qv,ah,abw,e] at a |-;rw[a]
def zxH[aE G][aD G][aQ G][eA G][cS G][bE G](t:List TR)(g:cF t=true)(n:∀r∈t,r.ok):FP G 477 [TF t] (.bf [.vs (ah .u8 (kD t)) .no,.int .i64 0]):=by
 refine bA bE.acu (aae rfl) ?_;have Q:t.length<=64:=(Gw g).2;have k:=Lt (G:=G) t an n;rw[g] at k
 have o:∀r∈t,r.may=true:=λr b=>by
  simp only[cF,aaj] at g;exact aaM.1 g.1.1 r b
 obtain⟨T,c⟩:∃T:Nat->List Nat,∀j,T j=s9++[t.length%256]++(t.take j).flatMap TR.jg:=⟨_,λ_=>rfl⟩
 have p:T 0=[72,82,84,49,t.length%256]:=by rw[c];rfl
 have z:Ew t=T t.length:=by rw[c,aaH];rfl
 have q:∀i r,t[i]?=some r->T (i+1)=T i++r.jg:=λi r h=>by rw[c,c,aaq,h,aaJ,abb];simp
 have s:∀r∈t,r.jg.length<=600:=λr b=>by
  have:=CN (o r b);rw[PJ];omega
 have u:∀j,j<=t.length->(T j).length<=5+600*j:=by
  intro j
  induction j with
  | zero=>intro _;rw[p];simp
  | succ j A =>
   intro R;have d:t[j]?=some t[j]:=aaf an;have:=A an;have:=s t[j] (aaP _);rw[q j _ d,aar];omega
 have B:∀j,∀x∈T j,x<256:=λj x a=>by
  rw[c] at a
  rcases aaG.1 a with a|a
  .rcases aaG.1 a with a|a
   .have:∀y∈s9,y<256:=by decide
    exact this x a
   .rw[aaV.1 a];exact aay _ aga
  .simp only[abL] at a;obtain⟨r,_,b⟩:=a;exact Jq r x b
 have C:=zwv (G:=G) (T t.length) (B _) (by have:=u t.length (abo _);omega);rw[kD,z];have D:=BP t.length;simp only[TF] at k;have E:pg 1 4 [V.int .u8 72,.int .u8 82,.int .u8 84,.int .u8 49]=[[V.int .u8 72],[V.int .u8 82],[V.int .u8 84],[V.int .u8 49]]:=rfl;simp[TF];refine aw k ?_;simp[D,E,-aaA];refine aN t.length (λi=>[(4,.vs (ah .u8 (T i)) (.own 1)),(17,.vs (TL t) .no),(18,.int .i64 t.length),(19,.int .i64 i)]) (λi=>[some (.zone 1),some (.zone (T i).length)]) (λ_=>True) ?_ ?_
 .simp[au,ak,az.cl,V.cl,Tk.cl,p,ah]
 intro i hi _
 rcases aaC hi with F|v
 .subst F;simp;refine aw C ?_;simp
 .obtain⟨r,b⟩:∃r,t[i]?=some r:=⟨_,aaf v⟩;have l:=aai b;have d:=CO b;have H:=(aab.1 d).2;have I:((i:Int)<(t.length:Int))=True:=af8;have m:=(Lv (G:=G) r (n r l) (o r l) [] Ue).fp;rw[PK] at m
  have J:aB .i64 (i:Int) 1=((i+1:Nat):Int):=by rw[eB]<;>omega
  have e:=q i r b;have S:=u i hi;have U:=s r l;have K:((T i).length+r.jg.length<=140737488355328)=True:=af8;have L:=zni (Jq r)
  have M:ah .u8 r.jg≠[]:=by intro h;have:=congrArg abp h;rw[zpo,PJ] at this;simp at this
  have N:ah .u8 (T i)++ah .u8 r.jg=ah .u8 (T (i+1)):=by rw[e];simp[ah]
  have O:(∀f∈ah .u8 r.jg,f.length=1)=True:=by simp only[eq_iff_iff,iff_true];intro f w;simp only[ah,aa0] at w;obtain⟨_,_,rfl⟩:=w;rfl
  have P:(T (i+1)).length=(T i).length+r.jg.length:=by rw[e,aar]
  simp only[TV,TR.cs] at m d H;simp[I,d];refine aw m ?_;simp[L,M,O,N,P,K,J,v,au,ak,az.cl,V.cl,Tk.cl,-aad]
def ue(f:List af)(a n:Nat):Nat:=gB (nd (f.drop (a+n))) 18
def pK(f:List af)(a n:Nat):List af:=(f.drop a).take n
noncomputable def pN(w:List af)(t:List TR)(live:Nat)(tries:Int):Option (List af) :=
 match zB t w live with
 | some x=>if aY x=true/\(ee w x live).1=0 then some x else jA w live tries
 | none=>jA w live tries
noncomputable def wu(f:List af)(t:List TR)(tries:Int)(p:Pc):Option (List af×List TR) :=
 (pN (pK f p.1 p.2) t (ue f p.1 p.2) tries).map λx=>(jK f p.1 p.2 x,(oM t ⟨pK f p.1 p.2,x,ue f p.1 p.2⟩).1)
noncomputable def wv(f:List af)(t:List TR)(tries most:Int):Option (List af×List TR):=(rows f most f.length).findSome? (wu f t tries)
noncomputable def rN(tries most:Int):Nat->List af->List TR->(List af×List TR)×Nat×Bool
 | 0,f,t=>((f,t),0,false)
 | k+1,f,t=>match wv f t tries most with
  | none=>((f,t),0,true)
  | some q=>((rN tries most k q.1 q.2).1,(rN tries most k q.1 q.2).2.1+1,(rN tries most k q.1 q.2).2.2)
def zyJ{t:List TR}{w x:List af}{live:Nat}(h:zB t w live=some x):∃r∈t,r.fr=w/\r.to=x/\r.may=true:=by
 unfold zB at h;split at h
 .rename_i a;rw[abq] at h;obtain⟨r,b,e⟩:=h;have c:=List.find?_some b;have d:=List.mem_of_find?_eq_some b;simp only[aaj,decide_eq_true_eq] at c;simp only[cF,aaj] at a;exact⟨r,d,c.1,e,aaM.1 a.1.1 r d⟩
 .cases h
def Uf{w x:List af}{t:List TR}{live:Nat}{tries:Int}(i:∀y∈w,y.k<4294967296)(a:aY w=true)(j:∀r∈t,∀y∈r.to,y.k<4294967296)(h:pN w t live tries=some x) :
  aY x=true/\x.length<w.length/\(ee w x live).1=0/\∀y∈x,y.k<4294967296:=by
 have l:w.length<=32:=by simp only[aY,aaj,decide_eq_true_eq] at a;exact a.1
 have d:jA w live tries=some x->aY x=true/\x.length<w.length/\(ee w x live).1=0/\∀y∈x,y.k<4294967296:=λh=>by
  obtain⟨k,_,m,n,_⟩:=zC4 h;have b:=aai m;exact⟨zC5 zwt b l,PL b,n,λy c=>zrw i a y (PM b y c)⟩
 unfold pN at h;split at h
 .rename_i y c;split at h
  .rename_i e;cases h;obtain⟨r,o,p,f,g⟩:=zyJ c;simp only[TR.may,aaj,decide_eq_true_eq] at g;exact⟨e.1,by rw[<-p,<-f];exact g.1.2,e.2,by rw[<-f];exact j r o⟩
  .exact d h
 .exact d h
def kE(t:List TR):Prop:=∀r∈t,(∀y∈r.fr,y.k<4294967296)/\(∀y∈r.to,y.k<4294967296)/\r.lv<4294967296
structure aoD (f:List af) (t:List TR) (f':List af) (t':List TR):Prop where
 sound:dR f'=true
 k:∀y∈f',y.k<4294967296
 len:f'.length<f.length
 run:∀d:Da,d.ok->(run d f' Ez).1=(run d f Ez).1/\((∀y∈f,y.op≠60)->(run d f' Ez).2<=(run d f Ez).2)
 divs:(∀y∈f,y.op≠60)->∀y∈f',y.op≠60
 all:yu f->yu f'
 tk:kE t'
 dq:cF t=true->cF t'=true/\t.length<=t'.length/\t'.length<=t.length+1/\∀r∈t',r∈t\/aY r.fr=true/\aY r.to=true/\(ee r.fr r.to r.lv).1=0
def zDH{t:List TR}{r:TR}(b:kE t)(c:∀y∈r.fr,y.k<4294967296)(d:∀y∈r.to,y.k<4294967296)(e:r.lv<4294967296):kE (oM t r).1:=by
 unfold oM;split
 .split
  .exact b
  .split
   .exact b
   .intro x a;rw[aaG,aaQ] at a
    rcases a with a|rfl|a
    .exact b x (aap a)
    .exact⟨c,d,e⟩
    .exact b x (aau a)
 .exact b
structure Ug (f:List af) (t:List TR) (f':List af) (t':List TR):Prop where
 sound:dR f'=true
 k:∀y∈f',y.k<4294967296
 len:f'.length<f.length
 tk:kE t'
 dq:cF t=true->cF t'=true
def PN{f c:List af}{t d:List TR}{tries most:Int}(s:dR f=true)(g:∀y∈f,y.k<4294967296)(i:kE t)(h:wv f t tries most=some (c,d)):Ug f t c d:=by
 obtain⟨p,u,b⟩:=List.exists_of_findSome?_eq_some h;obtain⟨D,j,E,F⟩:=PO u;simp only[qw,z5,uf,z6,aaj,decide_eq_true_eq] at j;obtain⟨⟨_,_⟩,_,⟨G,H,I,J⟩,a⟩:=j
 have a:uP f p.1 p.2=true:=by simpa using a
 have l:p.1+p.2<=f.length:=an
 unfold wu at b;rw[abq] at b;obtain⟨x,v,e⟩:=b;cases e
 have w:(pK f p.1 p.2).length=p.2:=by rw[pK,aao,aat];omega
 have m:∀y∈pK f p.1 p.2,y.k<4294967296:=PQ g _ _
 have n:aY (pK f p.1 p.2)=true:=by simp only[uP,aaj] at a;exact a.1
 have z:ue f p.1 p.2<262144:=uQ _ 18;obtain⟨o,K,L,q⟩:=Uf m n (λr A=>(i r A).2.1) v
 have B:x.length<=p.2:=an
 refine⟨zzW s a an l o B,zKN g q,by rw[zu8 l];omega,zDH i m q (by simp only;omega),λC=>?_⟩
 exact(zvQ C (by
  simp only[TR.may,n,o,ab0,aaj,decide_eq_true_eq]
  exact⟨an,z⟩)).1
structure acA (f:List af) (t:List TR) (q:(List af×List TR)×Nat×Bool):Prop where
 sound:dR q.1.1=true
 k:∀y∈q.1.1,y.k<4294967296
 len:q.1.1.length<=f.length
 run:∀d:Da,d.ok->(run d q.1.1 Ez).1=(run d f Ez).1/\((∀y∈f,y.op≠60)->(run d q.1.1 Ez).2<=(run d f Ez).2)
 all:yu f->yu q.1.1
 tk:kE q.1.2
 dq:cF t=true->cF q.1.2=true/\t.length<=q.1.2.length/\q.1.2.length<=t.length+q.2.1/\∀r∈q.1.2,r∈t\/aY r.fr=true/\aY r.to=true/\(ee r.fr r.to r.lv).1=0
def lD(b lo hi:Int):Int:=max lo (min b hi)
def Uh[fq G](b lo hi:Int):FP G 360 [.int .i64 b,.int .i64 lo,.int .i64 hi] (.int .i64 (lD b lo hi)):=by refine bA fq.acv (aae rfl) ?_;simp[lD];omega
def zA8[fq G](a b c:Int):FP G 361 [.agg [.int .i64 a,.int .i64 b,.int .i64 c]] (.agg [.int .i64 (lD a 0 1000),.int .i64 (lD b 0 1000),.int .i64 (lD c 0 32)]):=by refine bA fq.acw (aae rfl) ?_;simp;refine aw (Uh _ _ _) ?_;simp;refine aw (Uh _ _ _) ?_;simp;refine aw (Uh _ _ _) ?_;simp
def mb(t:List TR):List TR:=if cF t=true then t else []
def zDI[aE G][aD G][aQ G][eA G][cS G][fq G](t:List TR)(c:t.length<=1000000)(d:∀r∈t,r.ok):FP G 362 [TF t] (TF (mb t)):=by
 refine bA fq.acx (aae rfl) ?_;have a:=Lt (G:=G) t c d;simp only[TF] at a;simp[TF];refine aw a ?_
 cases b:cF t with
 | false=>simp[mb,b,TL]
 | true=>simp[mb,b]
def zxI[ef G][dM G][aE G][aD G][bQ G][dC G][dp G][aQ G][db G][dc G][b_ G][cA G][bP G][ar G][Q:eg G][cG G][aM G][di G][cd G][cU G][eU G][gC G][fI G][fJ G][jB G][eA G][cS G][fq G]
  (w:List af) (t:List TR) (live:Nat) (tries:Int) (i:aY w=true) (v:∀x∈w,x.k<4294967296) (I:t.length<=1000000) (y:∀r∈t,r.ok) (j:live<4294967296) :
  FP G 363 [FL w,TF t,.int .u32 live,.int .i64 tries] (oN (pN w t live tries)):=by
 refine bA fq.acy (aae rfl) ?_;have z:=zDc (G:=G) t w live I y j;have J:=(zC i).1;have a:w.length<=maxLen:=aaF J aga;have l:=zE9 (G:=G) w live tries a v i j;simp only[FL,TF] at z l;simp[FL,TF];refine aw z ?_
 cases e:zB t w live with
 | none =>
  have b:pN w t live tries=jA w live tries:=by rw[pN,e]
  rw[b];simp[oN];refine aw l ?_
  cases jA w live tries<;>simp[oN]
 | some x =>
  obtain⟨r,K,R,C,m⟩:=zyJ e;have D:=(y r K).2.2.2.1;have E:=(CN m).2;rw[C] at D E;have c:=zty (G:=G) w x live a (aaF E aga) v D j
  have d:aY x=true:=by simp only[TR.may,aaj] at m;rw[<-C];exact m.1.1.2
  simp only[FL,i,d,Bool.and_self,if_true] at c;simp[oN];refine aw c ?_;obtain⟨A,F⟩:=ax (dK 0 none)
  have L:A.length=28:=by rw[F];rfl
  obtain⟨f,B,o,M,N,O,H⟩:∃(f:Int) (B:List V),(ee w x live).1=f/\B=dK (ee w x live).1 (ee w x live).2/\(∀n,a_ n B=B)/\B.length=28/\B.take 1=[.int .i64 (ee w x live).1] :=
   ⟨_,_,rfl,rfl,λn=>PR _ _ n,zvI w x live,zxA _ _⟩
  have p:V.int .i64 0::(av .u32 (aR 20)++av .u64 (aR 7))=A:=by rw[F];rfl
  have q:B.take 28=B:=aas an;have s:B.drop 28=[]:=aaI an;have u:A.drop 28=[]:=aaI an;rw[<-M];rw[o] at H;simp[p,u,q,s,L,O,H,N]
  by_cases g:f=0
  .have b:pN w t live tries=some x:=by rw[pN,e];simp only[];rw[if_pos ⟨d,by rw[o,g]⟩]
   simp[g,b,oN]
  .have b:pN w t live tries=jA w live tries:=by rw[pN,e];simp only[];rw[if_neg (by rintro⟨_,h⟩;rw[o] at h;exact g h)]
   have P:(f==0)=false:=aL g;rw[b];simp[P];refine aw l ?_
   cases jA w live tries<;>simp[oN]
def oO(f:List af)(t:List TR)(n:Nat)(d:Bool):List V:=[FL f,TF t,.int .i64 n,.bool d]
def yx(f:List af)(t:List TR):Option (List af×List TR)->V
 | some q=>.bf [.agg (oO q.1 q.2 1 false),.bool true]
 | none=>.bf [.agg (oO f t 0 true),.bool false]
def PS(t:List TR):Prop:=t.length<=1000000/\∀r∈t,r.ok
def zxJ[ef G][dM G][aE G][aD G][bQ G][dC G][dp G][aQ G][db G][dc G][b_ G][cA G][bP G][ar G][CP:eg G][cG G][aM G][di G][cd G][cU G][eU G][gC G][fI G][fJ G][jB G][dj G][fK G][eG G][eA G][cS G][fq G]
  (f:List af) (t:List TR) (J tries most:Int) (K:dR f=true) (s:∀x∈f,x.k<4294967296) (g:PS t) (hm:0<=most/\most<=32) :
  FP G 364 [FL f,TF t,.agg [.int .i64 J,.int .i64 tries,.int .i64 most]] (yx f t (wv f t tries most)):=by
 refine bA fq.acz (aae rfl) ?_;have Uj:=Jr K;have M:f.length<=maxLen:=aaF Uj aga;have w:=zzR (G:=G) f most M s an;obtain⟨L,u⟩:=ax (rows f most f.length)
 have Uk:L.length<=200000:=by have:=Um f most f.length;rw[u];omega
 rw[<-u] at w
 have N:wv f t tries most=L.findSome? (wu f t tries):=by rw[wv,u]
 simp only[FL] at w;simp[FL,TF];refine aw w ?_;simp
 refine aN L.length (λi=>[(0,FL f),(1,TF t),(5,.ptr 0 0),(6,.ptr 1 0),(24,.vs (vK L) .no),(25,.int .i64 L.length),(26,.int .i64 i)])
  (λ_=>[some (.cells [.int .i64 J,.int .i64 tries,.int .i64 most]),some (.cells [.vs [] .full,.vs [] .full,.int .i64 0,.bool false])]) (λi=>∀j<i,∀p,L[j]?=some p->wu f t tries p=none) ?_ ?_
 .simp[au,ak,FL,TF]
 intro i hi z
 by_cases A:i<L.length
 .obtain⟨p,l⟩:=ax (L[i])
  have O:L[i]?=some p:=by rw[l];exact aaf A
  have Un:p∈rows f most f.length:=by rw[<-u];exact aai O
  obtain⟨BQ,B,h2,yw⟩:=PO Un;have Q:=B;simp only[qw,aaj] at Q;have R:=Q.2;simp only[qw,z5,uf,z6,aaj,decide_eq_true_eq] at B;obtain⟨⟨_,_⟩,_,⟨i1,i2,i3,i4⟩,d⟩:=B
  have d:uP f p.1 p.2=true:=by simpa using d
  obtain⟨a,n⟩:=p;simp only at BQ h2 yw d i1 i2 i3 i4 R
  have xG:a+n<=f.length:=an
  obtain⟨x,S⟩:∃x,f[a+n-1]?=some x:=⟨_,aaf an⟩;have v:=zzO (G:=G) f (a+n-1) x S s K
  have lO:∀x∈(f.drop a).take n,mc x=true:=by simp only[uP,aaj] at d;exact Uq d.1
  have Js:mc x=true:=lO x (by
   refine aai (i:=n-1) ?_;rw[abF,if_pos an,aa1,show a+(n-1)=a+n-1 by omega]
   exact S)
  have Lx:bg x=[0]:=by obtain⟨h5,fA,h6,Gy⟩:=zAQ Js;simp[bg,il,h5,fA,h6,Gy]
  rw[Lx,zGr,show a+n-1+1=a+n by omega] at v;obtain⟨live,C⟩:=ax (ue f a n)
  have T:live<4294967296:=by rw[C];exact Nat.lt_of_lt_of_le (uQ _ 18) aga
  rw[show gB (nd (f.drop (a+n))) 18=live from C.symm] at v;obtain⟨P,e⟩:=ax (pK f a n)
  have ha:P.length=n:=by rw[e,pK,aao,aat];omega
  have D:∀y∈P,y.k<4294967296:=by rw[e];exact PQ s a n
  have U:aY P=true:=by rw[e,pK];simp only[uP,aaj] at d;exact d.1
  have V:=zxI (G:=G) P t live tries U D g.1 g.2 T;have e1:aB .i64 (a:Int) (n:Int)=((a+n:Nat):Int):=pQ an
  have e2:cL .i64 ((a+n:Nat):Int) 1=((a+n-1:Nat):Int):=by rw[nC]<;>omega
  have W:((IL f).drop a).take n=IL P:=by rw[Ur,Us,e,pK]
  have PU:((IL f).take (a+n)).drop a=IL P:=by rw[Us,Ur,e,pK,List.drop_take];congr 2;omega
  have CQ:((IL f).drop a).take (a+n-a)=IL P:=by rw[show a+n-a=n by omega];exact W
  have X:L[i]=(a,n):=l.symm;have c1:((a:Int)<=((a+n:Nat):Int))=True:=af8;have c2:(((a+n:Nat):Int)<=(f.length:Int))=True:=af8
  have Y:wu f t tries (a,n)=(pN P t live tries).map λx=>(jK f a n x,(oM t ⟨P,x,live⟩).1):=by rw[wu,<-e,<-C]
  simp only[FL,TF] at v V;simp(disch:=omega)[bC,aA,X,FL,TF,e1,e2,c1,c2,CQ,-aad];refine aw v ?_;simp(disch:=omega)[W];refine aw V ?_
  cases E:pN P t live tries with
  | none =>
   have qh:∀j<i+1,∀p,L[j]?=some p->wu f t tries p=none:=λj b p c=>by
    rcases abm.1 b with h|rfl
    .exact z j h p c
    .rw[O] at c;cases c;rw[Y,E];rfl
   simp(disch:=omega)[oN,A,bF,au,ak,FL,TF,-aad]
   exact λj b p q c=>qh j b (p,q) c
  | some y =>
   obtain⟨Z,w2,w3,w4⟩:=Uf D U (λr m=>(g.2 r m).2.2.2.1) E;have Lz:=(zC Z).1
   have Ut:PX f a n y=true:=by simp only[PX,R,Z,ab0,decide_eq_true_eq];omega
   have LA:=zF2 (G:=G) f y a n M (aaF Lz aga) s w4 Ut;obtain⟨r,m⟩:∃r:TR,r=⟨P,y,live⟩:=⟨_,rfl⟩
   have PY:r.ok:=by rw[m];exact⟨aaF (show P.length<=32 by omega) aga,aaF Lz aga,D,w4,T⟩
   have F:=zA3 (G:=G) t r g.1 g.2 PY
   have Gz:TV r=.agg [.vs (IL P) .no,.vs (IL y) .no,.int .u32 live]:=by rw[m];rfl
   rw[Gz] at F
   have H:wv f t tries most=some (jK f a n y,(oM t r).1):=by
    rw[N]
    have kU:L=L.take i++(a,n)::L.drop (i+1):=by have:=aaz A;rw[X] at this;rw[<-this,aa9]
    exact List.findSome?_eq_some_iff.2 ⟨L.take i,(a,n),L.drop (i+1),kU,by rw[Y,E,m];rfl,λp c=>by
     obtain⟨j,b⟩:=aba c;rw[abF] at b;split at b
     .rename_i vL;exact z j vL p b
     .cases b⟩
   rw[H];simp only[FL,TF] at LA F;simp[oN];refine aw LA ?_;simp;refine aw F ?_
   by_cases o:(oM t r).2=0
   .have I:((oM t r).2==0)=true:=by simp[o]
    simp[I,yx,oO,FL,TF]
   .have I:((oM t r).2==0)=false:=aL o
    have uR:(oM t r).1=t:=by
     unfold oM at o |-;split
     .split
      .rfl
      .split
       .rfl
       .rename_i g1 g2 g3;rw[if_pos g1,if_neg g2,if_neg g3] at o;exact absurd rfl o
     .rfl
    simp[I,uR,yx,oO,FL,TF]
 .have aC:i=L.length:=an
  subst aC
  have z8:wv f t tries most=none:=by rw[N,List.findSome?_eq_none_iff];intro p c;obtain⟨j,b⟩:=aba c;exact z j (aab.1 b).1 p b
  rw[z8];simp[yx,oO,FL,TF]
def s_(f:List af)(a:Nat)(m:List Bool):List Bool :=
 if h:a<f.length then
  if m.getD a false=true then m
  else if il (f[a]'h).op=true then m.set a true
  else if(f[a]'h).op=5 then s_ f (a+1+(f[a]'h).k) (m.set a true)
  else if bp (f[a]'h).op=true then s_ f (a+1+(f[a]'h).jf.toNat) (s_ f (a+1+(f[a]'h).jt.toNat) (m.set a true))
  else s_ f (a+1) (m.set a true)
 else m
termination_by f.length-a
def na(m:List Bool)(i:Nat):Prop:=m[i]?=some true
structure Mt (f:List af) (a:Nat) (m m':List Bool):Prop where
 len:m'.length=m.length
 mono:∀i,na m i->na m' i
 at':na m' a
 cls:∀i x,na m' i->¬na m i->f[i]?=some x->∀o∈bg x,na m' (i+1+o)
 min:∀i,na m' i->¬na m i->i=a\/∃j x o,f[j]?=some x/\na m' j/\o∈bg x/\j+1+o=i
def Jv{m:List Bool}{a i:Nat}(b:a<m.length):na (m.set a true) i↔i=a\/na m i:=by
 unfold na
 by_cases e:a=i
 .subst e;rw[List.getElem?_set_self b];simp
 .rw[List.getElem?_set_ne e];constructor
  .exact .inr
  .rintro(h|h)
   .exact absurd h.symm e
   .exact h
def Mt.refl{f:List af}{a:Nat}{m:List Bool}(h:na m a):Mt f a m m:=⟨rfl,λ_ h=>h,h,λi x b c=>absurd b c,λi b c=>absurd b c⟩
def Mt.one{f:List af}{a:Nat}{m b:List Bool}{x:af}(d:a<m.length)(n:f[a]?=some x)(p:b.length=m.length)(c:∀i,na (m.set a true) i->na b i)
  (nx:∀o∈bg x,na b (a+1+o)) (g:∀i y,na b i->¬na (m.set a true) i->f[i]?=some y->∀o∈bg y,na b (i+1+o))
  (min:∀i,na b i->¬na (m.set a true) i->∃j y o,f[j]?=some y/\na b j/\o∈bg y/\j+1+o=i):Mt f a m b:=by
 have q:na b a:=c a ((Jv d).2 (.inl rfl));refine⟨p,λi hi=>c i ((Jv d).2 (.inr hi)),q,λi y hi k l=>?_,λi hi k=>?_⟩
 .by_cases e:i=a
  .subst e;rw[n] at l;cases l;exact nx
  .exact g i y hi (λh=>((Jv d).1 h).elim e k) l
 .by_cases e:i=a
  .exact .inl e
  .exact .inr (min i hi λh=>((Jv d).1 h).elim e k)
def LB{f:List af}(z:dR f=true):∀(n a:Nat) (m:List Bool),f.length-a<=n->a<f.length->m.length=f.length->Mt f a m (s_ f a m)
 | 0,a,m,d,c,_=>by omega
 | n+1,a,m,d,c,I=>by
  have l:f[a]?=some f[a]:=aaf c;have r:=λo h=>Jw (o:=o) z l h;obtain⟨x,D⟩:=ax (f[a]);rw[<-D] at l r;rw[s_,dif_pos c,<-D]
  by_cases p:m.getD a false=true
  .rw[if_pos p];refine .refl ?_;rw[aam] at p;unfold na
   cases E:m[a]? with
   | none=>rw[E] at p;cases p
   | some b=>rw[E] at p;simp at p;rw[p]
  rw[if_neg p]
  have t:a<m.length:=an
  have C:(m.set a true).length=f.length:=by rw[abV,I]
  by_cases A:il x.op=true
  .rw[if_pos A];refine Mt.one t l ir (λ_ h=>h) (λo h=>?_) (λi y d c=>absurd d c) (λi d c=>absurd d c);simp[bg,A] at h
  rw[if_neg A]
  have F:il x.op=false:=by simpa using A
  have u:∀o,bg x=[o]->Mt f a m (s_ f (a+1+o) (m.set a true)):=λo e=>by
   have J:=r o (by rw[e];simp);have k:=LB z n (a+1+o) (m.set a true) an J C;refine Mt.one t l (by rw[k.len];simp) k.mono (λq h=>?_) k.cls (λi d c=>?_)
   .rw[e,aaV] at h;subst h;exact k.at'
   .rcases k.min i d c with rfl|h
    .exact⟨a,x,o,l,k.mono a ((Jv t).2 (.inl rfl)),by rw[e];simp,rfl⟩
    .exact h
  by_cases v:x.op=5
  .rw[if_pos v]
   have K:il (5:Int)=false:=by decide
   exact u x.k (by simp[bg,v,K])
  rw[if_neg v]
  by_cases B:bp x.op=true
  .rw[if_pos B]
   have w:bg x=[x.jt.toNat,x.jf.toNat]:=by simp[bg,F,v,B]
   have s:=LB z n (a+1+x.jt.toNat) (m.set a true) an (r _ (by rw[w];simp)) C;have g:=LB z n (a+1+x.jf.toNat) (s_ f (a+1+x.jt.toNat) (m.set a true)) an (r _ (by rw[w];simp)) (by rw[s.len,C]);refine Mt.one t l (by rw[g.len,s.len];simp) (λi h=>g.mono i (s.mono i h)) (λq h=>?_) (λi y d c G o r=>?_) (λi d c=>?_)
   .rw[w] at h;simp only[aaQ,abJ,or_false] at h
    rcases h with rfl|rfl
    .exact g.mono _ s.at'
    .exact g.at'
   .by_cases hi:na (s_ f (a+1+x.jt.toNat) (m.set a true)) i
    .exact g.mono _ (s.cls i y hi c G o r)
    .exact g.cls i y d hi G o r
   .have H:na (s_ f (a+1+x.jf.toNat) (s_ f (a+1+x.jt.toNat) (m.set a true))) a:=g.mono _ (s.mono a ((Jv t).2 (.inl rfl)))
    by_cases hi:na (s_ f (a+1+x.jt.toNat) (m.set a true)) i
    .rcases s.min i hi c with rfl|⟨j,y,o,L,M,N,O⟩
     .exact⟨a,x,_,l,H,by rw[w];simp,rfl⟩
     .exact⟨j,y,o,L,g.mono _ M,N,O⟩
    .rcases g.min i d hi with rfl|h
     .exact⟨a,x,_,l,H,by rw[w];simp,rfl⟩
     .exact h
  .rw[if_neg B];have:=u 0 (by simp[bg,F,v,B]);simpa using this
def oQ(f:List af):List Bool:=s_ f 0 (aa2 f.length false)
def zwy:∀{f:List af} {m:List Bool},f.length=m.length->(∀i x,na m i->f[i]?=some x->∀o∈bg x,na m (i+1+o))->nH f m
 | [],[],_,_=>trivial
 | [],_::_,h,_=>by simp at h
 | _::_,[],h,_=>by simp at h
 | x::f,b::m,h,c=>by
  refine⟨λd o a=>?_,zwy (by simpa using h) λi y hi e o a=>?_⟩
  .have:=c 0 x (by rw[d];rfl) rfl o a;rw[show 0+1+o=o+1 by omega] at this;exact this
  .have:=c (i+1) y hi (by simpa using e) o a;rw[show i+1+1+o=(i+1+o)+1 by omega] at this;exact this
def Uu{f:List af}(a:dR f=true):(oQ f).length=f.length/\nH f (oQ f)/\(oQ f)[0]?=some true/\LC f (oQ f):=by
 have d:0<f.length:=by
  have:=zu5 a
  cases f with
  | nil=>exact absurd rfl this
  | cons x f=>simp
 have k:=LB a f.length 0 (aa2 f.length false) an d ir
 have b:∀i,¬na (aa2 f.length false) i:=λi h=>by
  have:=aai h;rw[List.mem_replicate] at this;cases this.2
 have c:(oQ f).length=f.length:=by rw[oQ,k.len];simp
 refine⟨c,zwy c.symm λi x hi e=>k.cls i x hi (b i) e,k.at',λi hi p=>?_⟩
 rcases k.min i hi (b i) with rfl|⟨j,x,o,g,l,m,n⟩
 .omega
 .exact⟨j,x,o,g,l,m,n⟩
def prune(f:List af):List af:=dS f (oQ f)
def Uv{f:List af}(b:dR f=true):dR (prune f)=true/\(prune f).length<=f.length/\yu (prune f)/\∀d s,run d (prune f) s=run d f s:=by obtain⟨e,a,c,g⟩:=Uu b;refine⟨zAT b a c,?_,zC8 a g,λd s=>zxB d _ f _ s (abo _) a c⟩;have:=List.countP_le_length (p:=id) (l:=oQ f);rw[prune,GC f _ e.symm];omega
def Uw:∀{f:List af} {m:List Bool} {y:af},y∈dS f m->∃x∈f,y.op=x.op/\(y.k=x.k\/y.k<=x.k)
 | x::f,true::m,y,h=>by
  rw[dS,aaQ] at h
  rcases h with rfl|h
  .refine⟨x,ir,GD m x,?_⟩;unfold kV;split
   .exact .inr (Jy _ _)
   .split<;>exact .inl rfl
  .obtain⟨z,a,b⟩:=Uw h
   exact⟨z,by simp[a],b⟩
 | x::f,false::m,y,h=>by
  rw[dS] at h;obtain⟨z,a,b⟩:=Uw h
  exact⟨z,by simp[a],b⟩
 | [],_,_,h=>by simp[dS] at h
 | _::_,[],_,h=>by simp[dS] at h
def HM(f:List af)(m:List Bool):ae:=[some (.cells [FL f]),some (.cells (cb m)),some (.cells [.rs 1 0 f.length 1]),some (.cells [.fn 346 [.ptr 2 0,.ptr 0 0,.ptr 3 0]])]
def zDJ(f:List af)(m:List Bool):gV (HM f m):=by intro n a;simp only[HM,aa3,abX] at a;simp[HM,FL,az.cl,a_,V.cl,Tk.cl,show 0<n by omega,show 1<n by omega,show 2<n by omega,show 3<n by omega]
def zwz[aE G][gW G]{f:List af}(E:dR f=true)(Z:∀x∈f,x.k<4294967296)(hf:f.length<=maxLen):∀(n a:Nat) (m:List Bool) (r:ae),(∀n,r.map (Option.map (az.cl n))=r)->f.length-a<=n->a<f.length->m.length=f.length ->
  SF G 346 [.int .i64 a,.ptr 2 0,.ptr 0 0,.ptr 3 0] (HM f m++r) (.bf []) (HM f (s_ f a m)++r)
 | 0,a,m,r,_,h1,I,_=>by omega
 | n+1,a,m,r,hr,h1,I,h3=>by
  refine j_ gW.acB (aae rfl) ?_;have e:∀m,(HM f m).length=4:=λm=>rfl;have g0:∀m (s:ae),(HM f m++s)[0]?=some (some (.cells [FL f])):=λm s=>rfl;have g1:∀m (s:ae),(HM f m++s)[1]?=some (some (.cells (cb m))):=λm s=>rfl;have g2:∀m (s:ae),(HM f m++s)[2]?=some (some (.cells [.rs 1 0 f.length 1])):=λm s=>rfl;have J:∀m (s:ae),(HM f m++s)[3]?=some (some (.cells [.fn 346 [.ptr 2 0,.ptr 0 0,.ptr 3 0]])):=λm s=>rfl
  have s1:∀m K (s:ae),(HM f m++s).set 1 (some (.cells (cb K)))=HM f K++s:=λm K s=>rfl
  have kk:∀m (s:ae),(HM f m++(r++s))[4+r.length]?=s[0]?:=λm s=>by
   rw[<-aaZ];exact nJ (by simp[e])
  have k0:∀m (s:ae) y,(HM f m++(r++s)).set (4+r.length) y=HM f m++(r++s.set 0 y):=λm s y=>by
   rw[<-aaZ,sj (by simp[e]),aaZ]
  have p:∀m (s:ae),ak (4+r.length) (HM f m++(r++s))=HM f m++r:=λm s=>by
   have:=((zDJ f m).app hr).back s;rw[aaZ,aar,e] at this;exact this
  have g:0<4+r.length:=an
  have i:2<4+r.length:=an
  have j:3<4+r.length:=an
  obtain⟨R,hR⟩:=ax (s_ f a m);rw[<-hR];simp[e];refine wq (S:=Nat×List Bool) (λs=>f.length-s.1) (λs=>[(0,.int .i64 s.1),(1,.ptr 2 0),(2,.ptr 0 0),(3,.ptr 3 0)]) (λs=>HM f s.2++r) (λs=>s_ f s.1 s.2=R/\s.1<f.length/\s.2.length=f.length/\a<=s.1) (a,m) ?_ ?_
  .have:=p m [];simp at this;simp[au,e,this,hR,I,h3,g,i,j]
  rintro⟨b,u⟩ ⟨d,A,hu,EF⟩;simp only at d A hu EF |-;have L:f[b]?=some f[b]:=aaf A;have B:=λo h=>Jw (o:=o) E L h;have lE:=PZ E L;obtain⟨x,F⟩:=ax (f[b]);rw[<-F] at L B lE;have q:x.cs.length=4:=rfl;have M:x.cs.take 4=x.cs:=rfl;have dL:=rz A;rw[<-F] at dL;have N:u[b]?=some u[b]:=aaf an;obtain⟨t,ht⟩:=ax (u[b]'(by omega));rw[<-ht] at N;have C:=zF1 u b t N
  have dT:=P0 u b true an;rw[s_,dif_pos A,<-F] at d
  have uS:u.getD b false=t:=by rw[aam,N];rfl
  rw[uS] at d;have bu:=p u [];simp at bu;have l5:=hf;simp only[maxLen] at l5
  cases t with
  | true =>
   rw[if_pos rfl] at d;subst d
   simp(disch:=omega)[e,g0,g1,g2,J,C,aA,fL,bu]
  | false =>
   rw[if_neg ir] at d;simp(disch:=omega)[e,g0,g1,g2,J,C,aA,fL,dT,s1,FL,dL,q,M,kk,k0];refine aw (LD x) ?_;have O:(x.cs.drop 0).take 1=[.int .i64 x.op]:=rfl;have x1:x.cs.tail.take 1=[.int .i64 x.jt]:=rfl;have x2:(x.cs.drop 2).take 1=[.int .i64 x.jf]:=rfl;have x3:(x.cs.drop 3).take 1=[.int .u32 (x.k:Int)]:=rfl;have P:x.cs.take 1=[.int .i64 x.op]:=rfl
   have kx:∀n,a_ n x.cs=x.cs:=λn=>by simp[af.cs,a_,V.cl]
   have uK:x.k<4294967296:=Z x (by rw[F];exact aaP A)
   have v:(u.set b true).length=f.length:=by simp[hu]
   obtain⟨U,hU⟩:=ax (u.set b true);rw[<-hU] at d v |-
   by_cases H:il x.op=true
   .rw[if_pos H] at d;subst d;simp[H,p]
   rw[if_neg H] at d
   have D:il x.op=false:=by simpa using H
   have Q:∀{c:Nat},b<c->c<f.length->f.length-c<f.length-b:=λh1 I=>by omega
   by_cases l:x.op=5
   .rw[if_pos l] at d
    have Jx:il (5:Int)=false:=by decide
    have w:=B x.k (by simp[bg,l,Jx])
    have c1:eO .i64 (x.k:Int)=(x.k:Int):=by rw[GF]<;>omega
    have T:aB .i64 (b:Int) (x.k:Int)=((b+x.k:Nat):Int):=by rw[eB]<;>omega
    have W:aB .i64 ((b+x.k:Nat):Int) 1=((b+1+x.k:Nat):Int):=by rw[eB]<;>omega
    simp(disch:=omega)[D,l,Jx,kk,O,P,x3,q,c1,T,W,au,e,p,d,w,v,g,i,j,-aad];exact⟨(b+1+x.k,U),Q an w,⟨d,w,v,by simp only;omega⟩,by simp[au,e,g,i,j,-aad],p U _⟩
   rw[if_neg l] at d
   by_cases z:bp x.op=true
   .rw[if_pos z] at d;obtain⟨b1,b2,b3,b4⟩:=lE z
    have me:bg x=[x.jt.toNat,x.jf.toNat]:=by simp[bg,D,l,z]
    have th:=B x.jt.toNat (by rw[me];simp);have mC:=B x.jf.toNat (by rw[me];simp)
    have X:aB .i64 (b:Int) 1=((b+1:Nat):Int):=by rw[eB]<;>omega
    have T:aB .i64 ((b+1:Nat):Int) x.jt=((b+1+x.jt.toNat:Nat):Int):=by rw[eB]<;>omega
    have W:aB .i64 (b:Int) x.jf=((b+x.jf.toNat:Nat):Int):=by rw[eB]<;>omega
    have a3:aB .i64 ((b+x.jf.toNat:Nat):Int) 1=((b+1+x.jf.toNat:Nat):Int):=by rw[eB]<;>omega
    have Y:=aL l;have ih:=zwz E Z hf n (b+1+x.jt.toNat) U (r++[some (.cells x.cs)]) (λn=>by simp[hr,az.cl,kx]) an th v;have k:=LB E n (b+1+x.jt.toNat) U an th v;simp(disch:=omega)[D,Y,kk,O,P,q,M,au,e,g,i,j,-aad];refine aw (zD x) ?_;simp(disch:=omega)[z,kk,x1,J,X,T,q,e,au,g,i,j,-aad];refine Jz (args:=[.int .i64 ((b+1+x.jt.toNat:Nat):Int)]) (cap:=[.ptr 2 0,.ptr 0 0,.ptr 3 0]) ih ?_
    simp(disch:=omega)[kk,x2,W,a3,q,e,au,g,i,j,-aad];exact⟨(b+1+x.jf.toNat,s_ f (b+1+x.jt.toNat) U),Q an mC,⟨d,mC,by simp only[k.len,v],by simp only;omega⟩,by simp[au,e,g,i,j,-aad],p _ _⟩
   .rw[if_neg z] at d
    have LF:bp x.op=false:=by simpa using z
    have w:=B 0 (by simp[bg,D,l,LF]);have Y:=aL l
    have X:aB .i64 (b:Int) 1=((b+1:Nat):Int):=by rw[eB]<;>omega
    simp(disch:=omega)[D,Y,kk,O,P,q,M,au,e,g,i,j,-aad];refine aw (zD x) ?_;simp(disch:=omega)[LF,kk,X,q,e,au,g,i,j,-aad];exact⟨(b+1,U),Q an w,⟨d,w,v,by simp only;omega⟩,by simp[au,e,g,i,j,-aad],p U _⟩
def zFi[aE G][aD G][gW G]{f:List af}(a:dR f=true)(b:∀x∈f,x.k<4294967296)(h:f.length<=4096) :
  FP G 347 [FL f] (.bf [.vs (iR (oQ f)) .no,.int .i64 0]):=by
 refine bA gW.acC (aae rfl) ?_;have c:f.length<=maxLen:=aaF h aga;have d:=LG (G:=G) f c b;rw[a] at d;simp[FL];refine aw d ?_
 have i:0<f.length:=by
  have:=zu5 a
  cases f with
  | nil=>exact absurd rfl this
  | cons x f=>simp
 have k:=zwz (G:=G) a b c f.length 0 (aa2 f.length false) [] (λn=>rfl) an i ir;simp(disch:=omega)[FL,au,aA];refine Jz (args:=[.int .i64 ((0:Nat):Int)]) (cap:=[.ptr 2 0,.ptr 0 0,.ptr 3 0]) k ?_;have e:(oQ f).length=f.length:=(Uu a).1;have g:=UB (oQ f);rw[e] at g;rw[show s_ f 0 (aa2 f.length false)=oQ f from rfl];simp[HM,e,g]
def P2{m:List Bool}{i:Nat}{t:Bool}(h:m[i]?=some t):bM m (i+1)=bM m i+(if t=true then 1 else 0):=by
 rw[bM,bM,aaq,h,aaJ,List.countP_append]
 cases t<;>simp
def zDK{m:List Bool}{i:Nat}(h:m[i]?=some true)(o:Nat):bM m (i+1+o)=bM m i+1+bM (m.drop (i+1)) o:=by rw[UC,P2 h];simp
def nK(f:List af)(m:List Bool)(i:Nat):List af:=(dS f m).take (bM m i)
def zDL{f:List af}{m:List Bool}{i:Nat}(h:m[i]?=some false):nK f m (i+1)=nK f m i:=by rw[nK,nK,P2 h];rfl
def zA9{f:List af}{m:List Bool}{i:Nat}{x:af}(b:f.length=m.length)(c:f[i]?=some x)(h:m[i]?=some true):nK f m (i+1)=nK f m i++[kV (m.drop (i+1)) x]:=by
 have a:=P3 f m i b;obtain⟨d,rfl⟩:=aab.1 c;obtain⟨g,e⟩:=aab.1 h;rw[aaz d,aaz g,e,dS] at a
 have j:(dS f m)[bM m i]?=some (kV (m.drop (i+1)) f[i]):=by rw[<-List.head?_drop,a];rfl
 rw[nK,nK,P2 h,if_pos rfl,aaq,j];rfl
def zBa{f:List af}{m:List Bool}(a:f.length=m.length):nK f m f.length=dS f m:=by rw[nK,aas];rw[GC f m a,a,bM,aaH];exact abo _
def zBb(f:List af)(m:List Bool)(i:Nat):(nK f m i).length<=i:=by rw[nK,aao];have:=Jy m i;omega
def nM(m:List Bool)(i:Nat):List Nat:=(aag m.length).map λj=>if j<i then bM m j else 0
def zt8(m:List Bool)(i:Nat):(nM m i).length=m.length:=by simp[nM]
def zBc{m:List Bool}{i:Nat}(h:i<m.length):(nM m i).set i (bM m i)=nM m (i+1):=by
 apply abT
 .simp[nM]
 intro j b c;simp only[nM,abV,List.length_map,List.length_range] at b c;rw[List.getElem_set];simp only[nM,List.getElem_map,List.getElem_range]
 by_cases e:i=j
 .subst e;simp
 .rw[if_neg e]
  by_cases a:j<i
  .rw[if_pos a,if_pos an]
  .rw[if_neg a,if_neg an]
def zt9{m:List Bool}{j:Nat}(h:j<m.length):(nM m m.length)[j]?=some (bM m j):=by rw[nM,abG,abx h];simp[h]
def zFj[gW G]{m:List Bool}{i o:Nat}(l:m.length<=4096)(hi:m[i]?=some true)(d:i+1+o<m.length)(z:az)(y:List V) :
  bD G (.F 348 [.int .i64 i,.int .i64 o,.ptr 1 0] [some (.cells (av .i64 (nM m m.length))),some (.cells [.rs 0 0 m.length 1]),some z,some (.cells y)] (.int .i64 (bM (m.drop (i+1)) o:Nat))
   [some (.cells (av .i64 (nM m m.length))),some (.cells [.rs 0 0 m.length 1]),some z,some (.cells y)]):=by
 refine eV gW.acD (aae rfl) ?_;have e:aB .i64 (i:Int) 1=((i+1:Nat):Int):=bF an;have f:aB .i64 ((i+1:Nat):Int) (o:Int)=((i+1+o:Nat):Int):=pQ an;have n:=Jy m (i+1+o);have p:=zDK hi o;have a:=CR .i64 (zt9 (m:=m) (j:=i+1+o) d);have b:=CR .i64 (zt9 (m:=m) (j:=i) an)
 have g:cL .i64 (bM m (i+1+o):Int) (bM m i:Int)=((bM m (i+1+o)-bM m i:Nat):Int):=by rw[nC]<;>omega
 have h:cL .i64 ((bM m (i+1+o)-bM m i:Nat):Int) 1=((bM (m.drop (i+1)) o:Nat):Int):=by rw[nC]<;>omega
 obtain⟨N,c⟩:=ax (nM m m.length)
 have k:N.length=m.length:=by rw[c,zt8]
 rw[<-c] at a b |-;simp(disch:=omega)[e,f,a,b,g,h,fL,aA,k,-aad]
def zFk{o:Int}(h:bp o=true):il o=false:=by
 cases e:il o with
 | false=>rfl
 | true =>
  simp only[il,Bool.or_eq_true,beq_iff_eq,decide_eq_true_eq] at e
  rcases e with e|e<;>(rw[e] at h;revert h;decide)
def zBd[aE G][aD G][gW G]{f:List af}(A:dR f=true)(V:∀x∈f,x.k<4294967296)(hf:f.length<=4096) :
  FP G 349 [FL f] (.bf [.vs (IL (prune f)) .no,.int .i64 0]):=by
 refine bA gW.acE (aae rfl) ?_;obtain⟨W,jU,F,_⟩:=Uu A;simp[FL];refine aw (zFi A V hf) ?_;obtain⟨m,X⟩:=ax (oQ f)
 have P4:prune f=dS f m:=by rw[prune,X]
 rw[<-X] at W jU F |-;have s:f.length=m.length:=W.symm
 have H:m.length<=4096:=an
 have iv:(iR m).length=m.length:=by simp[iR]
 simp(disch:=omega)[FL,aA,iv];obtain⟨N,n⟩:∃N:Nat->List Nat,∀j,N j=nM m j:=⟨_,λ_=>rfl⟩
 have I:∀j,(N j).length=m.length:=λj=>by rw[n,zt8]
 have LI:aR m.length=N 0:=by
  rw[n,nM,aR]
  apply abT<;>simp
 refine aN m.length (λi=>[(0,FL f),(4,.vs (iR m) .no),(6,.ptr 1 0),(7,.int .i64 (bM m i:Nat)),(25,.vs (iR m) .no),(26,.int .i64 m.length),(27,.int .i64 i)])
  (λi=>[some (.cells (av .i64 (N i))),some (.cells [.rs 0 0 m.length 1])]) (λ_=>True) ?_ ?_
 .simp[au,ak,FL,LI,s,GH]
 intro i hi _
 by_cases a:i<m.length
 .obtain⟨t,u⟩:=ax (m[i])
  have p:m[i]?=some t:=by rw[aaf a,u]
  have v:(iR m)[i]?=some [.bool t]:=by simp[p]
  have r:(iR m)[i]' an=[.bool t]:=by simp[iR,u]
  have d:=xJ .i64 (N i) i (bM m i) (by rw[I];exact a);rw[n i,zBc a,<-n (i+1),<-n i] at d;have B:=P2 p;have w:=Jy m i;have a1:aB .i64 (bM m i:Int) 1=((bM m i+1:Nat):Int):=bF an
  cases t with
  | true =>
   simp(disch:=omega)[bC,aA,fL,v,r,d,I,a,bF,a1,B,au,ak,FL,-aad]
  | false =>
   simp(disch:=omega)[bC,aA,fL,v,r,d,I,a,bF,B,au,ak,FL,-aad]
 have J:i=m.length:=an
 subst J;obtain⟨T,e⟩:∃T:Nat->List af,∀j,T j=nK f m j:=⟨_,λ_=>rfl⟩
 have pd:T 0=[]:=by rw[e,nK,GH,List.take_zero]
 have K:∀j,(T j).length<=j:=λj=>by rw[e];exact zBb f m j
 simp(disch:=omega)[au,ak,FL,-aad]
 refine aN m.length (λi=>[(4,.vs (iR m) .no),(10,.fn 348 [.ptr 1 0]),(11,.vs (IL (T i)) (.own 2)),(41,FL f),(42,.int .i64 m.length),(43,.int .i64 i)])
  (λi=>[some (.cells (av .i64 (N m.length))),some (.cells [.rs 0 0 m.length 1]),some (.zone (T i).length)]) (λ_=>True) ?_ ?_
 .simp[au,ak,FL,pd,s]
 intro i hi _
 by_cases a:i<m.length
 .obtain⟨t,u⟩:=ax (m[i])
  have p:m[i]?=some t:=by rw[aaf a,u]
  have r:(iR m)[i]' an=[.bool t]:=by simp[iR,u]
  obtain⟨x,c⟩:=ax (f[i]'(by omega));have C:=rz (f:=f) (i:=i) an;rw[<-c] at C;have c:=c.symm
  have L:f[i]?=some x:=by rw[aaf an,c]
  have ka:x∈f:=c▸aaP _;have kg:=V x ka;have lE:=PZ A L;have M:=λo h=>Jw (o:=o) A L h;have D:x.cs=[.int .i64 x.op,.int .i64 x.jt,.int .i64 x.jf,.int .u32 (x.k:Int)]:=rfl;have Y:=zD (G:=G) x;simp[IV,D] at Y;have ku:=K i
  cases t with
  | false =>
   have O:T (i+1)=T i:=by rw[e,e];exact zDL p
   simp(disch:=omega)[bC,aA,fL,r,C,c,D,O,a,bF,au,ak,FL,-aad]
  | true =>
   have Z:T (i+1)=T i++[kV (m.drop (i+1)) x]:=by rw[e,e];exact zA9 s L p
   have P:(T (i+1)).length=(T i).length+1:=by rw[Z];simp
   have Q:∀y:af,y=kV (m.drop (i+1)) x->IL (T i)++[y.cs]=IL (T (i+1)):=λy hy=>by rw[Z,hy];exact Lk _ _
   have E:∀o:Nat,i+1+o<m.length->_:=λo h=>zFj (G:=G) H p h (.zone (T i).length) x.cs;rw[<-n] at E
   by_cases g:x.op=5
   .have R:(x.op==5)=true:=by simp[g]
    have Jx:il (5:Int)=false:=by decide
    have B:=GF x.k kg
    have oA:i+1+x.k<m.length:=by have:=M x.k (by simp[bg,g,Jx]);omega
    have l:=E x.k oA;have w:=Jy (m.drop (i+1)) x.k
    have uT:eO .u32 ((bM (m.drop (i+1)) x.k:Nat):Int)=((bM (m.drop (i+1)) x.k:Nat):Int):=by unfold eO;exact uN an
    have b:=Q ⟨x.op,x.jt,x.jf,bM (m.drop (i+1)) x.k⟩ (by simp[kV,g]);simp only[af.cs] at l b;obtain⟨q,S⟩:=ax (bM (m.drop (i+1)) x.k);rw[<-S] at l b uT w;simp(disch:=omega)[bC,aA,fL,r,C,c,D,R,B,FL,-aad];refine kF l ir ?_;simp(disch:=omega)[ak,uT,aA,b,P,a,bF,au,-aad]
   have R:(x.op==5)=false:=aL g;simp(disch:=omega)[bC,aA,fL,r,C,c,D,R,FL,-aad];refine aw Y ?_;cases z:bp x.op
   .have b:=Q x (by simp[kV,g,z]);simp only[af.cs] at b;simp(disch:=omega)[aA,b,P,a,bF,au,ak,-aad]
   .obtain⟨b1,b2,b3,b4⟩:=lE z;have oP:il x.op=false:=zFk z
    have me:bg x=[x.jt.toNat,x.jf.toNat]:=by simp[bg,oP,g,z]
    have lP:=M x.jt.toNat (by rw[me];simp);have iI:=M x.jf.toNat (by rw[me];simp);have l:=E x.jt.toNat an;have U:=E x.jf.toNat an;have b:=Q ⟨x.op,(bM (m.drop (i+1)) x.jt.toNat:Nat),(bM (m.drop (i+1)) x.jf.toNat:Nat),x.k⟩ (by simp[kV,g,z])
    have j1:((x.jt.toNat:Nat):Int)=x.jt:=an
    have j2:((x.jf.toNat:Nat):Int)=x.jf:=an
    simp only[af.cs,j1,j2] at l U b;obtain⟨q,S⟩:=ax (bM (m.drop (i+1)) x.jt.toNat);obtain⟨q2,GI⟩:=ax (bM (m.drop (i+1)) x.jf.toNat);rw[<-S] at l b;rw[<-GI] at U b;simp;refine kF l (by simp[ak]) ?_;simp[ak];refine kF U (by simp[ak]) ?_;simp(disch:=omega)[ak,aA,b,P,a,bF,au,-aad]
 .have J:i=m.length:=an
  subst J
  have O:T m.length=prune f:=by rw[e,<-s,zBa s,P4]
  simp[O]
noncomputable def jh(f:List af)(t:List TR)(a tries most:Int):(List af×List TR)×Nat×Bool :=
 rN (lD tries 0 1000) (lD most 0 32) (lD a 0 1000).toNat (prune f) (mb t)
def zyK(t:List TR):cF (mb t)=true:=by
 unfold mb;split
 .assumption
 .rfl
def P5{t:List TR}(h:cF t=true)(b:kE t):PS t:=by
 refine⟨by have:=(Gw h).2;omega,λr a=>?_⟩
 have c:r.may=true:=by simp only[cF,aaj] at h;exact aaM.1 h.1.1 r a
 obtain⟨d,e⟩:=CN c;obtain⟨f,g,i⟩:=b r a;exact⟨aaF d aga,aaF e aga,f,g,i⟩
def UD{f:List af}(a:∀x∈f,x.k<4294967296):∀x∈prune f,x.k<4294967296:=by intro x b;obtain⟨y,c,_,d⟩:=Uw b;have:=a y c;omega
def zvS[ef G][dM G][aE G][aD G][bQ G][dC G][dp G][aQ G][db G][dc G][b_ G][cA G][bP G][ar G][U:eg G][cG G][aM G][di G][cd G][cU G][eU G][gC G][fI G][fJ G][jB G][dj G][fK G][eG G][eA G][cS G][gW G][fq G]
  (f:List af) (t:List TR) (d tries most:Int) (g:dR f=true) (r:∀x∈f,x.k<4294967296) (u:PS t) (I:kE (mb t)) :
  FP G 365 [FL f,TF t,.agg [.int .i64 d,.int .i64 tries,.int .i64 most]] (.bf [.agg (oO (jh f t d tries most).1.1 (jh f t d tries most).1.2 (jh f t d tries most).2.1 (jh f t d tries most).2.2),.int .i64 0]):=by
 refine bA fq.acF (aae rfl) ?_;have J:=Jr g;have v:=zBd (G:=G) g r J;obtain⟨p1,p2,_,_⟩:=Uv g;have p3:=UD r;have w:=zA8 (G:=G) d tries most;have y:=zDI (G:=G) t u.1 u.2;have K:=zyK t;obtain⟨e,z⟩:=ax (lD tries 0 1000);obtain⟨a,h⟩:=ax (lD most 0 32)
 have L:0<=a/\a<=32:=by rw[h];unfold lD;omega
 obtain⟨R,A⟩:∃R:Nat,lD d 0 1000=R:=⟨(lD d 0 1000).toNat,by unfold lD;omega⟩
 have M:R<=1000:=by
  have:lD d 0 1000<=1000:=by unfold lD;omega
  omega
 rw[jh,<-z,<-h,A,Int.toNat_natCast];rw[<-z,<-h,A] at w;generalize prune f=F at *;generalize mb t=T at *;obtain⟨Q,B⟩:=ax (rN e a R F T);rw[<-B];simp only[FL,TF] at v y;simp[FL,TF];refine aw v ?_;simp;refine aw w ?_;simp;refine aw y ?_;simp[au]
 refine wq (S:=Nat×List af×List TR) (λs=>R-s.1) (λs=>[(5,.ptr 0 0),(6,.ptr 1 0),(9,.ptr 2 0),(27,.int .i64 R),(28,.int .i64 s.1)])
  (λs=>[some (.cells [.int .i64 R,.int .i64 e,.int .i64 a]),some (.cells [.vs [] .full,.vs [] .full,.int .i64 0,.bool false]),some (.cells (oO s.2.1 s.2.2 s.1 false))])
  (λs=>s.1<=R/\(rN e a (R-s.1) s.2.1 s.2.2).1=Q.1/\s.1+(rN e a (R-s.1) s.2.1 s.2.2).2.1=Q.2.1/\(rN e a (R-s.1) s.2.1 s.2.2).2.2=Q.2.2/\dR s.2.1=true/\(∀x∈s.2.1,x.k<4294967296)/\kE s.2.2/\cF s.2.2=true) (0,F,T) ?_ ?_
 .simp[au,ak,oO,FL,TF,B,p1,I,K];exact p3
 rintro⟨i,C,D⟩ ⟨hi,q1,c,b,j,l,m,n⟩;simp only at hi q1 c b j l m n |-;have E:=zxJ (G:=G) C D R e a j l (P5 n m) L;simp only[FL,TF] at E
 by_cases V:i<R
 .obtain⟨k,N⟩:∃k,R-i=k+1:=⟨R-i-1,an⟩;rw[N,rN] at q1 c b;have O:((i:Int)<(R:Int))=True:=af8;simp[O,oO,FL,TF];refine aw E ?_
  cases o:wv C D e a with
  | none =>
   rw[o] at q1 c b;simp only at q1 c b
   simp[yx,oO,FL,TF,<-q1,<-c,<-b]
  | some q =>
   rw[o] at q1 c b;simp only at q1 c b;have kk:=PN j l m o;simp[yx,oO,FL,TF];have H:aB .i64 (i:Int) 1=((i+1:Nat):Int):=bF an
   have p:R-(i+1)=k:=an
   refine⟨(i+1,q.1,q.2),by simp only;omega,⟨by simp only;omega,by simp only[p];exact q1,by simp only[p];omega,by simp only[p];exact b,kk.sound,kk.k,kk.tk,kk.dq n⟩,?_,?_⟩
   .rw[H];simp[au,-aad]
   .rw[H];simp[ak,-aad]
 .have P:i=R:=an
  subst P;rw[ab3,rN] at q1 c b;simp only at q1 c b;simp[oO,FL,TF,<-q1,<-c,<-b]
def jL(v:Nat):List Bool:=(aag 32).map λi=>v.testBit i
def P7(v:Nat){j:Nat}(h:j<32):(jL v)[j]?=some (v.testBit j):=by simp[jL,h]
def P8(v:Nat):(jL v).length=32:=by simp[jL]
def UG[f_ G](v:Nat)(m:v<4294967296):FP G 515 [.int .u64 v] (.vs (iR (jL v)) .no):=by
 refine bA f_.acG (aae rfl) ?_;obtain⟨Q,c⟩:∃Q:Nat->Nat,∀i,Q i=v/2^i:=⟨_,λ_=>rfl⟩
 have e:Q 0=v:=by rw[c];simp
 have d:∀i,Q i/2=Q (i+1):=λi=>by rw[c,c,abr,<-abA]
 have f:∀i,Q i<=v:=λi=>by rw[c];exact abn _ _
 simp;refine aN 32 (λi=>[(0,.int .u64 (Q i:Nat)),(3,.vs (iR ((aag i).map λj=>v.testBit j)) (.own 0)),(4,.int .i64 i)]) (λi=>[some (.zone i)]) (λ_=>True) ?_ ?_
 .simp[au,ak,e]
 intro i hi _
 by_cases g:i<32
 .have h:iu (Q i:Int) 2=((Q i%2:Nat):Int):=zz (b:=2)
  have k:gH .u64 (Q i:Int) 2=(Q (i+1):Int):=by have:=f i;have:=LJ (a:=Q i) (b:=2) an;rw[d] at this;exact this
  have l:(((Q i%2:Nat):Int)==1)=v.testBit i:=by rw[aa4,<-c,pS];exact decide_eq_decide.2 an
  simp(disch:=omega)[bC,h,k,l,g,aA,bF,au,ak,abY,-aad,-aaA]
 .have:i=32:=an
  subst this;simp[jL]
def zvT[f_ G](v:Nat)(o:v<4294967296):FP G 516 [.vs (iR (jL v)) .no] (.int .u32 v):=by
 refine bA f_.acH (aae rfl) ?_;obtain⟨Q,b⟩:∃Q:Nat->Nat,∀i,Q i=v/2^(32-i):=⟨_,λ_=>rfl⟩;obtain⟨N,c⟩:∃N:Nat->Int,∀i,N i=31-(i:Int):=⟨_,λ_=>rfl⟩
 have p:Q 0=0:=by rw[b];exact abU o
 have e:Q 32=v:=by rw[b];simp
 have f:∀i,Q i<=v:=λi=>by rw[b];exact abn _ _
 have x:=P8 v
 have q:N 0=31:=by rw[c];rfl
 have r:N 32=-1:=by rw[c];rfl
 simp;refine aN 32 (λi=>[(0,.vs (iR (jL v)) .no),(3,.int .u64 (Q i:Nat)),(4,.int .i64 (N i))]) (λ_=>[]) (λ_=>True) ?_ ?_
 .simp[au,ak,p,q]
 intro i hi _
 by_cases g:i<32
 .obtain⟨j,h⟩:=ax (31-i)
  have k:N i=(j:Int):=by rw[c];omega
  have l:cL .i64 (j:Int) 1=N (i+1):=by rw[nC an an,c];omega
  have a:Q (i+1)=Q i*2+(if v.testBit j then 1 else 0):=by
   have s:Q (i+1)=v/2^j:=by rw[b,h];congr 2;omega
   have t:Q i=v/2^j/2:=by rw[b,abr,<-abA,h];congr 2;omega
   rw[s,t,aa4];simp only[decide_eq_true_eq]
   split<;>omega
  have y:=f i;have z:=f (i+1)
  have m:da .u64 (Q i:Int) 2=((Q i*2:Nat):Int):=by unfold da;rw[show((Q i:Int)*2)=((Q i*2:Nat):Int) by omega];exact IntWalk.u64_in _ ⟨an,an⟩
  have u:aB .u64 ((Q i*2:Nat):Int) 1=((Q i*2+1:Nat):Int):=by unfold aB;rw[show(((Q i*2:Nat):Int)+1)=((Q i*2+1:Nat):Int) by omega];exact IntWalk.u64_in _ ⟨an,an⟩
  obtain⟨_,d⟩:=aab.1 (P7 v (j:=j) an);cases n:v.testBit j
  .rw[n] at a d;simp only[abE,if_false,aa_] at a;simp(disch:=omega)[k,d,m,a,l,g,au,ak,-aad,-aan]
  .rw[n] at a d;simp only[if_true] at a;simp(disch:=omega)[k,d,m,u,a,l,g,au,ak,-aad,-aan]
 .have:i=32:=an
  subst this;have w:eO .u32 (v:Int)=(v:Int):=IntWalk.u32_in _ ⟨an,an⟩;simp[e,r,w]
def UJ[f_ G](a b:Nat):FP G 517 [.vs (iR (jL a)) .no,.vs (iR (jL b)) .no] (.vs (iR (jL (a ^^^ b))) .no):=by
 refine bA f_.acI (aae rfl) ?_;have g:=P8 a;have h:=P8 b;simp;refine aN 32 (λi=>[(0,.vs (iR (jL a)) .no),(1,.vs (iR (jL b)) .no),(5,.vs (iR ((aag i).map λj=>(a ^^^ b).testBit j)) (.own 0)),(6,.int .i64 i)]) (λi=>[some (.zone i)]) (λ_=>True) ?_ ?_
 .simp[au,ak]
 intro i hi _
 by_cases c:i<32
 .obtain⟨_,d⟩:=aab.1 (P7 a c);obtain⟨_,e⟩:=aab.1 (P7 b c)
  have f:(!a.testBit i==b.testBit i)=(a.testBit i ^^ b.testBit i):=by cases a.testBit i<;>cases b.testBit i<;>rfl
  simp(disch:=omega)[bC,d,e,c,f,aA,bF,au,ak,abY,-aad]
 .have:i=32:=an
  subst this;simp[jL]
def zyL{s:Nat}(h:s<4294967296):(jL s).drop 1++[false]=jL (s/2):=by have:s.testBit 32=false:=Nat.testBit_lt_two_pow h;simp[jL,aag,aag.loop,Nat.testBit_div_two,this]
def zDM{r:Nat}(h:r<4294967296):r ^^^ 4294967295=4294967295-r:=by
 have q:(abZ 32 ^^^ ab2 32 r).toNat=2^32-1-r:=by rw[abB,abK,aaK,aal (show r<2^32 from h)]
 rw[abl,abv,aaK,aal (show r<2^32 from h)] at q;rw[Nat.xor_comm];exact q
def zBe[f_ G](b:List Nat)(v:∀x∈b,x<256)(P:b.length<=1000000):FP G 518 [.vs (ah .u8 b) .no] (.int .u32 (s6 b:Nat)):=by
 refine bA f_.acJ (aae rfl) ?_;obtain⟨R,c⟩:∃R:Nat->Nat,∀i,R i=(b.take i).foldl Et 4294967295:=⟨_,λ_=>rfl⟩
 have D:R 0=4294967295:=by rw[c];rfl
 have E:Gu b=R b.length:=by rw[c,aaH];rfl
 have l:∀i,R i<4294967296:=λi=>by rw[c];exact T7 _ _ aga (λx d=>v x (aap d))
 have F:∀i x,b[i]?=some x->R (i+1)=Et (R i) x:=λi x h=>by rw[c,c,aaq,h,aaJ,abI];rfl
 have w:=UG (G:=G) 4294967295 aga;have H:=UG (G:=G) 3988292384 aga;rw[s6,E,<-zDM (l _)];simp;refine aw w ?_;simp;refine aN b.length (λi=>[(0,.vs (ah .u8 b) .no),(3,.vs (iR (jL (R i))) .no),(4,.int .i64 i)]) (λ_=>[]) (λ_=>True) ?_ ?_
 .simp[au,ak,D]
 intro i hi _
 rcases aaC hi with a|y
 .subst a;simp;refine aw w ?_;simp;refine aw (UJ _ _) ?_;simp;refine aw (zvT _ (aaR (n:=32) (l _) aga)) ?_;simp
 .obtain⟨x,d⟩:∃x,b[i]?=some x:=⟨_,aaf y⟩;obtain⟨_,I⟩:=aab.1 d;have Q:=v x (aai d);have J:((i:Int)<(b.length:Int))=True:=af8;have K:eO .u64 (x:Int)=(x:Int):=IntWalk.u64_in _ ⟨an,an⟩;have e:=F i x d;obtain⟨r,o⟩:=ax (R i ^^^ x)
  have L:r<4294967296:=by rw[o];exact aaR (n:=32) (l i) an
  have z:=UJ (G:=G) (R i) x;rw[<-o] at z;rw[Et,<-o] at e;simp(disch:=omega)[J,I,K];refine aw (UG x an) ?_;simp;refine aw z ?_;simp;refine aN 8 (λk=>[(0,.vs (ah .u8 b) .no),(3,.vs (iR (jL (zW k r))) .no),(4,.int .i64 i),(5,.int .i64 k)]) (λ_=>[]) (λ_=>True) ?_ ?_
  .simp[au,ak,zW]
  intro k M _
  rcases aaC M with a|A
  .subst a;simp(disch:=omega)[au,ak,bF,y,e,-aad]
  .obtain⟨s,p⟩:=ax (zW k r)
   have N:s<4294967296:=by rw[p];exact PB L k
   have a:zW (k+1) r=s/2 ^^^ 3988292384*(s%2):=by rw[p];rfl
   have ls:=P8 s;have q:=zyL N;obtain⟨_,f⟩:=aab.1 (P7 s (j:=0) aga);obtain⟨T,u⟩:=ax ((jL s).drop 1)
   have g:T.length=31:=by rw[u,aat,ls]
   have hd:(iR (jL s)).tail=iR T:=by rw[u];simp[iR]
   have B:iR T≠[]:=λh=>by
    have:=congrArg abp h;rw[znV,g] at this;cases this
   have C:(iR T).take 31=iR T:=aas (by rw[znV,g];decide);rw[<-u] at q
   have O:s%2=0/\s.testBit 0=false\/s%2=1/\s.testBit 0=true:=by rw[Nat.testBit_zero];simp only[decide_eq_false_iff_not,decide_eq_true_eq];omega
   rw[<-p]
   rcases O with⟨m,t⟩|⟨m,t⟩
   .rw[m,Nat.mul_zero,Nat.xor_zero] at a;rw[t] at f;simp(disch:=omega)[bC,ls,f,hd,B,C,g,q,a,A,bF,au,ak,-aad]
   .rw[m,Nat.mul_one] at a;rw[t] at f;simp(disch:=omega)[bC,ls,f,hd,B,C,g,q,-aad];refine aw H ?_;simp;refine aw (UJ _ _) ?_;simp(disch:=omega)[a,A,bF,au,ak,-aad]
def zyM[f_ G](b:List Nat)(l:∀x∈b,x<256)(n:b.length<=1000000):FP G 519 [.vs (ah .u8 b) .no] (.vs (ah .u8 (si b)) .no):=by
 refine bA f_.acK (aae rfl) ?_;have g:=zBe (G:=G) b l n;obtain⟨c,e⟩:=ax (s6 b)
 have s:c<4294967296:=by rw[e,s6];omega
 have h:eO .u64 (c:Int)=(c:Int):=IntWalk.u64_in _ ⟨an,an⟩;have i:gH .u64 (c:Int) 256=((c/256:Nat):Int):=LJ (b:=256) an;have a:gH .u64 (c:Int) 65536=((c/65536:Nat):Int):=LJ (b:=65536) an;have d:gH .u64 (c:Int) 16777216=((c/16777216:Nat):Int):=LJ (b:=16777216) an;have m:∀v:Nat,iu (v:Int) 256=((v%256:Nat):Int):=λv=>zz (b:=256);have o:(b.length<=140737488355328)=True:=af8
 have p:(b.length+4<=140737488355328)=True:=af8
 have q:(∀f∈ah .u8 b,f.length=1)=True:=by simp only[eq_iff_iff,iff_true];intro f j;simp only[ah,aa0] at j;obtain⟨_,_,rfl⟩:=j;rfl
 have r:ah .u8 (si b)=ah .u8 b++[[.int .u8 ((c%256:Nat):Int)],[.int .u8 ((c/256%256:Nat):Int)],[.int .u8 ((c/65536%256:Nat):Int)],[.int .u8 ((c/16777216%256:Nat):Int)]]:=by simp[si,<-e,cO,aag,aag.loop,ah]
 rw[r];rw[<-e] at g;simp;refine aw g ?_
 by_cases k:ah .u8 b=[]
 .simp[k,h,i,a,d,m,BP,-aaO,-aaA];omega
 .simp[k,h,i,a,d,m,BP,o,p,q,-aaO,-aaA];omega
def wy(a b:Nat):iu (a:Int) (b:Int)=((a%b:Nat):Int):=zz
def JB{a b:Nat}(d:a<4294967296):gH .u32 (a:Int) (b:Int)=((a/b:Nat):Int):=by have h:a/b<=a:=abn _ _;unfold gH;have c:((a:Int).tdiv (b:Int))=((a/b:Nat):Int):=rfl;rw[c];exact IntWalk.u32_in _ ⟨Int.natCast_nonneg _,by rw[Int.ofNat_le.symm] at h;omega⟩
def zDN[kj G](x:af)(j:ij x=true)(v:x.k<4294967296):FP G 366 [IV x] (.vs (ah .u8 (fc x)) .no):=by
 refine bA kj.acL (aae rfl) ?_;obtain⟨w,y,z⟩:=Pv j;obtain⟨o,d⟩:∃o:Nat,x.op=o:=⟨x.op.toNat,an⟩;obtain⟨e,f⟩:∃o:Nat,x.jt=o:=⟨x.jt.toNat,an⟩;obtain⟨g,h⟩:∃o:Nat,x.jf=o:=⟨x.jf.toNat,an⟩;obtain⟨k,i⟩:∃k,x.k=k:=⟨_,rfl⟩
 have l:x.cs=[.int .i64 o,.int .i64 e,.int .i64 g,.int .u32 k]:=by rw[af.cs,d,f,h,i]
 have m:fc x=[o%256,o/256%256,e%256,g%256]++cO k 4:=by rw[fc,d,f,h,i];rfl
 have a:o/256%256=0:=by have:o/256=0:=abU an;rw[this]
 have c:k<4294967296:=an
 have n:iu (o:Int) 256=((o%256:Nat):Int):=wy o 256;have p:iu (k:Int) 256=((k%256:Nat):Int):=wy k 256;have q1:gH .u32 (k:Int) 256=((k/256:Nat):Int):=JB (b:=256) c;have q:gH .u32 (k:Int) 65536=((k/65536:Nat):Int):=JB (b:=65536) c;have r:gH .u32 (k:Int) 16777216=((k/16777216:Nat):Int):=JB (b:=16777216) c;have s:iu ((k/256:Nat):Int) 256=((k/256%256:Nat):Int):=wy _ 256;have t:iu ((k/65536:Nat):Int) 256=((k/65536%256:Nat):Int):=wy _ 256
 have u:cO k 4=[k%256,k/256%256,k/65536%256,k/16777216%256]:=by simp[cO,aag,aag.loop]
 rw[m,a,u];simp(disch:=omega)[IV,l,n,p,s,t,q1,q,r,BP,ah,-aaO,-aaA]
def zpg[kj G](w:List af)(u:w.length<=1000)(m:∀x∈w,ij x=true)(n:∀x∈w,x.k<4294967296):FP G 367 [FL w] (.vs (ah .u8 (ew w)) .no):=by
 refine bA kj.acM (aae rfl) ?_;obtain⟨T,a⟩:∃T:Nat->List Nat,∀j,T j=ew (w.take j):=⟨_,λ_=>rfl⟩
 have o:T 0=[]:=by rw[a];rfl
 simp[FL];refine aN w.length (λi=>[(0,FL w),(3,.vs (ah .u8 (T i)) (.own 0)),(4,.int .i64 i)]) (λi=>[some (.zone (8*i))]) (λ_=>True) ?_ ?_
 .simp[au,ak,FL,o]
 intro i hi _
 by_cases b:i<w.length
 .obtain⟨x,c⟩:=ax (w[i]);have e:=rz b;rw[<-c] at e
  have f:x∈w:=by rw[c];exact aaP b
  have g:=zDN (G:=G) x (m x f) (n x f)
  have p:T (i+1)=T i++fc x:=by rw[a,a,aaq,aaf b,aaJ,zrz,c]
  have q:(T i).length=8*i:=by rw[a,rK,aao];omega
  have r:x.cs.length=4:=rfl;have s:x.cs.take 4=x.cs:=rfl;have l:=Pw x
  have t:ah .u8 (T i)++ah .u8 (fc x)=ah .u8 (T (i+1)):=by rw[p];simp[ah]
  have d:ah .u8 (fc x)≠[]:=by intro h;have:=congrArg abp h;simp[ah,l] at this
  simp only[IV] at g;simp(disch:=omega)[bC,FL,e,c.symm,r,s];refine aw g ?_;simp(disch:=omega)[t,d,q,l,aA,b,bF,au,ak,FL,-aad];omega
 .have d:i=w.length:=an
  subst d
  have:T w.length=ew w:=by rw[a,aaH]
  simp[this,FL]
def zqq[kj G][iS G](r:TR)(s:r.ok)(k:r.may=true):FP G 369 [TV r] (.vs (ah .u8 r.jg) .no):=by
 refine bA iS.acN (aae rfl) ?_;obtain⟨M,N,t,u,O⟩:=s;simp only[TR.may,aaj,decide_eq_true_eq] at k;obtain⟨⟨⟨x,y⟩,_⟩,_⟩:=k;obtain⟨P,z⟩:=zC x;obtain⟨Q,A⟩:=zC y;have m:=zpg (G:=G) r.fr an z t;have d:=zpg (G:=G) r.to an A u;simp only[FL] at m d;obtain⟨v,n⟩:∃v,r.lv=v:=⟨_,rfl⟩
 have e:v<4294967296:=an
 have C:iu (v:Int) 256=((v%256:Nat):Int):=wy v 256;have q1:gH .u32 (v:Int) 256=((v/256:Nat):Int):=JB (b:=256) e;have D:gH .u32 (v:Int) 65536=((v/65536:Nat):Int):=JB (b:=65536) e;have E:gH .u32 (v:Int) 16777216=((v/16777216:Nat):Int):=JB (b:=16777216) e;have F:iu ((v/256:Nat):Int) 256=((v/256%256:Nat):Int):=wy _ 256;have H:iu ((v/65536:Nat):Int) 256=((v/65536%256:Nat):Int):=wy _ 256;obtain⟨B,f⟩:∃B:List Nat,B=cO v 4++[r.fr.length%256,r.to.length%256]:=⟨_,rfl⟩
 have g:B.length=6:=by rw[f];simp[cO]
 have I:[[V.int .u8 (v%256:Nat)],[V.int .u8 (v/256%256:Nat)],[V.int .u8 (v/65536%256:Nat)],[V.int .u8 (v/16777216%256:Nat)],[V.int .u8 (r.fr.length%256:Nat)],[V.int .u8 (r.to.length%256:Nat)]]=ah .u8 B:=by rw[f];simp[ah,cO,aag,aag.loop]
 obtain⟨a,i⟩:=ax (B++ew r.fr)
 have o:r.jg=a++ew r.to:=by rw[TR.jg,n,<-f,<-i]
 have J:a.length=6+8*r.fr.length:=by rw[i,aar,g,rK]
 have p:(ew r.fr).length=8*r.fr.length:=rK _;have K:(ew r.to).length=8*r.to.length:=rK _
 have p1:ah .u8 B++ah .u8 (ew r.fr)=ah .u8 a:=by rw[i];simp[ah]
 have p2:ah .u8 a++ah .u8 (ew r.to)=ah .u8 r.jg:=by rw[o];simp[ah]
 have n1:∀l:List Nat,(ah .u8 l=[])=(l=[]):=λl=>by simp[ah]
 have c:∀w:List af,(ew w=[])=(w=[]):=λw=>propext ⟨λh=>List.eq_nil_of_length_eq_zero (by have:=rK w;rw[h] at this;simp at this;omega),λh=>by rw[h];rfl⟩
 have q:¬r.fr=[]:=λh=>by
  have:r.to.length<r.fr.length:=by assumption
  rw[h] at this;simp at this
 simp(disch:=omega)[TV,TR.cs,n,q1,D,E,C,F,H,BP,I,-aaO,-aaA];refine aw m ?_
 by_cases j:r.to=[]
 .have L:r.jg=a:=by rw[o,j];simp[ew]
  simp(disch:=omega)[n1,c,q,g,p,p1,aA];refine aw d ?_;simp(disch:=omega)[n1,c,j,L]
 .simp(disch:=omega)[n1,c,q,g,p,p1,aA];refine aw d ?_;simp(disch:=omega)[n1,c,j,J,K,p2,aA]
def zwA:∀(i:Nat) {a b:List UInt8},a.take i=b.take i->i<=a.length->i<=b.length->Op.bytesLess a b=Op.bytesLess (a.drop i) (b.drop i)
 | 0,_,_,_,_,_=>rfl
 | i+1,[],_,_,h,_=>by simp at h
 | i+1,_::_,[],_,_,h=>by simp at h
 | i+1,x::a,y::b,h,c,d=>by
  simp only[List.take_succ_cons,aby.injEq] at h;obtain⟨rfl,h⟩:=h;have:=zwA i h (by simpa using c) (by simpa using d);simp[Op.bytesLess,this]
def zyN[iS G](a b:List Nat)(t:∀x∈a,x<256)(u:∀x∈b,x<256)(F:a.length<=1000000)(H:b.length<=1000000) :
  FP G 370 [.vs (ah .u8 a) .no,.vs (ah .u8 b) .no] (.bool (Op.bytesLess (a.map aah) (b.map aah))):=by
 refine bA iS.acO (aae rfl) ?_;simp;refine aN a.length (λi=>[(0,.vs (ah .u8 a) .no),(1,.vs (ah .u8 b) .no),(5,.int .i64 i)]) (λ_=>[]) (λi=>i<=b.length/\a.take i=b.take i) ?_ ?_
 .simp[au,ak]
 rintro i hi ⟨l,p⟩;have k:=zwA (a:=a.map aah) (b:=b.map aah) i (by rw[<-abg,<-abg,p]) (by simpa using hi) (by simpa using l)
 by_cases c:i<a.length
 .by_cases d:i<b.length
  .obtain⟨x,f⟩:=ax (a[i]);obtain⟨y,g⟩:=ax (b[i]);have v:=t x (by rw[f];exact aaP c);have w:=u y (by rw[g];exact aaP d)
   have m:a[i]?=some x:=by rw[f];exact aaf c
   have n:b[i]?=some y:=by rw[g];exact aaf d
   have z:(a.map aah).drop i=aah x::(a.map aah).drop (i+1):=by rw[aaz (by simpa using c)];simp[f]
   have A:(b.map aah).drop i=aah y::(b.map aah).drop (i+1):=by rw[aaz (by simpa using d)];simp[g]
   rw[z,A] at k
   have q:(aah x).toNat=x:=by simp;omega
   have r:(aah y).toNat=y:=by simp;omega
   by_cases e:x=y
   .have B:a.take (i+1)=b.take (i+1):=by rw[aaq,aaq,p,m,n,e]
    have o:((x:Int) !=(y:Int))=false:=by simp[e]
    simp(disch:=omega)[bC,c,d,m,n,f.symm,g.symm,o,bF,au,ak,B,-aad];omega
   .have o:((x:Int) !=(y:Int))=true:=by simp;omega
    have C:¬aah x=aah y:=λh=>e (by rw[<-q,<-r,h])
    have j:Op.bytesLess (a.map aah) (b.map aah)=decide (x<y):=by
     rw[k];simp only[Op.bytesLess]
     have:(aah x<aah y)=(x<y):=by rw[UInt8.lt_iff_toNat_lt,q,r]
     simp[this,C]
    simp(disch:=omega)[bC,c,d,m,n,f.symm,g.symm,o,j,-aad]
  .have D:i=b.length:=an
   have j:Op.bytesLess (a.map aah) (b.map aah)=false:=by
    rw[k,aaI (as:=b.map aah) (by simp;omega)]
    cases(a.map aah).drop i<;>rfl
   simp(disch:=omega)[bC,c,d,j];omega
 .have E:i=a.length:=an
  have j:Op.bytesLess (a.map aah) (b.map aah)=decide (a.length<b.length):=by
   rw[k,aaI (as:=a.map aah) (by simp;omega)]
   by_cases s:a.length<b.length
   .rw[aaz (by simp;omega)];simp[Op.bytesLess,s]
   .rw[aaI (by simp;omega)];simp[Op.bytesLess,s]
  subst E;simp[j]
def zBf[eH G][kW G][mE G][iS G](r:TR)(h:r.ok)(i:r.fr.length<=1000000)(j:r.to.length<=1000000):FP G 368 [TV r] (.bool r.may):=by
 refine bA iS.acP (aae rfl) ?_;obtain⟨_,_,k,l,m⟩:=h;have e:=zqV (G:=G) r.fr i k;have f:=zqV (G:=G) r.to j l;simp only[FL] at e f;simp[TV,TR.cs];refine aw e ?_
 cases a:aY r.fr with
 | false=>simp[TR.may,a]
 | true =>
  simp;refine aw f ?_
  cases b:aY r.to with
  | false=>simp[TR.may,a,b]
  | true =>
   by_cases c:r.to.length<r.fr.length
   .by_cases g:r.lv<262144
    .have d:((r.lv:Int)<262144)=True:=af8;simp[TR.may,a,b,c,g,d]
    .have d:((r.lv:Int)<262144)=False:=af9;simp[TR.may,a,b,c,g,d]
   .simp[TR.may,a,b,c]
def zwB{r:TR}(h:r.may=true):r.jg.length<=1000:=by obtain⟨a,b⟩:=CN h;simp only[TR.jg,aar,UM,rK,aa3,abX];omega
def zqr[eH G][kW G][mE G][kj G][iS G](t:List TR)(T:t.length<=1000000)(y:∀r∈t,r.ok)(z:∀r∈t,r.fr.length<=1000000/\r.to.length<=1000000):FP G 371 [TF t] (.bool (cF t)):=by
 refine bA iS.acQ (aae rfl) ?_;simp[TF];refine aN t.length (λi=>[(0,TF t),(3,.int .i64 i)]) (λ_=>[]) (λi=>EJ t i) ?_ ?_
 .simp[au,ak,TF];intro j k;omega
 intro i hi l
 by_cases c:i<t.length
 .obtain⟨x,A⟩:=ax (t[i])
  have a:t[i]?=some x:=by rw[A];exact aaf c
  have m:=CO a;have n:x∈t:=aai a;have B:=y x n;have o:x.cs.length=3:=rfl;have p:x.cs.take 3=x.cs:=rfl
  have s:(TL t)[i]'(by simpa using c)=x.cs:=by simp[TL,A]
  have C:=zBf (G:=G) x B (z x n).1 (z x n).2;simp(disch:=omega)[bC,TF,m,s,o,p];simp only[TV] at C;refine aw C ?_
  cases d:x.may with
  | false =>
   have u:=Qa a (.inl d)
   simp[u]
  | true =>
   by_cases f:0<i
   .obtain⟨q,D⟩:=ax (t[i-1]'(by omega))
    have e:t[i-1]?=some q:=by rw[D];exact aaf an
    have K:(TL t)[i-1]'(by simp;omega)=q.cs:=by simp[TL,D]
    have L:=CO e;have E:=(l (i-1) an q e).1;have M:=y q (aai e);have N:q.cs.length=3:=rfl;have O:q.cs.take 3=q.cs:=rfl;have F:=zqq (G:=G) q M E;have H:=zqq (G:=G) x B d;have ls:=zyN (G:=G) q.jg x.jg (Jq q) (Jq x) (aaF (zwB E) aga) (aaF (zwB d) aga);rw[<-PK,<-PK] at ls;simp only[TV] at F H
    have P:cL .i64 (i:Int) 1=((i-1:Nat):Int):=by rw[nC]<;>omega
    simp(disch:=omega)[f,P,L,K,N,O,m,s,o,p,aA,fL];refine aw F ?_;simp(disch:=omega)[m,s,o,p,fL,c];refine aw H ?_;simp;refine aw ls ?_
    cases g:vS q x with
    | false =>
     have u:=Qa a (.inr ⟨q,f,e,g⟩);have v:Op.bytesLess q.by x.by=false:=g
     simp[v,u]
    | true =>
     have v:Op.bytesLess q.by x.by=true:=g
     have w:EJ t (i+1):=λj k r b=>by
      rcases abm.1 k with h|rfl
      .exact l j h r b
      .rw[a] at b;cases b;exact⟨d,λU _ I=>by rw[e] at I;cases I;exact g⟩
     simp(disch:=omega)[v,c,bF,au,ak,TF,-aad];exact w
   .have Q:i=0:=an
    subst Q
    have w:EJ t 1:=λj k r b=>by
     have:j=0:=an
     subst this;rw[a] at b;cases b;exact⟨d,λq f=>absurd f an⟩
    have R:aB .i64 0 1=1:=by rw[eB]<;>omega
    simp(disch:=omega)[au,ak,TF,R,c,w]
 .have S:i=t.length:=an
  subst S;have:=zxF l
  by_cases J:t.length<=64
  .have h:((t.length:Int)<=64)=True:=af8;simp[this,J,h,TF]
  .have h:((t.length:Int)<=64)=False:=af9;simp[this,J,h,TF]
def UT(k:IntKind)(a b:Int):da k a b=da k b a:=by unfold da;rw[Int.mul_comm]
def le4{a b c d:Nat}(h:a<256)(i:b<256)(j:c<256)(hd:d<256) :
  aB .u32 (aB .u32 (aB .u32 (a:Int) (da .u32 256 (b:Int))) (da .u32 65536 (c:Int))) (da .u32 16777216 (d:Int))=((a+256*b+65536*c+16777216*d:Nat):Int):=by
 have e:da .u32 256 (b:Int)=((256*b:Nat):Int):=LO (a:=256) an;have f:da .u32 65536 (c:Int)=((65536*c:Nat):Int):=LO (a:=65536) an;have g:da .u32 16777216 (d:Int)=((16777216*d:Nat):Int):=LO (a:=16777216) an;rw[e,f,g,UU an,UU an,UU an]
def zph[eH G][oR G](w:List af)(hl:w.length<=4096)(z:∀x∈w,ij x=true)(M:∀x∈w,x.k<4294967296):FP G 514 [.vs (ah .u8 (ew w)) .no] (.bf [FL w,.int .i64 0]):=by
 refine bA oR.acR (aae rfl) ?_;obtain⟨b,q⟩:=ax (ew w)
 have iv:b.length=8*w.length:=by rw[q,rK]
 have N:(32768<(b.length:Int))=False:=af9
 have O:iu (b.length:Int) 8=0:=by have:=zz (a:=b.length) (b:=8);rw[show b.length%8=0 by omega] at this;exact this
 obtain⟨P,r⟩:∃P:Nat->Nat,∀i,P i=8*i:=⟨_,λ_=>rfl⟩;have s:P 0=0:=r 0;rw[<-q];simp[N,O];refine aN w.length (λi=>[(0,.vs (ah .u8 b) .no),(4,.vs (IL (w.take i)) (.own 0)),(5,.int .i64 (P i:Nat))]) (λi=>[some (.zone i)]) (λ_=>True) ?_ ?_
 .simp[au,ak,s]
 intro i hi _;have hp:=r i
 rcases aaC hi with Q|A
 .subst Q;have R:((P w.length:Int)<(b.length:Int))=False:=af9;simp[R,FL]
 .obtain⟨x,t⟩:∃x,w[i]?=some x:=⟨_,aaf A⟩;obtain⟨_,S⟩:=aab.1 t;have u:=aai t;obtain⟨⟨T,o2⟩,⟨U,j2⟩,v,B⟩:=Pv (z x u);have V:=M x u;have y:=zqU (G:=G) x;rw[z x u] at y
  have hd:b.drop (P i)=fc x++ew (w.drop (i+1)):=by
   have e:w=w.take i++x::w.drop (i+1):=by rw[<-S,abt,aa9]
   have l:b=ew (w.take i)++(fc x++ew (w.drop (i+1))):=by
    conv=>lhs;rw[q,e]
    simp[ew]
   rw[l,aaL (by rw[rK,aao];omega)]
  have f:∀j,j<8->b[P i+j]?=(fc x)[j]?:=λj W=>by
   rw[<-aa1,hd,abi (by rw[Pw];exact W)]
  obtain⟨p,C⟩:=ax (P i);rw[<-C] at f
  have X:P (i+1)=p+8:=by rw[r];omega
  obtain⟨o,Y⟩:=ax x.op.toNat;obtain⟨a,Z⟩:=ax x.jt.toNat;obtain⟨c,hc⟩:=ax x.jf.toNat;obtain⟨k,g⟩:=ax x.k
  have D:x.cs=[.int .i64 (o:Int),.int .i64 (a:Int),.int .i64 (c:Int),.int .u32 (k:Int)]:=by rw[af.cs,Y,Z,hc,g,abc T,abc U,abc v]
  have b0:b[p]?=some o:=by rw[<-aa_ p,f 0 an];simp[fc];omega
  have b1:b[p+1]?=some 0:=by rw[f 1 an];simp[fc];omega
  have b2:b[p+2]?=some a:=by rw[f 2 an];simp[fc];omega
  have b3:b[p+3]?=some c:=by rw[f 3 an];simp[fc];omega
  have E:b[p+4]?=some (k%256):=by rw[f 4 an,g];simp[fc,cO,aag,aag.loop]
  have F:b[p+5]?=some (k/256%256):=by rw[f 5 an,g];simp[fc,cO,aag,aag.loop]
  have H:b[p+6]?=some (k/65536%256):=by rw[f 6 an,g];simp[fc,cO,aag,aag.loop]
  have I:b[p+7]?=some (k/16777216%256):=by rw[f 7 an,g];simp[fc,cO,aag,aag.loop]
  have m:=le4 (a:=k%256) (b:=k/256%256) (c:=k/65536%256) (d:=k/16777216%256) (aay _ aga) (aay _ aga) (aay _ aga) (aay _ aga);rw[show k%256+256*(k/256%256)+65536*(k/65536%256)+16777216*(k/16777216%256)=k by omega] at m;rw[UT _ 256,UT _ 65536,UT _ 16777216] at m;obtain⟨k0,J⟩:=ax (k%256);obtain⟨k1,K⟩:=ax (k/256%256);obtain⟨k2,l⟩:=ax (k/65536%256)
  obtain⟨k3,L⟩:=ax (k/16777216%256);rw[<-J] at E;rw[<-K] at F;rw[<-l] at H;rw[<-L] at I;rw[<-J,<-K,<-l,<-L] at m;have Jn:∀n:Nat,n<256->eO .i64 (n:Int)=(n:Int):=λn h=>IntWalk.i64_in _ ⟨an,an⟩;have Gs:∀n:Nat,n<256->eO .u32 (n:Int)=(n:Int):=λn h=>IntWalk.u32_in _ ⟨an,an⟩;obtain⟨_,f0⟩:=aab.1 b0;obtain⟨_,v⟩:=aab.1 b1;obtain⟨_,B⟩:=aab.1 b2;obtain⟨_,f3⟩:=aab.1 b3
  obtain⟨_,f4⟩:=aab.1 E;obtain⟨_,f5⟩:=aab.1 F;obtain⟨_,f6⟩:=aab.1 H;obtain⟨_,f7⟩:=aab.1 I;have a1:aB .i64 (p:Int) 1=((p+1:Nat):Int):=lQ (n:=1) an;have a2:aB .i64 (p:Int) 2=((p+2:Nat):Int):=lQ (n:=2) an;have a3:aB .i64 (p:Int) 3=((p+3:Nat):Int):=lQ (n:=3) an;have a4:aB .i64 (p:Int) 4=((p+4:Nat):Int):=lQ (n:=4) an;have a5:aB .i64 (p:Int) 5=((p+5:Nat):Int):=lQ (n:=5) an
  have a6:aB .i64 (p:Int) 6=((p+6:Nat):Int):=lQ (n:=6) an;have a7:aB .i64 (p:Int) 7=((p+7:Nat):Int):=lQ (n:=7) an;have a8:aB .i64 (p:Int) 8=((p+8:Nat):Int):=lQ (n:=8) an
  have a0:aB .i64 (o:Int) (da .i64 256 (eO .i64 0))=(o:Int):=by rw[show da .i64 256 (eO .i64 0)=0 from rfl];unfold aB;rw[Int.add_zero];exact IntWalk.i64_in _ ⟨an,an⟩
  have dV:IL (w.take i)++[[.int .i64 (o:Int),.int .i64 (a:Int),.int .i64 (c:Int),.int .u32 (k:Int)]]=IL (w.take (i+1)):=by rw[<-D,Lk,aaq,t];rfl
  have gA:(w.take i).length=i:=by rw[aao];omega
  simp only[IV,D] at y;simp only[<-C];simp(disch:=omega)[bC,a1,a2,a3,a4,a5,a6,a7,f0,v,B,f3,f4,f5,f6,f7,Jn,Gs,a0,m,-aad];refine aw y ?_;simp(disch:=omega)[au,ak,gA,dV,aA,a8,A,X,-aad]
def zyO[eH G][oR G][lH G](b q:List Nat)(p:Nat)(r:TR)(K:r.ok)(e:r.may=true)(hl:b.length<=1000000)(g:b.drop p=r.jg++q) :
  FP G 520 [.vs (ah .u8 b) .no,.int .i64 p] (.bf [TV r,.int .i64 (p+r.jg.length:Nat),.bool true]):=by
 refine bA lH.acS (aae rfl) ?_;obtain⟨h1,h2,L,M,h5⟩:=K;simp only[TR.may,aaj,decide_eq_true_eq] at e;obtain⟨⟨⟨N,O⟩,_⟩,_⟩:=e;obtain⟨l1,P⟩:=zC N;obtain⟨r1,Q⟩:=zC O;have t:=zph (G:=G) r.fr an P L;have u:=zph (G:=G) r.to an Q M;have w:=PJ r;obtain⟨n,i⟩:=ax r.fr.length;obtain⟨m,e⟩:=ax r.to.length;obtain⟨v,x⟩:=ax r.lv;rw[<-i,<-e] at w
 have iv:b.length=p+6+8*n+8*m+q.length:=by have:=congrArg abp g;rw[aat,aar] at this;omega
 have y:(ew r.fr).length=8*n:=by rw[rK,i]
 have R:(ew r.to).length=8*m:=by rw[rK,e]
 have z:r.jg++q=(cO v 4++[n%256,m%256])++(ew r.fr++(ew r.to++q)):=by rw[TR.jg,<-x,<-i,<-e];simp
 have f:∀j,j<6->b[p+j]?=(cO v 4++[n%256,m%256])[j]?:=λj S=>by
  rw[<-aa1,g,z,abi (by simp[cO];exact S)]
 have A:b.drop (p+6)=ew r.fr++(ew r.to++q):=by rw[<-abd,g,z,aaL (by simp[cO])]
 have T:b.drop (p+6+8*n)=ew r.to++q:=by rw[<-abd,A,aaL y]
 have U:(b.drop (p+6)).take (8*n)=ew r.fr:=by rw[A,aaW y]
 have V:(b.drop (p+6+8*n)).take (8*m)=ew r.to:=by rw[T,aaW R]
 have B:b[p]?=some (v%256):=by rw[<-aa_ p,f 0 an];simp[cO,aag,aag.loop]
 have C:b[p+1]?=some (v/256%256):=by rw[f 1 an];simp[cO,aag,aag.loop]
 have D:b[p+2]?=some (v/65536%256):=by rw[f 2 an];simp[cO,aag,aag.loop]
 have E:b[p+3]?=some (v/16777216%256):=by rw[f 3 an];simp[cO,aag,aag.loop]
 have W:b[p+4]?=some n:=by rw[f 4 an];simp[cO,aag,aag.loop];omega
 have X:b[p+5]?=some m:=by rw[f 5 an];simp[cO,aag,aag.loop];omega
 have k:=le4 (a:=v%256) (b:=v/256%256) (c:=v/65536%256) (d:=v/16777216%256) (aay _ aga) (aay _ aga) (aay _ aga) (aay _ aga);rw[show v%256+256*(v/256%256)+65536*(v/65536%256)+16777216*(v/16777216%256)=v by omega] at k;obtain⟨k0,F⟩:=ax (v%256);obtain⟨k1,H⟩:=ax (v/256%256);obtain⟨k2,I⟩:=ax (v/65536%256);obtain⟨k3,J⟩:=ax (v/16777216%256)
 rw[<-F] at B;rw[<-H] at C;rw[<-I] at D;rw[<-J] at E;rw[<-F,<-H,<-I,<-J] at k;have Y:∀n:Nat,n<256->eO .i64 (n:Int)=(n:Int):=λn h=>IntWalk.i64_in _ ⟨an,an⟩;have Z:∀n:Nat,n<256->eO .u32 (n:Int)=(n:Int):=λn h=>IntWalk.u32_in _ ⟨an,an⟩;obtain⟨_,f0⟩:=aab.1 B;obtain⟨_,f1⟩:=aab.1 C;obtain⟨_,f2⟩:=aab.1 D;obtain⟨_,f3⟩:=aab.1 E;obtain⟨_,f4⟩:=aab.1 W;obtain⟨_,f5⟩:=aab.1 X
 have a1:aB .i64 (p:Int) 1=((p+1:Nat):Int):=lQ (n:=1) an;have a2:aB .i64 (p:Int) 2=((p+2:Nat):Int):=lQ (n:=2) an;have a3:aB .i64 (p:Int) 3=((p+3:Nat):Int):=lQ (n:=3) an;have a4:aB .i64 (p:Int) 4=((p+4:Nat):Int):=lQ (n:=4) an;have a5:aB .i64 (p:Int) 5=((p+5:Nat):Int):=lQ (n:=5) an;have l:aB .i64 (p:Int) 6=((p+6:Nat):Int):=lQ (n:=6) an
 have mn:da .i64 8 (n:Int)=((8*n:Nat):Int):=by rw[zzz an an];omega
 have mm:da .i64 8 (m:Int)=((8*m:Nat):Int):=by rw[zzz an an];omega
 have o:aB .i64 ((p+6:Nat):Int) ((8*n:Nat):Int)=((p+6+8*n:Nat):Int):=pQ an;have s:aB .i64 ((p+6+8*n:Nat):Int) ((8*m:Nat):Int)=((p+6+8*n+8*m:Nat):Int):=pQ an
 have u1:p+6+8*n-(p+6)=8*n:=an
 have u2:p+6+8*n+8*m-(p+6+8*n)=8*m:=an
 have dD:TV r=.agg [FL r.fr,FL r.to,.int .u32 v]:=by rw[TV,TR.cs,x];rfl
 rw[dD,w,show p+(6+8*n+8*m)=p+6+8*n+8*m by omega];simp only[FL] at t u |-;simp(disch:=omega)[jW,mf,a4,a5,l,f4,f5,Y,mn,mm,o,s,zU,uL,U,u1,-aad,-aan];refine aw t ?_;simp(disch:=omega)[mf,l,o,s,zU,uL,V,u2,-aad,-aan];refine aw u ?_;simp(disch:=omega)[mf,aA,a1,a2,a3,l,f0,f1,f2,f3,Z,k,o,s,-aad,-aan]
 done
def UX{t:List TR}(a:cF t=true):∀r∈t,r.may=true:=λr b=>by
 simp only[cF,aaj] at a;exact aaM.1 a.1.1 r b
def zDO{r:TR}(d:r.ok)(a:r.may=true)(q:List Nat):qu (r.jg++q)=some (r,q):=by
 obtain⟨t,u,f,g,v⟩:=d;simp only[TR.may,aaj,decide_eq_true_eq] at a;obtain⟨⟨⟨h,i⟩,_⟩,_⟩:=a;obtain⟨w,j⟩:=zC h;obtain⟨x,k⟩:=zC i;obtain⟨n,c⟩:=ax r.fr.length;obtain⟨m,a⟩:=ax r.to.length
 have q1:(ew r.fr).length=8*n:=by rw[rK,c]
 have b:(ew r.to).length=8*m:=by rw[rK,a]
 have l:r.jg++q=(cO r.lv 4++[n%256,m%256])++(ew r.fr++(ew r.to++q)):=by rw[TR.jg,<-c,<-a];simp
 have e:cO r.lv 4++[n%256,m%256]=[r.lv%256,r.lv/256%256,r.lv/65536%256,r.lv/16777216%256,n,m]:=by rw[aal (show n<256 by omega),aal (show m<256 by omega)];simp[cO,aag,aag.loop]
 rw[l,e];have o:([r.lv%256,r.lv/256%256,r.lv/65536%256,r.lv/16777216%256,n,m]++(ew r.fr++(ew r.to++q))).getD 4 0=n:=rfl;have p:([r.lv%256,r.lv/256%256,r.lv/65536%256,r.lv/16777216%256,n,m]++(ew r.fr++(ew r.to++q))).getD 5 0=m:=rfl;have s:([r.lv%256,r.lv/256%256,r.lv/65536%256,r.lv/16777216%256,n,m]++(ew r.fr++(ew r.to++q))).drop 6=ew r.fr++(ew r.to++q):=rfl
 have gv:PE ([r.lv%256,r.lv/256%256,r.lv/65536%256,r.lv/16777216%256,n,m]++(ew r.fr++(ew r.to++q)))=r.lv:=by show r.lv%256+256*(r.lv/256%256)+65536*(r.lv/65536%256)+16777216*(r.lv/16777216%256)=r.lv;omega
 unfold qu;rw[o,p,s,gv,if_neg ir,if_neg (by simp[q1,b]),aaW q1,aaL q1,aaW b,<-abd,aaL q1,aaL b,zt4 an j f,zt4 an k g]
def zyP:∀{t:List TR} (u:List TR),(∀r∈t,r.ok)->(∀r∈t,r.may=true)->zZ t.length (t.flatMap TR.jg) u=some (u++t,[])
 | [],u,_,_=>by rw[List.append_nil];rfl
 | r::t,u,h,b=>by
  rw[aa3,abh,zZ,zDO (h r ir) (b r ir)];rw[show u++r::t=(u++[r])++t by simp];exact zyP _ (λx a=>h x (by simp[a])) (λx a=>b x (by simp[a]))
def zBg(c:List Nat):lL (si c)=(c,0):=by
 have h:(si c).take ((si c).length-4)=c:=by rw[PC,Nat.add_sub_cancel,si,aaW rfl]
 rw[lL,if_neg (by rw[PC];omega),h,if_pos rfl]
def zBh{t:List TR}(a:cF t=true)(b:∀r∈t,r.ok):rL (kD t)=some t:=by
 have c:=(Gw a).2
 have e:Ew t=[72,82,84,49,t.length]++t.flatMap TR.jg:=by rw[Ew,aal an];rfl
 unfold rL;rw[kD,zBg,e];rw[if_neg (by simp[s9])]
 show(match zZ t.length (t.flatMap TR.jg) [] with
  | some (t,q)=>if q=[]/\cF t=true then some t else none
  | none=>none)=some t
 rw[zyP [] b (UX a)];simp[a]
def UY{t:List TR}(a:cF t=true):t.length<=64/\∀r∈t,r.fr.length<=32/\r.to.length<=32 :=
 ⟨(Gw a).2,λr b=>by
  have:=CN (UX a r b)
  omega⟩
def zua:∀{t:List TR},(∀r∈t,r.fr.length<=32/\r.to.length<=32)->(t.flatMap TR.jg).length<=600*t.length
 | [],_=>abo _
 | r::t,h=>by
  have:=h r ir;have:=zua (t:=t) λx a=>h x (by simp[a]);rw[abh,aar,PJ,aa3];omega
def zub{t:List TR}(a:cF t=true):(Ew t).length<=100000:=by obtain⟨c,b⟩:=UY a;have:=zua b;rw[Ew,aar];show 5+_<=_;omega
def zvU[eH G][kW G][mE G][kj G][iS G][oR G][f_ G][lH G](t:List TR)(m:cF t=true)(s:∀r∈t,r.ok):FP G 521 [.vs (ah .u8 (kD t)) .no] (.bf [TF t,.int .i64 0]):=by
 refine bA lH.acT (aae rfl) ?_;obtain⟨Uc,g⟩:=UY m;have E:=UX m;have o:=zqr (G:=G) t an s (λr e=>by have:=g r e;omega);rw[m] at o;obtain⟨T,f⟩:∃T:Nat->List Nat,∀j,T j=s9++[t.length%256]++(t.take j).flatMap TR.jg:=⟨_,λ_=>rfl⟩
 have a:T 0=[72,82,84,49,t.length%256]:=by rw[f];rfl
 obtain⟨b,n⟩:=ax (Ew t)
 have k:b=T t.length:=by rw[n,f,aaH];rfl
 have F:∀i r,t[i]?=some r->T (i+1)=T i++r.jg:=λi r h=>by rw[f,f,aaq,h,aaJ,abb];simp
 have d:∀j,b=T j++(t.drop j).flatMap TR.jg:=λj=>by
  rw[k,f,f,aaH,aaZ (s9++[t.length%256]),<-abb,aa9]
 have H:5<=b.length:=by rw[d 0,a];simp
 have u:b.length<=1000000:=by have:=zub m;rw[n];omega
 have v:∀x∈b,x<256:=by rw[n];exact zt6 t
 have I:kD t=si b:=by rw[kD,n]
 obtain⟨c,l⟩:=ax (si b);have y:=zyM (G:=G) b v u;rw[<-l] at y
 have J:c.length=b.length+4:=by rw[l,PC]
 have z:c.take b.length=b:=by rw[l,si,aaW rfl]
 have K:=Jm c (by rw[l];exact PD v)
 have n1:cL .i64 (c.length:Int) 4=(b.length:Int):=by rw[nC an an,J];omega
 have L:b[0]?=some 72:=by rw[d 0,a];rfl
 have M:b[1]?=some 82:=by rw[d 0,a];rfl
 have N:b[2]?=some 84:=by rw[d 0,a];rfl
 have O:b[3]?=some 49:=by rw[d 0,a];rfl
 have P:b[4]?=some t.length:=by rw[d 0,a,aal an];rfl
 obtain⟨_,Q⟩:=aab.1 L;obtain⟨_,R⟩:=aab.1 M;obtain⟨_,S⟩:=aab.1 N;obtain⟨_,U⟩:=aab.1 O;obtain⟨_,A⟩:=aab.1 P;have B:eO .i64 (t.length:Int)=(t.length:Int):=IntWalk.i64_in _ ⟨an,an⟩;rw[I,<-l];simp only[TF] at o |-;simp(disch:=omega)[n1,jW,mf,uL,z];refine aw y ?_;simp(disch:=omega)[K,jW,mf,uL,z,Q,R,S,U];refine aN t.length (λi=>[(0,.vs (ah .u8 b) .no),(4,.int .i64 b.length),(5,.vs (TL (t.take i)) (.own 0)),(6,.int .i64 (T i).length),(7,.int .i64 i)]) (λi=>[some (.zone i)]) (λ_=>True) ?_ ?_
 .simp[au,ak,a,TL]
 intro i hi _
 rcases aaC hi with V|p
 .subst V;have q:((t.length:Int)<(t.length:Int))=False:=af9;simp(disch:=omega)[A,B,q,<-k];refine aw o ?_;simp
 .obtain⟨r,e⟩:∃r,t[i]?=some r:=⟨_,aaf p⟩;obtain⟨_,W⟩:=aab.1 e;have C:=aai e
  have hd:b.drop (T i).length=r.jg++(t.drop (i+1)).flatMap TR.jg:=by rw[d i,aaL rfl,<-abt (h:=p),W,abh]
  have w:=zyO (G:=G) b _ (T i).length r (s r C) (E r C) u hd;rw[<-aar,<-F i r e] at w;have X:((i+1)*56<=140737488355328)=True:=af8
  have Y:(t.take i).length=i:=by rw[aao];omega
  have Z:=Jp (t.take i)
  have D:TL (t.take i)++[r.cs]=TL (t.take (i+1)):=by rw[Lr,aaq,e];rfl
  simp only[TR.cs] at D;simp only[TV,TR.cs] at w;simp(disch:=omega)[bC,A,B];refine aw w ?_;simp(disch:=omega)[X,Y,Z,D,p,bF,au,ak,-aad]
end Go.Ev
