/- Bytes read as a filter: contract, for bytes that are a filter's. -/
import Derived.Test.YtbkhoemaobbplaaGreatDoorLowAW
import Derived.Test.YtbkhoemaobbplaaGreatDoorSrcIW
import Derived.Test.YtbkhoemaobbplaaGreatDoorEvWinCW
import Derived.Test.YtbkhoemaobbplaaGreatDoorParIW
import Derived.Test.YtbkhoemaobbplaaGreatDoorArgIW
set_option linter.defProp false
set_option linter.unusedSimpArgs false
set_option linter.unusedVariables false
set_option maxHeartbeats 16000000
set_option maxRecDepth 10000
open List renaming getElem?_eq_some_iff->aab,take_of_length_le->aaf,getD_eq_getElem?_getD->aag,mem_of_mem_take->aah,mem_of_getElem?->aak,mem_of_mem_drop->aal,length_drop->aan,length_take->aao,getElem?_eq_getElem->aap,mem_append->aat,length_append->aau,range->aay,take_add_one->aaA,all_eq_true->aaC,mem_map->aaD,mem_singleton->aaI,mem_cons->aaJ,map_cons->aaL,take_length->aaW,map_take->aaZ
open Nat renaming le_of_ble_eq_true->aad,mod_eq_of_lt->aaj,eq_or_lt_of_le->aar,le_trans->aaw,mod_lt->aax,two_pow_add_eq_or_of_lt->aaG,xor_lt_two_pow->aaH,mod_one->aaP,le_refl->aaT,mul_comm->aa0,add_zero->aa1,or_comm->aa2
open Int renaming natCast_add->aae,natCast_mul->aai,natCast_emod->aaB,natCast_ediv->aaY
open Bool renaming and_eq_true->aaq
open UInt8 renaming ofNat->aas,toNat_ofNat'->aaO
open BitVec renaming toNat_ofNat->aav,toNat_xor->aaX
open Option renaming toList_some->aaN
namespace Go.Ev
open Go Go.RowKit
variable {G:aK}
def zs4(k i:Nat)(hi:i<4)(b:k<4294967296):uU .u32 ((k%256^i:Nat):Int) (je .u32 ((k/256^i%256:Nat):Int) ((8*i:Nat):Int))=((k%256^(i+1):Nat):Int):=by
 rw[Nb an]
 have e:256^i=2^(8*i):=by rw[Nat.pow_mul]
 have c:k/256^i%256<256:=aax _ ag7
 have a:k/256^i%256*2^(8*i)<4294967296:=by
  have:i=0\/i=1\/i=2\/i=3:=an
  rcases this with rfl|rfl|rfl|rfl<;>simp at c |-<;>omega
 have d:k%256^i<2^32:=Nat.lt_of_le_of_lt (Nat.mod_le _ _) b;rw[aaj a,zx d a]
 have f:k%256^i<2^(8*i):=by rw[e];exact aax _ (Nat.two_pow_pos _)
 rw[aa0,aa2,<-aaG f]
 congr 1
 rw[Nat.pow_succ,Nat.mod_mul,e];omega
def zCg[aA G][iq G](f:List af)(hl:f.length<=4096)(Z:∀x∈f,x.k<4294967296)(A:∀x∈f,jv x=true):FP G 429 [.vs (aj .u8 (kR f)) .no] (.a_ [FL f,.int .i64 0]):=by
 refine bt iq.af7 (aad rfl) ?_;have hn:=Dv f;obtain⟨N,hN⟩:=bb ((kR f).length);have g1:(32768<(N:Int))=False:=ag6
 have g2:fU (N:Int) 8=0:=by have:=vH (a:=N) (b:=8);rw[show((8:Nat):Int)=8 from rfl] at this;rw[this];omega
 have C:(aj .u8 (kR f)).length=N:=by rw[Oi,hN]
 obtain⟨B,p⟩:∃B:Nat->List Nat,∀k,B k=kR (f.drop k):=⟨_,λ_=>rfl⟩
 have CR:B 0=kR f:=by rw[p,List.drop_zero]
 have EJ:∀k,(B k).length=8*(f.length-k):=λk=>by rw[p,Dv,aan]
 rw[<-CR] at C |-
 have r:(B 0).length=N:=by rw[<-Oi .u8,C]
 simp[r,g1,g2];refine aM f.length (λk=>[(0,.vs (aj .u8 (B k)) .no),(4,.vs (IL (f.take k)) (.own 0))]) (λk=>[some (.zone k)]) (λ_=>True) ?_ ?_
 .simp[aw,ak]
 intro k ly _;have js:=EJ k
 by_cases s:k<f.length
 .obtain⟨x,D⟩:=bb (f[k])
  have E:f[k]?=some x:=by rw[aap s,D]
  have t:=aak E;have F:=Z x t;obtain⟨⟨o1,o2⟩,⟨o3,o4⟩,o5,o6⟩:=zur (A x t);obtain⟨d,H⟩:∃n:Nat,x.op=n:=⟨x.op.toNat,an⟩;obtain⟨e,I⟩:∃n:Nat,x.jt=n:=⟨x.jt.toNat,an⟩;obtain⟨g,J⟩:∃n:Nat,x.jf=n:=⟨x.jf.toNat,an⟩
  have h:B k=nG x++B (k+1):=by rw[p,p,List.drop_eq_getElem_cons s,<-D,kR,List.flatMap_cons];rfl
  have j:nG x=[d,0,e,g,x.k%256,x.k/256%256,x.k/256^2%256,x.k/256^3%256]:=by simp[nG,cT,aay,aay.loop,H,I,J];omega
  have K:(B k)[0]?=some d:=by rw[h,j];rfl
  have L:(B k)[1]?=some 0:=by rw[h,j];rfl
  have M:(B k)[2]?=some e:=by rw[h,j];rfl
  have O:(B k)[3]?=some g:=by rw[h,j];rfl
  have bk:∀i,i<4->(B k)[4+i]?=some (x.k/256^i%256):=by
   intro i hi;rw[h,j]
   have:i=0\/i=1\/i=2\/i=3:=an
   rcases this with rfl|rfl|rfl|rfl<;>simp
  have P:=(aab.1 K).2;have Q:=(aab.1 L).2;have R:=(aab.1 M).2;have S:=(aab.1 O).2;have kU:(0<(B k).length)=True:=ag5
  have u:(B k).drop 8=B (k+1):=by rw[h,List.drop_left' (zwT x)]
  have c:∀b:Nat,b<256->eP .i64 (b:Int)=(b:Int):=λb l=>IntWalk.i64_in _ ⟨an,an⟩;have PB:∀b:Nat,b<256->eP .u32 (b:Int)=(b:Int):=λb l=>IntWalk.u32_in _ ⟨an,an⟩;have T:=c d an;have U:=c e an;have V:=c g an
  have W:je .i64 0 8=0:=by decide
  have cz:eP .i64 0=0:=by decide
  have m:uU .i64 (d:Int) 0=(d:Int):=by have:=DY (a:=d) (b:=0) an ag7;simpa using this
  simp(disch:=omega)[kU,K,L,M,O,P,Q,R,S,kW,T,U,V,cz,W,m];have v:=K7 (G:=G) x;rw[A x t] at v
  have X:x.cs=[.int .i64 (d:Int),.int .i64 (e:Int),.int .i64 (g:Int),.int .u32 (x.k:Int)]:=by rw[af.cs,H,I,J]
  simp only[IV,X] at v;obtain⟨o,q⟩:∃o:Nat->Nat,∀i,o i=x.k%256^i:=⟨_,λ_=>rfl⟩
  have PC:o 0=0:=by rw[q];simp[aaP]
  have LJ:o 4=x.k:=by rw[q];exact aaj F
  refine aM 4 (λi=>[(0,.vs (aj .u8 (B k)) .no),(4,.vs (IL (f.take k)) (.own 0)),(5,.ptr 1 0),(40,.int .i64 i)]) (λi=>[some (.zone k),some (.cells [.int .i64 d,.int .i64 e,.int .i64 g,.int .u32 (o i)])]) (λ_=>True) ?_ ?_
  .simp[aw,ak,PC,P,Q,R,S,T,U,V,cz,W,m]
  intro i hi _
  by_cases w:i<4
  .have l:=bk i w;have Y:x.k/256^i%256<256:=aax _ ag7;have y:=zs4 x.k i w F;rw[<-q,<-q] at y;obtain⟨z,Ba⟩:=bb (x.k/256^i%256);rw[<-Ba] at l Y y
   have m8:dN .i64 8 (i:Int)=((8*i:Nat):Int):=by unfold dN;rw[show((8:Int)*(i:Int))=((8*i:Nat):Int) by omega];exact IntWalk.i64_in _ ⟨an,an⟩
   have a4:aD .i64 4 (i:Int)=((4+i:Nat):Int):=by rw[eG]<;>omega
   have cb:=PB z Y;have fb:=(aab.1 l).2;have PD:(((8*i:Nat):Int)<0)=False:=ag6;have Ca:((i:Int)<4)=True:=ag5;simp(disch:=omega)[Ca,PD,l,fb,kW,m8,a4,cb,y,aw,ak,bD,w,-aae,-aai]
  .have:i=4:=an
   subst this;simp(disch:=omega)[LJ,aw,ak];refine au v ?_;have jN:((k+1)*32<=140737488355328)=True:=ag5
   have fS:(f.take k).length=k:=by rw[aao];omega
   have eF:IL (f.take k)++[[.int .i64 (d:Int),.int .i64 (e:Int),.int .i64 (g:Int),.int .u32 (x.k:Int)]]=IL (f.take (k+1)):=by rw[<-X,Om,aaA,E];rfl
   have h8:((8:Int)<=((B k).length:Int))=True:=ag5
   have KZ:aj .u8 (B (k+1))=(aj .u8 (B k)).drop 8:=by rw[Am,u]
   have l8:(B (k+1)).take ((B k).length-8)=B (k+1):=aaf (by rw[<-u,aan];omega);simp(disch:=omega)[aw,ak,jN,fS,eF,h8,Am,xK,u,l8,s]
 .have:k=f.length:=an
  subst this;have h0:(0<(B f.length).length)=False:=ag6;simp(disch:=omega)[h0,aw,ak,FL]
def xX(b:List Nat)(k:Nat):af:=⟨(b.getD (8*k) 0+256*b.getD (8*k+1) 0:Nat),b.getD (8*k+2) 0,b.getD (8*k+3) 0,b.getD (8*k+4) 0+256*b.getD (8*k+5) 0+65536*b.getD (8*k+6) 0+16777216*b.getD (8*k+7) 0⟩
def oR(b:List Nat):List af:=(aay (b.length/8)).map (xX b)
def pK(b:List Nat):Option (List af):=if b.length<=32768/\b.length%8=0/\(oR b).all jv=true then some (oR b) else none
def zFz(l:List Nat)(h:8<=l.length):∃a b c d e f g i r,l=a::b::c::d::e::f::g::i::r:=by
 match l,h with
 | a::b::c::d::e::f::g::i::r,_=>exact⟨a,b,c,d,e,f,g,i,r,rfl⟩
def zIl{a b c d e f g i:Nat}(h:∀x∈[a,b,c,d,e,f,g,i],x<256)(r:List Nat) :
  nG (xX (a::b::c::d::e::f::g::i::r) 0)=[a,b,c,d,e,f,g,i]:=by
 simp only[aaJ,List.not_mem_nil,or_false,forall_eq_or_imp,forall_eq] at h;obtain⟨j,k,l,m,n,o,p,q⟩:=h;simp[nG,xX,cT,aay,aay.loop];omega
def zGN{c b:List Nat}(d:c.length=8)(k:Nat):xX (c++b) (k+1)=xX b k:=by
 have e:∀i,(c++b).getD (8*(k+1)+i) 0=b.getD (8*k+i) 0:=λi=>by
  rw[aag,aag,List.getElem?_append_right an]
  congr 2;omega
 have a:=e 0;simp only[aa1] at a;simp only[xX,e,a]
def zCh{c b:List Nat}(a:c.length=8):oR (c++b)=xX (c++b) 0::oR b:=by
 unfold oR;rw[aau,a,show(8+b.length)/8=b.length/8+1 by omega,List.range_succ_eq_map,aaL,List.map_map]
 congr 1
 refine List.map_congr_left λk _=>?_;exact zGN a k
def zwD:∀(n:Nat) {b:List Nat},b.length=8*n->(∀x∈b,x<256)->kR (oR b)=b
 | 0,b,h,_=>by
  have:b=[]:=List.length_eq_zero_iff.1 an
  subst this;rfl
 | n+1,b,h,m=>by
  obtain⟨a,d,e,f,g,i,j,k,r,rfl⟩:=zFz b an;have:=zCh (c:=[a,d,e,f,g,i,j,k]) (b:=r) rfl;simp only[List.cons_append,List.nil_append] at this;rw[this,show ∀(x:af) (w:List af),kR (x::w)=nG x++kR w from λ_ _=>rfl,zIl (λx l=>m x (by rw[show a::d::e::f::g::i::j::k::r=[a,d,e,f,g,i,j,k]++r from rfl];exact List.mem_append_left _ l)) r,zwD n (by simp at h;omega) (λx l=>m x (by simp[l]))]
  rfl
def abq{b:List Nat}(a:∀x∈b,x<256)(k:Nat):(xX b k).k<4294967296:=by
 have e:∀i,b.getD i 0<256:=λi=>by
  rw[aag]
  cases h:b[i]? with
  | none=>simp
  | some x=>exact a x (aak h)
 have c:=e (8*k+4);have d:=e (8*k+5);have f:=e (8*k+6);have g:=e (8*k+7);simp only[xX];omega
def zui{b:List Nat}{w:List af}(a:∀x∈b,x<256)(h:pK b=some w):kR w=b/\(∀x∈w,jv x=true)/\(∀x∈w,x.k<4294967296)/\w.length<=4096:=by
 unfold pK at h;split at h
 .rename_i d;obtain⟨f,g,e⟩:=d;cases h;refine⟨zwD (b.length/8) an a,by simpa using e,λx c=>?_,by simp[oR];omega⟩;simp only[oR,aaD] at c;obtain⟨k,_,rfl⟩:=c;exact abq a k
 .cases h
def abr{a b:Nat}(c:a<256)(d:b<256):uU .i64 (a:Int) (je .i64 (b:Int) 8)=((a+256*b:Nat):Int):=by
 have h:=Rx (a:=b) (j:=8) an an;rw[show((8:Nat):Int)=8 from rfl] at h;rw[h,DY an an,aa0,aa2,<-aaG (i:=8) an]
 congr 1;omega
def zrZ[aA G][iq G](b:List Nat)(o:∀x∈b,x<256)(hl:b.length<=1000000):∃e:Int,FP G 429 [.vs (aj .u8 b) .no] (.a_ [FL ((pK b).getD []),.int .i64 e])/\((e==0)=(pK b).isSome):=by
 by_cases X:32768<b.length
 .have d:pK b=none:=if_neg λh=>by omega
  refine⟨3,?_,by rw[d];rfl⟩;refine bt iq.af7 (aad rfl) ?_;have t:(32768<(b.length:Int))=True:=ag5;rw[d];simp[t,FL]
 have t:(32768<(b.length:Int))=False:=ag6;have Y:fU (b.length:Int) 8=((b.length%8:Nat):Int):=vH (b:=8)
 by_cases w:b.length%8=0
 rotate_left
 .have d:pK b=none:=if_neg λh=>by omega
  refine⟨9,?_,by rw[d];rfl⟩;refine bt iq.af7 (aad rfl) ?_
  have Z:(((b.length%8:Nat):Int) !=0)=true:=by simp;omega
  rw[d];simp[t,Y,Z,FL,-aaB]
 have Z:(((b.length%8:Nat):Int) !=0)=false:=by simp;omega
 obtain⟨N,hN⟩:∃N,b.length=8*N:=⟨b.length/8,an⟩
 have nM:(oR b).length=N:=by simp[oR];omega
 have y:∀k,k<N->(oR b)[k]?=some (xX b k):=λk p=>by
  unfold oR;rw[List.getElem?_map,List.getElem?_range an];rfl
 obtain⟨R,A⟩:=bb (pK b)
 have C:∀k,k<N->jv (xX b k)=false->R=none:=λk p h=>by
  rw[A];refine if_neg λhc=>?_;have:=aaC.1 hc.2.2 _ (aak (y k p));rw[h] at this;cases this
 have cM:(∀k,k<N->jv (xX b k)=true)->R=some (oR b):=λh=>by
  rw[A];refine if_pos ⟨an,w,aaC.2 λx a=>?_⟩;obtain⟨k,p⟩:=List.getElem?_of_mem a
  have F:k<N:=by have:=(aab.1 p).1;omega
  rw[y k F] at p;cases p;exact h k F
 rw[<-A];obtain⟨E,H⟩:∃E:V->Prop,∀r,E r↔∃e:Int,r=.a_ [FL (R.getD []),.int .i64 e]/\((e==0)=R.isSome):=⟨_,λ_=>Iff.rfl⟩
 suffices hs:∃r,FP G 429 [.vs (aj .u8 b) .no] r/\E r by
  obtain⟨r,I,J⟩:=hs;obtain⟨e,rfl,L⟩:=(H r).1 J;exact⟨e,I,L⟩
 refine FX iq.af7 (aad rfl) ?_;obtain⟨B,q⟩:∃B:Nat->List Nat,∀k,B k=b.drop (8*k):=⟨_,λ_=>rfl⟩;obtain⟨D,hD⟩:=bb (oR b);rw[<-hD] at nM y cM
 have CR:B 0=b:=by rw[q];rfl
 have EJ:∀k,(B k).length=8*N-8*k:=λk=>by rw[q,aan,hN]
 have LK:fU (b.length:Int) 8=0:=by rw[Y,w];rfl
 rw[<-CR] at t LK;rw[show aj .u8 b=aj .u8 (B 0) by rw[CR]];simp[t,LK];refine aM N (λk=>[(0,.vs (aj .u8 (B k)) .no),(4,.vs (IL (D.take k)) (.own 0))]) (λk=>[some (.zone k)]) (λk=>∀j<k,jv (xX b j)=true) ?_ ?_
 .simp[aw,ak]
 intro k F jB;have js:=EJ k
 by_cases M:k<N
 .obtain⟨f,g,l,m,a4,a5,a6,a7,r,n⟩:=zFz (B k) an;have s:∀x∈B k,x<256:=λx a=>o x (aal (by rw[q] at a;exact a))
  have O:f<256/\g<256/\l<256/\m<256/\a4<256/\a5<256/\a6<256/\a7<256:=by rw[n] at s;simp only[aaJ,forall_eq_or_imp] at s;obtain⟨P,I,J,L,h4,h5,h6,h7,_⟩:=s;exact⟨P,I,J,L,h4,h5,h6,h7⟩
  obtain⟨m0,m1,m2,m3,m4,m5,m6,m7⟩:=O
  have gd:∀i,b.getD (8*k+i) 0=(B k).getD i 0:=λi=>by
   rw[q,aag,aag,List.getElem?_drop]
  have u:=gd 0;simp only[aa1] at u;obtain⟨x,a⟩:=bb (xX b k);obtain⟨K,hK⟩:=bb (a4+256*a5+65536*a6+16777216*a7)
  have fy:x=⟨(f+256*g:Nat),l,m,K⟩:=by rw[a,xX,gd,gd,gd,gd,gd,gd,gd,u,n,hK];rfl
  have v9:K<4294967296:=an
  have b0:(B k)[0]?=some f:=by rw[n];rfl
  have b1:(B k)[1]?=some g:=by rw[n];rfl
  have b2:(B k)[2]?=some l:=by rw[n];rfl
  have b3:(B k)[3]?=some m:=by rw[n];rfl
  have bk:∀i,i<4->(B k)[4+i]?=some (K/256^i%256):=by
   intro i hi;rw[n]
   have:i=0\/i=1\/i=2\/i=3:=an
   rcases this with rfl|rfl|rfl|rfl<;>simp<;>omega
  have f0:=(aab.1 b0).2;have f1:=(aab.1 b1).2;have f2:=(aab.1 b2).2;have f3:=(aab.1 b3).2;have kU:(0<(B k).length)=True:=ag5
  have LI:(B k).drop 8=B (k+1):=by rw[q,q,List.drop_drop];congr 1
  have c:∀b:Nat,b<256->eP .i64 (b:Int)=(b:Int):=λb o=>IntWalk.i64_in _ ⟨an,an⟩;have PB:∀b:Nat,b<256->eP .u32 (b:Int)=(b:Int):=λb o=>IntWalk.u32_in _ ⟨an,an⟩;have c0:=c f m0;have X:=c g m1;have w:=c l m2;have c3:=c m m3;have ho:=abr m0 m1;simp(disch:=omega)[kU,f0,f1,f2,f3,c0,X,w,c3,ho,-aae,-aai];have wR:=K7 (G:=G) x
  have EW:x.cs=[.int .i64 ((f+256*g:Nat):Int),.int .i64 (l:Int),.int .i64 (m:Int),.int .u32 (K:Int)]:=by rw[af.cs,fy]
  simp only[IV,EW] at wR;obtain⟨v,z⟩:∃v:Nat->Nat,∀i,v i=K%256^i:=⟨_,λ_=>rfl⟩
  have PC:v 0=0:=by rw[z];simp[aaP]
  have LJ:v 4=K:=by rw[z];exact aaj v9
  refine aM 4 (λi=>[(0,.vs (aj .u8 (B k)) .no),(4,.vs (IL (D.take k)) (.own 0)),(5,.ptr 1 0),(40,.int .i64 i)]) (λi=>[some (.zone k),some (.cells [.int .i64 (f+256*g:Nat),.int .i64 l,.int .i64 m,.int .u32 (v i)])]) (λ_=>True) ?_ ?_
  .simp[aw,ak,PC,-aae,-aai]
  intro i hi _
  by_cases Q:i<4
  .have o:=bk i Q;have s:K/256^i%256<256:=aax _ ag7;have S:=zs4 K i Q v9;rw[<-z,<-z] at S;obtain⟨T,Ba⟩:=bb (K/256^i%256);rw[<-Ba] at o s S
   have m8:dN .i64 8 (i:Int)=((8*i:Nat):Int):=by unfold dN;rw[show((8:Int)*(i:Int))=((8*i:Nat):Int) by omega];exact IntWalk.i64_in _ ⟨an,an⟩
   have U:aD .i64 4 (i:Int)=((4+i:Nat):Int):=by rw[eG]<;>omega
   have cb:=PB T s;have fb:=(aab.1 o).2;have PD:(((8*i:Nat):Int)<0)=False:=ag6;have Ca:((i:Int)<4)=True:=ag5;simp(disch:=omega)[Ca,PD,fb,m8,U,cb,S,aw,ak,bD,Q,-aae,-aai]
  .have:i=4:=an
   subst this;simp(disch:=omega)[LJ,-aae,-aai];refine au wR ?_
   cases GJ:jv x with
   | false =>
    have d:=C k M (by rw[<-a];exact GJ);have W:E (.a_ [.vs [] .no,.int .i64 2]):=(H _).2 ⟨2,by rw[d];rfl,by rw[d];rfl⟩
    simpa[aw,ak] using W
   | true =>
   have jN:((k+1)*32<=140737488355328)=True:=ag5
   have fS:(D.take k).length=k:=by rw[aao];omega
   have eF:IL (D.take k)++[[.int .i64 ((f+256*g:Nat):Int),.int .i64 (l:Int),.int .i64 (m:Int),.int .u32 (K:Int)]]=IL (D.take (k+1)):=by rw[<-EW,Om,aaA,y k M,<-a];rfl
   have h8:((8:Int)<=((B k).length:Int))=True:=ag5;have l8:(B (k+1)).take ((B k).length-8)=B (k+1):=aaf (by rw[<-LI,aan];omega);simp(disch:=omega)[aw,ak,jN,fS,eF,h8,Am,xK,LI,l8,M,-aae,-aai];intro j hj
   rcases aar (Nat.le_of_lt_succ hj) with h|h
   .rw[h,<-a];exact GJ
   .exact jB j h
 .have:k=N:=an
  subst this;have P:(0<(B k).length)=False:=ag6;have hr:=cM jB;have eQ:D.take k=D:=aaf an;have W:E (.a_ [.vs (IL D) .no,.int .i64 0]):=(H _).2 ⟨0,by rw[hr];rfl,by rw[hr];rfl⟩;simp(disch:=omega)[P,eQ];exact W
def PE(r:Nat):Nat:=(r/2) ^^^ (3988292384*(r%2))
def zEr{r:Nat}(h:r<4294967296):PE r<4294967296:=by unfold PE;exact aaH (n:=32) an an
def zEs{r:Nat}(h:r<4294967296):vn .u32 (jV .u32 (r:Int) 1) (dN .u32 3988292384 (jU .u32 (r:Int) 1))=(PE r:Nat):=by
 have c:jU .u32 (r:Int) 1=((r%2:Nat):Int):=by have:=Nc (a:=r) (b:=1) h ag7;rw[show((1:Nat):Int)=1 from rfl] at this;rw[this,Nat.and_one_is_mod]
 have d:jV .u32 (r:Int) 1=((r/2:Nat):Int):=by have:=A_ (a:=r) (j:=1) ag7;simpa using this
 have e:dN .u32 3988292384 ((r%2:Nat):Int)=((3988292384*(r%2):Nat):Int):=by unfold dN;rw[show(3988292384:Int)*((r%2:Nat):Int)=((3988292384*(r%2):Nat):Int) by omega];exact IntWalk.u32_in _ ⟨an,an⟩
 rw[c,d,e,WN an an];rfl
def JA:Nat->Nat->Nat
 | 0,r=>r
 | n+1,r=>PE (JA n r)
def zoQ{r:Nat}(h:r<4294967296):∀n,JA n r<4294967296
 | 0=>h
 | n+1=>zEr (zoQ h n)
def PF(r x:Nat):Nat:=JA 8 (r ^^^ x)
def PG(b:List Nat):Nat:=b.foldl PF 4294967295
def Cb(b:List Nat):Nat:=4294967295-PG b
def G4(b:List Nat):List Nat:=b++cT (Cb b) 4
def zyP:∀(b:List Nat) (r:Nat),r<4294967296->(∀x∈b,x<256)->b.foldl PF r<4294967296
 | [],r,h,_=>h
 | x::b,r,h,a=>zyP b _ (zoQ (aaH (n:=32) h (by have:=a x ir;omega)) 8) (λy c=>a y (by simp[c]))
def zwE{b:List Nat}(a:∀x∈b,x<256):∀x∈G4 b,x<256:=by
 intro x c
 rcases aat.1 c with h|h
 .exact a x h
 .simp only[cT,aaD,List.mem_range] at h;obtain⟨j,_,rfl⟩:=h;exact aax _ ag7
def zIm[bA G](b:List Nat)(p:∀x∈b,x<256)(I:b.length<=1000000):FP G 472 [.vs (aj .u8 b) .no] (.int .u32 (Cb b:Nat)):=by
 refine bt bA.agv (aad rfl) ?_;obtain⟨R,c⟩:∃R:Nat->Nat,∀i,R i=(b.take i).foldl PF 4294967295:=⟨_,λ_=>rfl⟩
 have j:R 0=4294967295:=by rw[c];rfl
 have u:PG b=R b.length:=by rw[c,aaW];rfl
 have l:∀i,R i<4294967296:=λi=>by rw[c];exact zyP _ _ ag7 (λx d=>p x (aah d))
 have m:∀i x,b[i]?=some x->R (i+1)=PF (R i) x:=λi x h=>by rw[c,c,aaA,h,aaN,List.foldl_append];rfl
 rw[Cb,u];simp;refine aM b.length (λi=>[(3,.int .u32 (R i:Nat)),(6,.vs (aj .u8 b) .no),(7,.int .i64 b.length),(8,.int .i64 i)]) (λ_=>[]) (λ_=>True) ?_ ?_
 .simp[aw,ak,j]
 intro i hi _
 rcases aar hi with f|s
 .subst f
  have v:AF .u32 (R b.length:Int)=((4294967295-R b.length:Nat):Int):=by
   have:=l b.length;unfold AF;rw[show(if IntKind.u32.signed=true then(-1:Int) else IntKind.u32.max)=((4294967295:Nat):Int) from rfl,si,si,aaX,aav,aav];simp only[IntKind.bits];rw[aaj (show 4294967295<2^32 by decide),aaj (show R b.length<2^32 from this)]
   have e:4294967295 ^^^ R b.length=4294967295-R b.length:=by
    have q:(BitVec.allOnes 32 ^^^ BitVec.ofNat 32 (R b.length)).toNat=2^32-1-R b.length:=by rw[BitVec.allOnes_xor,BitVec.toNat_not,aav,aaj (show R b.length<2^32 from this)]
    rw[aaX,BitVec.toNat_allOnes,aav,aaj (show R b.length<2^32 from this)] at q;exact q
   rw[e];exact sG an
  simp[v]
 .obtain⟨x,d⟩:∃x,b[i]?=some x:=⟨_,aap s⟩;obtain⟨_,w⟩:=aab.1 d;have J:=p x (aak d);have y:((i:Int)<(b.length:Int))=True:=ag5
  have z:aD .i64 (i:Int) 1=((i+1:Nat):Int):=by rw[eG]<;>omega
  have A:eP .u32 (x:Int)=(x:Int):=IntWalk.u32_in _ ⟨an,an⟩;have t:=WN (a:=R i) (b:=x) (l i) an;have g:=m i x d;obtain⟨r,o⟩:=bb (R i ^^^ x)
  have B:r<4294967296:=by rw[o];exact aaH (n:=32) (l i) an
  rw[<-o] at t;rw[PF,<-o] at g;simp(disch:=omega)[y,w,A,t];refine aM 8 (λk=>[(3,.int .u32 (JA k r:Nat)),(6,.vs (aj .u8 b) .no),(7,.int .i64 b.length),(8,.int .i64 i),(16,.int .i64 k)]) (λ_=>[]) (λ_=>True) ?_ ?_
  .simp[aw,ak,JA]
  intro k C _
  rcases aar C with f|D
  .subst f;simp[aw,ak,z,s,g,-aae]
  .have E:((k:Int)<8)=True:=ag5
   have F:aD .i64 (k:Int) 1=((k+1:Nat):Int):=by rw[eG]<;>omega
   have H:=zEs (zoQ B k);have f:JA (k+1) r=PE (JA k r):=rfl;simp[E,F,H,f,D,aw,ak,-aae]
def zyQ[bA G](b:List Nat)(m:∀x∈b,x<256)(n:b.length<=1000000):FP G 474 [.vs (aj .u8 b) .no] (.vs (aj .u8 (G4 b)) .no):=by
 refine bt bA.agx (aad rfl) ?_;have h:=zIm (G:=G) b m n;obtain⟨c,g⟩:=bb (Cb b)
 have s:c<4294967296:=by rw[g,Cb];omega
 have i:jV .u32 (c:Int) 8=((c/256:Nat):Int):=by have:=A_ (a:=c) (j:=8) ag7;simpa using this
 have d:jV .u32 (c:Int) 16=((c/65536:Nat):Int):=by have:=A_ (a:=c) (j:=16) ag7;simpa using this
 have e:jV .u32 (c:Int) 24=((c/16777216:Nat):Int):=by have:=A_ (a:=c) (j:=24) ag7;simpa using this
 have o:(b.length<=140737488355328)=True:=ag5;have p:(b.length+4<=140737488355328)=True:=ag5
 have q:(∀f∈aj .u8 b,f.length=1)=True:=by simp only[eq_iff_iff,iff_true];intro f k;simp only[aj,aaD] at k;obtain⟨_,_,rfl⟩:=k;rfl
 have r:aj .u8 (G4 b)=aj .u8 b++[[.int .u8 ((c%256:Nat):Int)],[.int .u8 ((c/256%256:Nat):Int)],[.int .u8 ((c/65536%256:Nat):Int)],[.int .u8 ((c/16777216%256:Nat):Int)]]:=by simp[G4,<-g,cT,aay,aay.loop,aj]
 rw[r];rw[<-g] at h;simp;refine au h ?_
 by_cases l:aj .u8 b=[]
 .simp[l,i,d,e,LL,-aaY,-aaB];omega
 .simp[l,i,d,e,LL,o,p,q,-aaY,-aaB];omega
def oS(b:List Nat):List Nat×Nat:=if b.length<4 then([],9) else if G4 (b.take (b.length-4))=b then(b.take (b.length-4),0) else([],10)
def zjV:∀{a b:List Nat},(∀x∈a,x<256)->(∀x∈b,x<256)->a.map aas=b.map aas->a=b
 | [],[],_,_,_=>rfl
 | [],_::_,_,_,h=>by simp at h
 | _::_,[],_,_,h=>by simp at h
 | x::a,y::b,d,f,h=>by
  simp only[aaL,List.cons.injEq] at h;have g:=d x ir;have i:=f y ir;have e:=congrArg UInt8.toNat h.1;simp only[aaO] at e;rw[aaj an,aaj an] at e;rw[e,zjV (λz c=>d z (by simp[c])) (λz c=>f z (by simp[c])) h.2]
def zGO[bA G](b:List Nat)(i:∀x∈b,x<256)(w:b.length<=1000000):FP G 473 [.vs (aj .u8 b) .no] (.a_ [.vs (aj .u8 (oS b).1) .no,.int .i64 ((oS b).2:Nat)]):=by
 refine bt bA.agw (aad rfl) ?_;have n1:bP .i64 (b.length:Int) 4=(b.length:Int)-4:=nQ an an;unfold oS
 by_cases o:b.length<4
 .have a:((b.length:Int)-4<0)=True:=ag5;rw[if_pos o];simp[n1,a,aj]
 rw[if_neg o];obtain⟨n,r⟩:=bb (b.length-4)
 have s:(b.length:Int)-4=(n:Int):=an
 rw[s] at n1;rw[<-r];have j:∀x∈b.take n,x<256:=λx t=>i x (aah t);have k:=zyQ (G:=G) (b.take n) j (by rw[aao];omega);have p:=PJ _ (zwE j);have l:=PJ _ i;have a:((n:Int)<0)=False:=ag6;have c:((n:Int)<=(b.length:Int))=True:=ag5;have d:((0:Int)<=(n:Int))=True:=ag5;have y:((b.take n).length<=140737488355328)=True:=eq_true (by rw[aao];omega)
 have u:(b.take n).length=n:=by rw[aao];omega
 have m:(n<=140737488355328)=True:=ag5
 have v:(∀f∈aj .u8 (b.take n),f.length=1)=True:=by simp only[eq_iff_iff,iff_true];intro f q;simp only[aj,aaD] at q;obtain⟨_,_,rfl⟩:=q;rfl
 by_cases e:G4 (b.take n)=b
 .rw[if_pos e];rw[e] at k p;simp[n1,d,a,c,xK];refine au k ?_
  by_cases g:aj .u8 (b.take n)=[]
  .simp[g,l,d,c,xK]
  .simp[g,l,d,c,xK,m,u,v]
 .rw[if_neg e]
  have g:((G4 (b.take n)).map aas==b.map aas)=false:=by rw[beq_eq_false_iff_ne];exact λh=>e (zjV (zwE j) i h)
  simp[n1,d,a,c,xK];refine au k ?_;simp[p,l,g]
def lvN(b:List Nat):Nat:=b.getD 0 0+256*b.getD 1 0+65536*b.getD 2 0+16777216*b.getD 3 0
def uI(b:List Nat):Option (TR×List Nat) :=
 if b.length<6 then none
 else if(b.drop 6).length<8*b.getD 4 0+8*b.getD 5 0 then none
 else match pK ((b.drop 6).take (8*b.getD 4 0)),pK (((b.drop 6).drop (8*b.getD 4 0)).take (8*b.getD 5 0)) with
  | some f,some g=>some (⟨f,g,lvN b⟩,(b.drop 6).drop (8*b.getD 4 0+8*b.getD 5 0))
  | _,_=>none
def zyR{b q:List Nat}{r:TR}(c:∀x∈b,x<256)(h:uI b=some (r,q)):r.ok/\(∀x∈q,x<256)/\q.length<b.length:=by
 unfold uI at h;split at h
 .cases h
 rename_i n;split at h
 .cases h
 have hd:∀x∈b.drop 6,x<256:=λx a=>c x (aal a);split at h
 .rename_i f g d j;cases h;obtain⟨_,o,k,p⟩:=zui (λx a=>hd x (aah a)) d;obtain⟨_,s,l,t⟩:=zui (λx a=>hd x (aal (aah a))) j
  have e:∀i,b.getD i 0<256:=λi=>by
   rw[aag]
   cases h:b[i]? with
   | none=>simp
   | some x=>exact c x (aak h)
  have u:=e 0;have v:=e 1;have w:=e 2;have y:=e 3
  have m:lvN b<4294967296:=by unfold lvN;omega
  refine⟨⟨by simp only[maxLen];omega,by simp only[maxLen];omega,k,l,m⟩,λx a=>hd x (aal a),by simp;omega⟩
 .cases h
def six(l:List Nat)(h:6<=l.length):∃a b c d e f r,l=a::b::c::d::e::f::r:=by
 match l,h with
 | a::b::c::d::e::f::r,_=>exact⟨a,b,c,d,e,f,r,rfl⟩
def zCi[aA G][iq G][bA G](b:List Nat)(I:∀x∈b,x<256)(hl:b.length<=1000000) :
  ∃r q,FP G 475 [.vs (aj .u8 b) .no] (.a_ [TV r,.vs (aj .u8 q) .no,.bool (uI b).isSome])/\∀r' j,uI b=some (r',j)->r=r'/\q=j:=by
 obtain⟨R,J⟩:=bb (uI b);rw[<-J];obtain⟨E,z⟩:∃E:V->Prop,∀v,E v↔∃r q,v=.a_ [TV r,.vs (aj .u8 q) .no,.bool R.isSome]/\∀r' j,R=some (r',j)->r=r'/\q=j:=⟨_,λ_=>Iff.rfl⟩
 suffices hs:∃r,FP G 475 [.vs (aj .u8 b) .no] r/\E r by
  obtain⟨r,a,A⟩:=hs;obtain⟨x,q,rfl,h3⟩:=(z r).1 A;exact⟨x,q,a,h3⟩
 refine FX bA.agy (aad rfl) ?_
 by_cases W:b.length<6
 .have s:R=none:=by rw[J];exact if_pos W
  have L:((b.length:Int)<6)=True:=ag5;have k:E (.a_ [.agg [.vs [] .no,.vs [] .no,.int .u32 0],.vs [] .no,.bool false]):=(z _).2 ⟨⟨[],[],0⟩,[],by rw[s];rfl,by rw[s];intro _ _ h;cases h⟩;simp[L];exact k
 have L:((b.length:Int)<6)=False:=ag6;obtain⟨a0,a1,a2,a3,B,C,c,d⟩:=six b an;have l:=I;rw[d] at l;simp only[aaJ,forall_eq_or_imp] at l;obtain⟨m0,m1,m2,m3,X,Y,Z⟩:=l;obtain⟨n,s⟩:=bb (8*B);obtain⟨m,E9⟩:=bb (8*C);obtain⟨K,hK⟩:=bb (a0+256*a1+65536*a2+16777216*a3)
 have RU:K<4294967296:=an
 have o:R=if c.length<n+m then none else match pK (c.take n),pK ((c.drop n).take m) with
   | some f,some g=>some (⟨f,g,K⟩,c.drop (n+m))
   | _,_=>none:=by
  rw[J,s,E9,hK,uI,if_neg W,d];rfl
 have jX:c.length+6=b.length:=by rw[d];simp
 have b4:b[4]?=some B:=by rw[d];rfl
 have b5:b[5]?=some C:=by rw[d];rfl
 have bk:∀i,i<4->b[i]?=some (K/256^i%256):=by
  intro i hi;rw[d]
  have:i=0\/i=1\/i=2\/i=3:=an
  rcases this with rfl|rfl|rfl|rfl<;>simp<;>omega
 have f4:=(aab.1 b4).2;have f5:=(aab.1 b5).2
 have t:b.drop 6=c:=by rw[d];rfl
 obtain⟨u,F⟩:∃u:Nat->Nat,∀i,u i=K%256^i:=⟨_,λ_=>rfl⟩
 have PC:u 0=0:=by rw[F];simp[aaP]
 have LJ:u 4=K:=by rw[F];exact aaj RU
 have w:∀x:Nat,x<256->eP .i64 (x:Int)=(x:Int):=λb I=>IntWalk.i64_in _ ⟨an,an⟩;have PB:∀x:Nat,x<256->eP .u32 (x:Int)=(x:Int):=λb I=>IntWalk.u32_in _ ⟨an,an⟩
 have M:∀i:Nat,i<256->dN .i64 8 (i:Int)=((8*i:Nat):Int):=λi hi=>by
  unfold dN;rw[show((8:Int)*(i:Int))=((8*i:Nat):Int) by omega];exact IntWalk.i64_in _ ⟨an,an⟩
 have e4:=w B X;have e5:=w C Y;have N:=M B X;have O:=M C Y;rw[<-s] at N;rw[<-E9] at O;simp[L];refine aM 4 (λi=>[(0,.vs (aj .u8 b) .no),(2,.ptr 0 0),(5,.ptr 1 0),(15,.int .i64 i)]) (λi=>[some (.cells [.vs [] .full,.vs [] .full,.int .u32 0]),some (.cells [.vs [] .full,.vs [] .full,.int .u32 (u i)])]) (λ_=>True) ?_ ?_
 .simp[aw,ak,ax.cl,ba,V.cl,Tk.cl,PC]
 intro i hi _
 by_cases P:i<4
 .have Rw:=bk i P;have l:=aax (K/256^i) (show 0<256 by decide);have Q:=zs4 K i P RU;rw[<-F,<-F] at Q;obtain⟨S,Ba⟩:=bb (K/256^i%256);rw[<-Ba] at Rw l Q;have cb:=PB S l;have fb:=(aab.1 Rw).2;have PD:(((8*i:Nat):Int)<0)=False:=ag6;have Ca:((i:Int)<4)=True:=ag5
  have wF:i<b.length:=an
  have mi:=M i an;simp(disch:=omega)[Ca,PD,fb,mi,cb,Q,aw,ak,ax.cl,ba,V.cl,Tk.cl,bD,P,-aae,-aai]
 have:i=4:=an
 subst this;have y:((6:Int)<=(b.length:Int))=True:=ag5;have xi:c.take (b.length-6)=c:=aaf an
 have H:aD .i64 (n:Int) (m:Int)=((n+m:Nat):Int):=by rw[eG]<;>omega
 have l4:4<b.length:=an
 have l5:5<b.length:=an
 by_cases S4:c.length<n+m
 .have vw:R=none:=by rw[o,if_pos S4]
  have T:((c.length:Int)<((n+m:Nat):Int))=True:=ag5;have k:E (.a_ [.agg [.vs [] .no,.vs [] .no,.int .u32 0],.vs [] .no,.bool false]):=(z _).2 ⟨⟨[],[],0⟩,[],by rw[vw];rfl,by rw[vw];intro _ _ h;cases h⟩;simp(disch:=omega)[LJ,f4,f5,e4,e5,N,O,y,Am,xK,t,xi,H,T,-aae,-aai];exact k
 rw[if_neg S4] at o;have T:((c.length:Int)<((n+m:Nat):Int))=False:=ag6;obtain⟨x1,p1,q1⟩:=zrZ (G:=G) (c.take n) (λx U=>Z x (aah U)) (by rw[aao];omega);obtain⟨x2,p2,q2⟩:=zrZ (G:=G) ((c.drop n).take m) (λx U=>Z x (aal (aah U))) (by rw[aao,aan];omega);obtain⟨e,G6⟩:=bb (pK (c.take n));obtain⟨p,PK⟩:=bb (pK ((c.drop n).take m));rw[<-G6] at p1 q1 o;rw[<-PK] at p2 q2 o
 have r0:((0:Int)<=(n:Int))=True:=ag5;have r1:((n:Int)<=(c.length:Int))=True:=ag5;have r2:((n:Int)<=((n+m:Nat):Int))=True:=ag5;have r3:(((n+m:Nat):Int)<=(c.length:Int))=True:=ag5
 have r4:n+m-n=m:=an
 have r5:(c.drop (n+m)).take (c.length-(n+m))=c.drop (n+m):=aaf (by rw[aan];omega)
 have AT:R.isSome=(e.isSome&&p.isSome):=by rw[o];cases e<;>cases p<;>rfl
 have k:E (.a_ [.agg [.vs (IL (e.getD [])) .no,.vs (IL (p.getD [])) .no,.int .u32 K],.vs (aj .u8 (c.drop (n+m))) .no,.bool (e.isSome&&p.isSome)]):=by
  refine(z _).2 ⟨⟨e.getD [],p.getD [],K⟩,c.drop (n+m),by rw[AT];rfl,?_⟩;intro r' j h;rw[o] at h
  cases a:e with
  | none=>rw[a] at h;cases h
  | some f =>
   cases A:p with
   | none=>rw[a,A] at h;cases h
   | some g=>rw[a,A] at h;cases h;exact⟨rfl,rfl⟩
 simp only[FL] at p1 p2;simp(disch:=omega)[LJ,f4,f5,e4,e5,N,O,y,Am,xK,t,xi,H,T,r0,r1,-aae,-aai];refine au p1 ?_;simp(disch:=omega)[Am,xK,H,r0,r2,r3,r4,-aae,-aai];refine au p2 ?_;simp(disch:=omega)[Am,xK,H,r3,r5,q1,-aae,-aai]
 cases a:e.isSome<;>rw[a] at k<;>simp[q2]<;>simpa using k
def G7:Nat->List Nat->List TR->Option (List TR×List Nat)
 | 0,b,t=>some (t,b)
 | n+1,b,t=>match uI b with
  | none=>none
  | some (r,q)=>G7 n q (t++[r])
def Ce:List Nat:=[72,82,84,49]
def v_(b:List Nat):Option (List TR) :=
 if(oS b).2≠0\/(oS b).1.length<=4\/(oS b).1.take 4≠Ce then none
 else match G7 ((oS b).1.getD 4 0) ((oS b).1.drop 5) [] with
  | some (t,q)=>if q=[]/\ei t=true then some t else none
  | none=>none
def zCj:∀(n:Nat) {b q:List Nat} {t u:List TR},(∀x∈b,x<256)->(∀r∈t,r.ok)->G7 n b t=some (u,q)->∀r∈u,r.ok
 | 0,b,q,t,u,d,c,h=>by cases h;exact c
 | n+1,b,q,t,u,d,c,h=>by
  unfold G7 at h
  cases a:uI b with
  | none=>rw[a] at h;cases h
  | some x =>
   rw[a] at h;obtain⟨e,f,_⟩:=zyR d a
   exact zCj n f (λr a=>by
    rcases aat.1 a with a|a
    .exact c r a
    .rw[aaI.1 a];exact e) h
def zyS{b:List Nat}(a:∀x∈b,x<256):∀x∈(oS b).1,x<256:=by
 unfold oS;split
 .simp
 .split
  .exact λx c=>a x (aah c)
  .simp
def zEt(b:List Nat):(oS b).1.length<=b.length:=by
 unfold oS;split
 .simp
 .split
  .rw[aao];omega
  .simp
def zGP{b:List Nat}{t:List TR}(a:∀x∈b,x<256)(h:v_ b=some t):ei t=true/\∀r∈t,r.ok:=by
 unfold v_ at h;split at h
 .cases h
 .split at h
  .rename_i u q c;split at h
   .rename_i d;cases h;exact⟨d.2,zCj _ (λx e=>zyS a x (aal e)) ir c⟩
   .cases h
  .cases h
def zAg[aA G][iq G][aB G][aO G][eA G][cQ G][bA G](b:List Nat)(P:∀x∈b,x<256)(hl:b.length<=1000000) :
  ∃e:Int,FP G 476 [.vs (aj .u8 b) .no] (.a_ [TF ((v_ b).getD []),.int .i64 e])/\((e==0)=(v_ b).isSome):=by
 obtain⟨R,a⟩:=bb (v_ b);rw[<-a];obtain⟨E,J⟩:∃E:V->Prop,∀v,E v↔∃e:Int,v=.a_ [TF (R.getD []),.int .i64 e]/\((e==0)=R.isSome):=⟨_,λ_=>Iff.rfl⟩
 suffices hs:∃r,FP G 476 [.vs (aj .u8 b) .no] r/\E r by
  obtain⟨r,h1,h2⟩:=hs;obtain⟨e,rfl,h3⟩:=(J r).1 h2;exact⟨e,h1,h3⟩
 have f:R=none->∀e:Int,(e==0)=false->E (.a_ [.vs [] .no,.int .i64 e]):=λh e he=>(J _).2 ⟨e,by rw[h];rfl,by rw[h,he];rfl⟩;refine FX bA.agz (aad rfl) ?_;have Q:=zGO (G:=G) b P hl;have w:=zyS P;have jX:=zEt b;unfold v_ at a;obtain⟨c,K⟩:=bb ((oS b).1);obtain⟨p,T⟩:=bb ((oS b).2);rw[<-K,<-T] at Q;rw[<-K] at w jX;rw[<-K,<-T] at a;simp;refine au Q ?_
 by_cases U:p=0
 rotate_left
 .have o:R=none:=by rw[a,if_pos (Or.inl U)]
  have g:((p:Int) !=0)=true:=by simp;omega
  have j:=f o p (by simp;omega);simp[g];exact j
 have g:((p:Int) !=0)=false:=by simp;omega
 by_cases h4:c.length<=4
 .have o:R=none:=by rw[a,if_pos (Or.inr (Or.inl h4))]
  have F:((c.length:Int)<=4)=True:=ag5;have j:=f o 2 rfl;simp[g,F];exact j
 have F:((c.length:Int)<=4)=False:=ag6;have W:((4:Int)<=(c.length:Int))=True:=ag5;have X:=PJ (c.take 4) (λx m=>w x (aah m))
 by_cases H:c.take 4=Ce
 rotate_left
 .have o:R=none:=by rw[a,if_pos (Or.inr (Or.inr H))]
  have A:((c.take 4).map aas==[72,82,84,49])=false:=by rw[beq_eq_false_iff_ne];exact λh=>H (zjV (λx m=>w x (aah m)) ag7 h)
  rw[aaZ] at A;have j:=f o 2 rfl;simp[g,F,W,xK,X,A];exact j
 have A:((c.take 4).map aas==[72,82,84,49])=true:=by rw[H];rfl
 rw[aaZ] at A;rw[if_neg (by simp[U,H];omega)] at a;obtain⟨n,o⟩:∃n,c[4]?=some n:=⟨_,aap an⟩;have fn:=(aab.1 o).2;have ha:=w n (aak o);rw[aag,o,Option.getD_some] at a;have cn:eP .i64 (n:Int)=(n:Int):=IntWalk.i64_in _ ⟨an,an⟩;have h5:((5:Int)<=(c.length:Int))=True:=ag5
 have l4:4<c.length:=an
 have Y:(c.drop 5).take (c.length-5)=c.drop 5:=aaf (by rw[aan];omega);obtain⟨d,hd⟩:=bb (c.drop 5);rw[<-hd] at a Y
 have hf:(aj .u8 c).drop 5=aj .u8 d:=by rw[Am,<-hd]
 have L:∀x∈d,x<256:=λx m=>w x (aal (by rw[hd] at m;exact m))
 have nM:d.length<=1000000:=by rw[hd,aan];omega
 simp[g,F,W,xK,X,A,fn,l4,cn,h5,Am,<-hd,Y];obtain⟨M,B⟩:=bb (G7 n d []);rw[<-B] at a
 refine xe (S:=Nat×List Nat×List TR) (λs=>n-s.1) (λs=>[(0,.vs (aj .u8 s.2.1) .no),(5,.vs (TL s.2.2) (.own 0)),(33,.int .i64 n),(34,.int .i64 (s.1:Nat))]) (λs=>[some (.zone s.2.2.length)])
  (λs=>s.1<=n/\s.2.2.length=s.1/\(∀x∈s.2.1,x<256)/\s.2.1.length<=1000000/\(∀r∈s.2.2,r.ok)/\G7 (n-s.1) s.2.1 s.2.2=M) (0,d,[]) ?_ ?_
 .refine⟨⟨Nat.zero_le _,rfl,L,nM,ir,B.symm⟩,?_,?_⟩
  .simp[aw,TL]
  .simp[ak]
 rintro⟨i,x,t⟩ ⟨p1,p2,p3,p4,N,l⟩;simp only at p1 p2 p3 p4 N l |-
 by_cases ah:i<n
 .have u:((i:Int)<(n:Int))=True:=ag5;obtain⟨k,hk⟩:∃k,n-i=k+1:=⟨n-i-1,an⟩;obtain⟨r,q,C,Z⟩:=zCi (G:=G) x p3 p4;rw[hk] at l;unfold G7 at l;simp only[TV,TR.cs] at C
  cases O:uI x with
  | none =>
   rw[O] at l C;simp only at l;rw[<-l] at a;have j:=f a 2 rfl;simp[u];refine au C ?_;simp
   exact j
  | some y =>
   rw[O] at l C Z;obtain⟨y1,y2⟩:=y;obtain⟨e1,e2⟩:=Z y1 y2 rfl;subst e1;subst e2;obtain⟨o1,o2,o3⟩:=zyR p3 O;simp only at l;have jN:((t.length+1)*56<=140737488355328)=True:=ag5;have dC:=PL t;have eF:TL t++[r.cs]=TL (t++[r]):=TZ t r
   have a1:aD .i64 (i:Int) 1=((i+1:Nat):Int):=by rw[eG]<;>omega
   simp only[TR.cs] at eF;simp[u];refine au C ?_;simp[jN,dC,eF,a1,-aae];refine⟨(i+1,q,t++[r]),by simp only;omega,⟨by simp only;omega,by simp;omega,o2,by simp only;omega,?_,by simp only[show n-(i+1)=k by omega];exact l⟩,?_,?_⟩
   .intro z hz
    rcases aat.1 hz with hz|hz
    .exact N z hz
    .rw[aaI.1 hz];exact o1
   .simp[aw]
   .simp[ak,ax.cl]
 .have jh:i=n:=an
  subst jh;have u:((i:Int)<(i:Int))=False:=ag6;rw[Nat.sub_self] at l;rw[<-l] at a;simp only[G7] at a;have D:=PM (G:=G) t an N;simp only[TF] at D
  by_cases m:x=[]
  .subst m
   cases I:ei t with
   | true =>
    rw[I] at D;simp only[I,and_self,if_true] at a;have j:E (.a_ [.vs (TL t) .no,.int .i64 0]):=(J _).2 ⟨0,by rw[a];rfl,by rw[a];rfl⟩;simp[u,aj];refine au D ?_;simp
    exact j
   | false =>
    rw[I] at D;simp only[I,and_false,if_false,Bool.false_eq_true] at a;have j:=f a 2 rfl;simp[u,aj];refine au D ?_;simp;exact j
  .have hp:=List.length_pos_iff.2 m;have il:((0:Int)<(x.length:Int))=True:=ag5;have Yj:0<x.length:=hp;simp only[m,false_and,if_false] at a;have j:=f a 2 rfl;simp[u,Yj];exact j
def zFA(t:List TR):List Nat:=Ce++[t.length%256]++t.flatMap TR.tM
def E_(t:List TR):List Nat:=G4 (zFA t)
def zwF(r:TR):r.tM.length=6+8*r.fr.length+8*r.to.length:=by simp only[TR.tM,aau,Dv];simp[cT]
def zoR:∀{l:List Nat},(∀b∈l,b<256)->qY (l.map aas)=aj .u8 l
 | [],_=>rfl
 | b::l,h=>by
  have a:=zoR (l:=l) λc d=>h c (by simp[d]);have f:=h b ir
  have e:(aas b).toNat=b:=by rw[aaO];omega
  simp only[qY,aj,aaL,e] at a |-;rw[a]
def zAh[aA G][aB G][aO G][eA G][cQ G][bA G](t:List TR)(g:ei t=true)(o:∀r∈t,r.ok):FP G 477 [TF t] (.a_ [.vs (aj .u8 (E_ t)) .no,.int .i64 0]):=by
 refine bt bA.agA (aad rfl) ?_;have A:t.length<=64:=(PN g).2;have k:=PM (G:=G) t an o;rw[g] at k
 have p:∀r∈t,r.may=true:=λr b=>by
  simp only[ei,aaq] at g;exact aaC.1 g.1.1 r b
 obtain⟨T,c⟩:∃T:Nat->List Nat,∀j,T j=Ce++[t.length%256]++(t.take j).flatMap TR.tM:=⟨_,λ_=>rfl⟩
 have q:T 0=[72,82,84,49,t.length%256]:=by rw[c];rfl
 have B:zFA t=T t.length:=by rw[c,aaW];rfl
 have s:∀i r,t[i]?=some r->T (i+1)=T i++r.tM:=λi r h=>by rw[c,c,aaA,h,aaN,List.flatMap_append];simp
 have u:∀r∈t,r.tM.length<=600:=λr b=>by
  have:=JC (p r b);rw[zwF];omega
 have v:∀j,j<=t.length->(T j).length<=5+600*j:=by
  intro j
  induction j with
  | zero=>intro _;rw[q];simp
  | succ j C =>
   intro R;have d:t[j]?=some t[j]:=aap an;have:=C an;have:=u t[j] (List.getElem_mem _);rw[s j _ d,aau];omega
 have l:∀j,∀x∈T j,x<256:=λj x a=>by
  rw[c] at a
  rcases aat.1 a with a|a
  .rcases aat.1 a with a|a
   .have:∀y∈Ce,y<256:=by decide
    exact this x a
   .rw[aaI.1 a];exact aax _ ag7
  .simp only[List.mem_flatMap] at a;obtain⟨r,_,b⟩:=a;exact zwV r x b
 have D:=zyQ (G:=G) (T t.length) (l _) (by have:=v t.length (aaT _);omega);rw[E_,B];have E:=LL t.length;simp only[TF] at k;have F:pZ 1 4 [V.int .u8 72,.int .u8 82,.int .u8 84,.int .u8 49]=[[V.int .u8 72],[V.int .u8 82],[V.int .u8 84],[V.int .u8 49]]:=rfl;simp[TF];refine au k ?_;simp[E,F,-aaB];refine aM t.length (λi=>[(4,.vs (aj .u8 (T i)) (.own 1)),(17,.vs (TL t) .no),(18,.int .i64 t.length),(19,.int .i64 i)]) (λi=>[some (.zone 1),some (.zone (T i).length)]) (λ_=>True) ?_ ?_
 .simp[aw,ak,ax.cl,V.cl,Tk.cl,q,aj]
 intro i hi _
 rcases aar hi with H|w
 .subst H;simp;refine au D ?_;simp
 .obtain⟨r,b⟩:∃r,t[i]?=some r:=⟨_,aap w⟩;have m:=aak b;have d:=JD b;have I:=(aab.1 d).2;have J:((i:Int)<(t.length:Int))=True:=ag5;have n:=(PO (G:=G) r (o r m) (p r m) [] zoW).fp;rw[zCu] at n
  have K:aD .i64 (i:Int) 1=((i+1:Nat):Int):=by rw[eG]<;>omega
  have e:=s i r b;have S:=v i hi;have U:=u r m;have L:((T i).length+r.tM.length<=140737488355328)=True:=ag5;have M:=zoR (zwV r)
  have N:aj .u8 r.tM≠[]:=by intro h;have:=congrArg List.length h;rw[Oi,zwF] at this;simp at this
  have O:aj .u8 (T i)++aj .u8 r.tM=aj .u8 (T (i+1)):=by rw[e];simp[aj]
  have P:(∀f∈aj .u8 r.tM,f.length=1)=True:=by simp only[eq_iff_iff,iff_true];intro f z;simp only[aj,aaD] at z;obtain⟨_,_,rfl⟩:=z;rfl
  have Q:(T (i+1)).length=(T i).length+r.tM.length:=by rw[e,aau]
  simp only[TV,TR.cs] at n d I;simp[J,d];refine au n ?_;simp[M,N,P,O,Q,L,K,w,aw,ak,ax.cl,V.cl,Tk.cl,-aae]
structure Jb where
 p:Po
 f:List (List V)
 F:List (List V)
 T:List (List V)
 n:Int
 d:Bool
 of:List (List V)
 oc:List (List V)
 ot:List (List V)
 on:Int
 od:Bool
 at_:Int
 e:Int
 k1:Tk
 k2:Tk
 k3:Tk
 k4:Tk
 k5:Tk
 k6:Tk
 k7:Tk
def Jb.cs(j:Jb):List V:=[.vs (RL j.p.rules) j.k1,.int .u32 j.p.cC,.vs j.f j.k2,.vs j.F j.k3,.vs j.T j.k4,.int .i64 j.n,.bool j.d,.vs j.of j.k5,.vs j.oc j.k6,.vs j.ot j.k7,.int .i64 j.on,.bool j.od,.int .i64 j.at_,.int .i64 j.e]
def z6:List V:=[.vs [] .full,.vs [] .full,.vs [] .full,.int .i64 0,.bool false]
def jJ(x y z:Int):List V:=[.int .i64 x,.int .i64 y,.int .i64 z]
def HC(S:List UInt8)(x y z:Int)(tb:List (List V))(j:Jb)(R:ae):ae :=
 some (.cells [.str S])::some (.cells (jJ x y z))::some (.cells z6)::some (.cells j.cs)::some (.cells [.ptr 3 0])::some (.cells [.vs tb .no])::R
section
variable {S:List UInt8} {x y z:Int} {tb:List (List V)} {R:ae}
def zwG[bA G]{j:Jb}{p:Po}{a e:Int}(h:FP G 467 [.str S] (.a_ [.agg p.cs,.int .i64 a,.int .i64 e])) :
  bE G (.F 478 [.ptr 0 0,.ptr 4 0] (HC S x y z tb j R) (.a_ []) (HC S x y z tb { j with p:=p,at_:=a,e:=e,k1:=.no } R)):=by
 refine fh bA.agB (aad rfl) ?_;simp only[Po.cs] at h;simp[HC,Jb.cs];refine au h ?_;simp
def zEu[bA G]{j:Jb}{f:List (List V)}{e:Int}(h:FP G 428 [.agg j.p.cs] (.a_ [.vs f .no,.int .i64 e])) :
  bE G (.F 479 [.ptr 4 0] (HC S x y z tb j R) (.a_ []) (HC S x y z tb { j with f:=f,e:=e,k2:=.no } R)):=by
 refine fh bA.agC (aad rfl) ?_;simp only[Po.cs] at h;simp[HC,Jb.cs];refine au h ?_;simp
def zEv[bA G]{j:Jb}{F T:List (List V)}{n:Int}{d:Bool}{e:Int}(h:FP G 365 [.vs j.f .no,.vs tb .no,.agg (jJ x y z)] (.a_ [.agg [.vs F .no,.vs T .no,.int .i64 n,.bool d],.int .i64 e])) :
  bE G (.F 480 [.ptr 4 0,.ptr 5 0,.ptr 1 0] (HC S x y z tb j R) (.a_ []) (HC S x y z tb { j with F:=F,T:=T,n:=n,d:=d,e:=e,k3:=.no,k4:=.no } R)):=by
 refine fh bA.agD (aad rfl) ?_;simp only[jJ] at h;simp[HC,Jb.cs,jJ];refine au h ?_;simp
def zEw[bA G]{j:Jb}{c:List (List V)}{e:Int}(h:FP G 351 [.vs j.F .no] (.a_ [.vs c .no,.int .i64 e])) :
  bE G (.F 481 [.ptr 4 0] (HC S x y z tb j R) (.a_ []) (HC S x y z tb { j with oc:=c,e:=e,k6:=.no } R)):=by
 refine fh bA.agE (aad rfl) ?_;simp[HC,Jb.cs];refine au h ?_;simp
def zEx[bA G]{j:Jb}{c:List (List V)}{e:Int}(h:FP G 477 [.vs j.T .no] (.a_ [.vs c .no,.int .i64 e])) :
  bE G (.F 482 [.ptr 4 0] (HC S x y z tb j R) (.a_ []) (HC S x y z tb { j with ot:=c,e:=e,k7:=.no } R)):=by
 refine fh bA.agF (aad rfl) ?_;simp[HC,Jb.cs];refine au h ?_;simp
end
def we:Jb:=⟨⟨[],0⟩,[],[],[],0,false,[],[],[],0,false,0,0,.full,.full,.full,.full,.full,.full,.full⟩
def gW:ae:=[some (.cells [.fn 478 [.ptr 0 0,.ptr 4 0],.fn 479 [.ptr 4 0],.fn 480 [.ptr 4 0,.ptr 5 0,.ptr 1 0],.fn 481 [.ptr 4 0],.fn 482 [.ptr 4 0]])]
def zFB{S:List UInt8}{x y z:Int}{tb:List (List V)}{j:Jb}(h:ba 7 j.cs=j.cs):ak 7 (HC S x y z tb j gW)=HC S x y z tb j gW:=by simp[ak,HC,gW,ax.cl,ba,V.cl,Tk.cl,jJ,z6];simpa[ba] using h
def zCk{S:List UInt8}{x y z:Int}{tb:List (List V)}{j:Jb}:(HC S x y z tb j gW).length=7:=rfl
def zxP[bA G]{S:List UInt8}{tab:List (List V)}{x y z:Int}{tb:List (List V)}{te:Int}{p:Po}{a e:Int}(d:(e !=0)=true)(hd:FP G 476 [.vs tab .no] (.a_ [.vs tb .no,.int .i64 te]))(h:FP G 467 [.str S] (.a_ [.agg p.cs,.int .i64 a,.int .i64 e])) :
  FP G 483 [.str S,.vs tab .no,.agg (jJ x y z)] (.a_ [.agg [.vs [] .no,.vs [] .no,.vs [] .no,.int .i64 0,.bool false],.int .i64 a,.int .i64 e]):=by
 refine bt bA.agG (aad rfl) ?_;have c:=zwG (S:=S) (x:=x) (y:=y) (z:=z) (tb:=tb) (R:=gW) (j:=we) h;obtain⟨j,b⟩:∃j:Jb,j={ we with p:=p,at_:=a,e:=e,k1:=.no }:=⟨_,rfl⟩;rw[<-b] at c;have f:=zFB (S:=S) (x:=x) (y:=y) (z:=z) (tb:=tb) (j:=j) (by rw[b];simp[Jb.cs,we,ba,V.cl,Tk.cl]);have g:=zCk (S:=S) (x:=x) (y:=y) (z:=z) (tb:=tb) (j:=we)
 have k:j.at_=a:=by rw[b]
 have l:j.e=e:=by rw[b]
 simp[jJ];refine au hd ?_;simp;refine aM 1 (λi=>[(6,.ptr 2 0),(9,.ptr 4 0),(28,.rs 6 0 5 1),(29,.int .i64 5),(30,.int .i64 i)]) (λ_=>HC S x y z tb we gW) (λi=>i=0) ?_ ?_
 .simp[aw,ak,HC,gW,jJ,z6,we,Jb.cs,RL,ax.cl,ba,V.cl,Tk.cl]
 rintro i hi rfl;have m:(HC S x y z tb we gW)[6]?=some (some (.cells [.fn 478 [.ptr 0 0,.ptr 4 0],.fn 479 [.ptr 4 0],.fn 480 [.ptr 4 0,.ptr 5 0,.ptr 1 0],.fn 481 [.ptr 4 0],.fn 482 [.ptr 4 0]])):=rfl;simp[m];refine kY (by simpa using c) (λh=>by simp at h) ?_;rw[g,f];simp[HC,Jb.cs,k,l,d,jJ,z6]
def zxQ[bA G]{S:List UInt8}{tab:List (List V)}{x y z:Int}{tb:List (List V)}{te:Int}{J:Nat->Jb}(o:J 0=we)(hd:FP G 476 [.vs tab .no] (.a_ [.vs tb .no,.int .i64 te]))
  (p:bE G (.F 478 [.ptr 0 0,.ptr 4 0] (HC S x y z tb (J 0) gW) (.a_ []) (HC S x y z tb (J 1) gW)))
  (q:bE G (.F 479 [.ptr 4 0] (HC S x y z tb (J 1) gW) (.a_ []) (HC S x y z tb (J 2) gW)))
  (r:bE G (.F 480 [.ptr 4 0,.ptr 5 0,.ptr 1 0] (HC S x y z tb (J 2) gW) (.a_ []) (HC S x y z tb (J 3) gW)))
  (s:bE G (.F 481 [.ptr 4 0] (HC S x y z tb (J 3) gW) (.a_ []) (HC S x y z tb (J 4) gW)))
  (t:bE G (.F 482 [.ptr 4 0] (HC S x y z tb (J 4) gW) (.a_ []) (HC S x y z tb (J 5) gW)))
  (u:∀i,i<=5->ba 7 (J i).cs=(J i).cs) (c:∀i,1<=i->i<=5->(J i).e=0) :
  FP G 483 [.str S,.vs tab .no,.agg (jJ x y z)] (.a_ [.agg [.vs (J 5).F .no,.vs (J 5).oc .no,.vs (J 5).ot .no,.int .i64 (J 5).n,.bool (J 5).d],.int .i64 0,.int .i64 0]):=by
 refine bt bA.agG (aad rfl) ?_;have a:=λi hi=>zFB (S:=S) (x:=x) (y:=y) (z:=z) (tb:=tb) (u i hi);have b:=λi=>zCk (S:=S) (x:=x) (y:=y) (z:=z) (tb:=tb) (j:=J i);simp[jJ];refine au hd ?_;simp;refine aM 5 (λi=>[(6,.ptr 2 0),(9,.ptr 4 0),(28,.rs 6 0 5 1),(29,.int .i64 5),(30,.int .i64 i)]) (λi=>HC S x y z tb (J i) gW) (λi=>True) ?_ ?_
 .simp[aw,ak,HC,gW,jJ,z6,o,we,Jb.cs,RL,ax.cl,ba,V.cl,Tk.cl]
 intro i hi _;have f:∀i,(HC S x y z tb (J i) gW)[6]?=some (some (.cells [.fn 478 [.ptr 0 0,.ptr 4 0],.fn 479 [.ptr 4 0],.fn 480 [.ptr 4 0,.ptr 5 0,.ptr 1 0],.fn 481 [.ptr 4 0],.fn 482 [.ptr 4 0]])):=λ_=>rfl;have v:∀i,(HC S x y z tb (J i) gW)[3]?=some (some (.cells (J i).cs)):=λ_=>rfl;have w:∀i,(HC S x y z tb (J i) gW)[4]?=some (some (.cells [.ptr 3 0])):=λ_=>rfl;have g:∀i (h:3<(HC S x y z tb (J i) gW).length),(HC S x y z tb (J i) gW)[3]'h=some (.cells (J i).cs):=λ_ _=>rfl
 have k:∀i (h:4<(HC S x y z tb (J i) gW).length),(HC S x y z tb (J i) gW)[4]'h=some (.cells [.ptr 3 0]):=λ_ _=>rfl
 rcases aar hi with m|A
 .subst m;simp[HC,Jb.cs,jJ,z6]
 have nx:∀i,i<5->(J (i+1)).e=0:=λi h=>c _ an an;have l:∀i,(J i).cs.length=14:=λ_=>rfl;have kd:∀i,((J i).cs.drop 13).take 1=[.int .i64 (J i).e]:=λ_=>rfl
 have:i=0\/i=1\/i=2\/i=3\/i=4:=an
 rcases this with rfl|rfl|rfl|rfl|rfl
 .simp[f];refine kY (by simpa using p) (λh=>by simp at h) ?_;rw[b,a 1 ag7];simp[g,k,l,kd,nx,aw,b,a,show aD .i64 0 1=1 by decide]
 .simp[f];refine kY (by simpa using q) (λh=>by simp at h) ?_;rw[b,a 2 ag7];simp[g,k,l,kd,c,aw,b,a,show aD .i64 1 1=2 by decide]
 .simp[f];refine kY (by simpa using r) (λh=>by simp at h) ?_;rw[b,a 3 ag7];simp[g,k,l,kd,c,aw,b,a,show aD .i64 2 1=3 by decide]
 .simp[f];refine kY (by simpa using s) (λh=>by simp at h) ?_;rw[b,a 4 ag7];simp[g,k,l,kd,c,aw,b,a,show aD .i64 3 1=4 by decide]
 .simp[f];refine kY (by simpa using t) (λh=>by simp at h) ?_;rw[b,a 5 ag7];simp[g,k,l,kd,c,aw,b,a,show aD .i64 4 1=5 by decide]
open Go Go.RowKit
variable {G:aK}
def zla:∀{f:List af},j0 f=true->∀x∈f,jv x=true
 | [],_,x,h=>by simp at h
 | y::f,a,x,h=>by
  simp only[j0,aaq] at a
  rcases aaJ.1 h with rfl|h
  .have:=a.1;simp only[b_,aaq] at this;exact this.1.1.1
  .exact zla a.2 x h
def zwH{S:List UInt8}{n:Nat}{x y z:Int}(h:Fa S n x y z=false):S.length<=2000/\n<=3000/\pN (ee S).1<=8:=by simp only[Fa,decide_eq_false_iff_not] at h;omega
noncomputable def h_(S:List UInt8):Po:=(ee S).1
def qG(b:List Nat):List TR:=(v_ b).getD []
noncomputable def rN(S:List UInt8)(b:List Nat)(x y z:Int):(List af×List TR)×Nat×Bool:=uJ (jw (h_ S)) (qG b) x y z
def JE(q:(List af×List TR)×Nat×Bool):V:=.agg [FL q.1.1,.vs (aj .u8 (kR q.1.1)) .no,.vs (aj .u8 (E_ q.1.2)) .no,.int .i64 (q.2.1:Nat),.bool q.2.2]
def JF:V:=.agg [.vs [] .no,.vs [] .no,.vs [] .no,.int .i64 0,.bool false]
noncomputable def Fb(S:List UInt8)(b:List Nat)(x y z:Int):V :=
 if(ee S).2.2=0 then .a_ [JE (rN S b x y z),.int .i64 0,.int .i64 0] else .a_ [JF,.int .i64 ((ee S).2.1:Nat),.int .i64 ((ee S).2.2:Nat)]
def PS{S:List UInt8}(h:(ee S).2.2=0):y0 (h_ S)=true/\(h_ S).wf:=by
 obtain⟨⟨d,e⟩,a⟩:=zoT S;have a:=a h;refine⟨?_,?_,λr b=>?_,Lt a⟩
 .simp only[y0,aaq,decide_eq_true_eq,aaC];exact⟨⟨λr b=>(e r b).1,a⟩,d⟩
 .exact aaw d ag7
 .obtain⟨f,g,i,j,k⟩:=B5 (e r b);exact⟨aaw k ag7,λc l=>(f c l).2,g,i,Lt j⟩
def zs5{b:List Nat}(c:∀x∈b,x<256):(∀r∈qG b,r.ok)/\(qG b).length<=64/\ei (qG b)=true:=by
 unfold qG
 cases h:v_ b with
 | none=>exact⟨ir,ir,rfl⟩
 | some t =>
  obtain⟨a,d⟩:=zGP c h;exact⟨d,(PN a).2,a⟩
def zr2{t:List TR}(h:ei t=true):ki t=t:=by rw[ki,if_pos h]
structure G8 (f:List af) (q:(List af×List TR)×Nat×Bool):Prop where
 sound:dE q.1.1=true
 k:∀y∈q.1.1,y.k<4294967296
 len:q.1.1.length<=f.length
 tk:l_ q.1.2
 dB:ei q.1.2=true
def zuj{tries most:Int}:∀(n:Nat) {f:List af} {t:List TR},dE f=true->(∀y∈f,y.k<4294967296)->l_ t->ei t=true->G8 f (wV tries most n f t)
 | 0,f,t,b,c,d,e=>⟨b,c,aaT _,d,e⟩
 | n+1,f,t,b,c,d,e=>by
  unfold wV
  cases g:Cf f t tries most with
  | none=>exact⟨b,c,aaT _,d,e⟩
  | some q =>
   have k:=zwX b c d g;have a:=zuj (tries:=tries) (most:=most) n k.sound k.k k.tk (k.dB e);exact⟨a.sound,a.k,aaw a.len (Nat.le_of_lt k.len),a.tk,a.dB⟩
def T1{p:Po}(c:p.wf)(d:y0 p=true):(jw p).length<=4096/\dE (jw p)=true/\(∀y∈jw p,y.k<4294967296):=by obtain⟨e,f,h⟩:=znB c d;obtain⟨i,a⟩:=zpZ e;have b:=ZT f h;have g:=i.len;have j:(bj [] 6 p.cC).length=1:=rfl;exact⟨an,(a b).1,(a b).2⟩
def zwI{S:List UInt8}{b:List Nat}(x y z:Int)(g:∀w∈b,w<256)(h:(ee S).2.2=0):G8 (prune (jw (h_ S))) (rN S b x y z)/\(rN S b x y z).1.1.length<=(jw (h_ S)).length:=by
 obtain⟨a,i⟩:=PS h;obtain⟨m,j,k⟩:=T1 i a;obtain⟨c,n,e⟩:=zs5 g;have f:=T2 j;have d:=zuj (tries:=sn y 0 1000) (most:=sn z 0 32) (sn x 0 1000).toNat (t:=qG b) f.1 (ztc k) (λr a=>⟨(c r a).2.2.1,(c r a).2.2.2.1,(c r a).2.2.2.2⟩) e
 have l:rN S b x y z=wV (sn y 0 1000) (sn z 0 32) (sn x 0 1000).toNat (prune (jw (h_ S))) (qG b):=by rw[rN,uJ,zr2 e]
 rw[<-l] at d;exact⟨d,aaw d.len f.2.1⟩
noncomputable def PT(p:Po)(a:Int)(Q:(List af×List TR)×Nat×Bool):Nat->Jb
 | 0=>we
 | 1=>{ we with p:=p,at_:=a,e:=0,k1:=.no }
 | 2=>{ we with p:=p,at_:=a,e:=0,k1:=.no,f:=IL (jw p),k2:=.no }
 | 3=>{ we with p:=p,at_:=a,e:=0,k1:=.no,f:=IL (jw p),k2:=.no,F:=IL Q.1.1,T:=TL Q.1.2,n:=(Q.2.1:Nat),d:=Q.2.2,k3:=.no,k4:=.no }
 | 4=>{ we with p:=p,at_:=a,e:=0,k1:=.no,f:=IL (jw p),k2:=.no,F:=IL Q.1.1,T:=TL Q.1.2,n:=(Q.2.1:Nat),d:=Q.2.2,k3:=.no,k4:=.no,oc:=aj .u8 (kR Q.1.1),k6:=.no }
 | _=>{ we with p:=p,at_:=a,e:=0,k1:=.no,f:=IL (jw p),k2:=.no,F:=IL Q.1.1,T:=TL Q.1.2,n:=(Q.2.1:Nat),d:=Q.2.2,k3:=.no,k4:=.no,oc:=aj .u8 (kR Q.1.1),k6:=.no,ot:=aj .u8 (E_ Q.1.2),k7:=.no }
def zr3[eo G][dK G][aA G][aB G][bV G][dy G][du G][aO G][cV G][cW G][bX G][cf G][bO G][ar G][H:dQ G][cw G][aL G][c_ G][bW G][cP G][eW G][f_ G][fH G][fI G][iP G][dh G][fK G][eK G][eA G][cQ G][gO G][fk G]
  [fA G][bT G][kq G][bH G][eO G][dR G][dg G][eE G][fq G][cS G][cY G][ga G][dP G][bA G][iq G]
  (S:List UInt8) (b:List Nat) (x y z:Int) (v:S.length<=20000) (h:∀w∈b,w<256) (A:b.length<=1000000):FP G 483 [.str S,.vs (aj .u8 b) .no,.agg (jJ x y z)] (Fb S b x y z):=by
 have l:=zwK (G:=G) S v;obtain⟨te,hd,_⟩:=zAg (G:=G) b h A;simp only[TF] at hd;unfold Fb
 by_cases d:(ee S).2.2=0
 rotate_left
 .rw[if_neg d];exact zxP (by simp;omega) hd l
 rw[if_pos d];obtain⟨a,q⟩:=PS d;obtain⟨I,B,C⟩:=T1 q a;obtain⟨g,K,D⟩:=zs5 h;have m:=zwz (G:=G) (h_ S) q;rw[a] at m;have E:T3 (qG b):=⟨an,g⟩;have n:=zxU (G:=G) (jw (h_ S)) (qG b) x y z B C E (by rw[zr2 D];exact λr a=>⟨(g r a).2.2.1,(g r a).2.2.2.1,(g r a).2.2.2.2⟩);obtain⟨c,o⟩:=zwI x y z h d;obtain⟨Q,s⟩:=bb (rN S b x y z);rw[<-s] at c o |-;rw[show uJ (jw (h_ S)) (qG b) x y z=Q from s.symm] at n
 have t:=zoV (G:=G) Q.1.1 an c.k (λw F=>by
  have:=c.sound;simp only[dE,aaq] at this
  exact zla this.1.2 w F)
 have u:=zAh (G:=G) Q.1.2 c.dB (zw1 c.dB c.tk).2;rw[pO,d] at l;simp only[FL,TF,pQ,if_true] at m n t u
 have p:=zxQ (G:=G) (S:=S) (tab:=aj .u8 b) (x:=x) (y:=y) (z:=z) (tb:=TL (qG b)) (te:=te) (J:=PT (h_ S) ((ee S).2.1:Nat) Q) rfl hd (zwG (j:=we) l) (zEu (f:=IL (jw (h_ S))) (e:=0) m) (zEv n) (zEw t) (zEx u) (by
  intro i hi
  have:i=0\/i=1\/i=2\/i=3\/i=4\/i=5:=an
  rcases this with rfl|rfl|rfl|rfl|rfl|rfl<;>simp[PT,Jb.cs,we,ba,V.cl,Tk.cl]) (by
  intro i L M
  have:i=1\/i=2\/i=3\/i=4\/i=5:=an
  rcases this with rfl|rfl|rfl|rfl|rfl<;>rfl)
 exact p
def zyT{S:List UInt8}{b:List Nat}(x y z:Int)(g:∀w∈b,w<256)(h:(ee S).2.2=0)(d:Da)(hd:d.ok) :
  (run d (rN S b x y z).1.1 rI).1=G3 d (h_ S)/\((∀w∈jw (h_ S),w.op≠60)->(run d (rN S b x y z).1.1 rI).2<=(run d (jw (h_ S)) rI).2):=by
 obtain⟨i,a⟩:=PS h;obtain⟨q,c,j,k,_⟩:=zGM a i;obtain⟨l,r,s⟩:=zs5 g;have m:=zIt (t:=qG b) x y z c j (zG0 l);obtain⟨p1,p2,p3,p4⟩:=T2 c;obtain⟨e,f⟩:=m.run d hd;rw[p4] at e f;refine⟨by rw[rN,e];exact k d hd,λn=>f λw a=>?_⟩;obtain⟨v,o,p,_⟩:=T4 a;rw[p];exact n v o
def zyU{S:List UInt8}:(h_ S).rules.length<=maxLen/\∀r∈(h_ S).rules,r.conds.length<=maxLen/\∀x∈r.conds,x.ok:=by obtain⟨⟨a,b⟩,_⟩:=zoT S;refine⟨aaw a ag7,λr d=>?_⟩;obtain⟨e,h,i,j,f⟩:=B5 (b r d);exact⟨aaw f ag7,λc g=>(e c g).2⟩
def zr4(S:List UInt8):pO (ee S)=.a_ [.agg [.vs (RL (h_ S).rules) .no,.int .u32 ((h_ S).cC:Int)],.int .i64 ((ee S).2.1:Nat),.int .i64 ((ee S).2.2:Nat)]:=rfl
def zGQ[gX G][eJ G][dq G][gg G][dS G][iu G][fJ G][kN G][kr G][qH G](S:List UInt8)(f:S.length<=20000)(d:Da)(hd:d.ok) :
  FP G 513 [.str S,DV d] (if(ee S).2.2=0 then .a_ [.int .u32 (G3 d (h_ S):Nat),.bool true] else .a_ [.int .u32 0,.bool false]):=by
 refine bt qH.ag1 (aad rfl) ?_;have a:=znF (G:=G) S f;rw[zr4] at a;have b:=zEq (G:=G) (h_ S) zyU.1 zyU.2 d hd;have g:=JG hd;have dt:=aaf (i:=9) (l:=d.cs) an;have h:=G9 d;have j:=λn=>Cg d n;generalize(ee S).2.1=o at *;generalize(ee S).2.2=k at *;simp only[Po.cs,DV] at b;simp[DV];refine au a ?_
 by_cases c:k=0
 .have e:((k:Int) !=0)=false:=by simp;omega
  simp[c,g,dt,h,j];refine au b ?_;simp
 .have e:((k:Int) !=0)=true:=by simp;omega
  simp[e,c]
def zr5[eo G][dK G][aA G][aB G][bV G][dy G][du G][aO G][cV G][cW G][bX G][cf G][bO G][ar G][A:dQ G][cw G][aL G][c_ G][bW G][cP G][eW G][f_ G][fH G][fI G][iP G][dh G][fK G][eK G][eA G][cQ G][gO G][fk G]
  [fA G][bT G][kq G][bH G][eO G][dR G][dg G][eE G][fq G][cS G][cY G][ga G][dP G][bA G][iq G]
  [gX G][eJ G][dq G][gg G][dS G][iu G][fJ G][pq G][qS G][kN G][kr G][qH G][ew G][qT G][B:lI G][lJ G][jc G][mS G][pW G][qU G][tU G]
  (f:FP G 506 [] (.bool true)) (S:List UInt8) (b:List Nat) (x y z:Int) (d:Da) (g:∀w∈b,w<256) (hd:d.ok):FP G 522 [.str S,.vs (aj .u8 b) .no,.agg (jJ x y z),DV d] (.bool true):=by
 refine bt tU.ag2 (aad rfl) ?_;have p:=zsa (G:=G) S (aj .u8 b) x y z;rw[Oi] at p;have h:=JG hd;have dt:=aaf (i:=9) (l:=d.cs) an;have j:=G9 d;have m:=λn=>Cg d n;simp[jJ,DV];refine au p ?_
 cases q:Fa S b.length x y z with
 | true =>
  simp;refine au f ?_
  simp
 | false =>
 obtain⟨C,D,_⟩:=zwH q;have a:=zr3 (G:=G) S b x y z an g an;have ws:=zGQ (G:=G) S an d hd;unfold Fb at a
 by_cases c:(ee S).2.2=0
 rotate_left
 .rw[if_neg c,JF,jJ] at a;rw[if_neg c] at ws
  have r:(((ee S).2.2:Int) !=0)=true:=by simp;omega
  simp only[DV] at ws;simp;refine au a ?_;simp[h,dt,j,m];refine au ws ?_;simp[r];refine au f ?_;simp
 .rw[if_pos c] at a ws;obtain⟨e,s⟩:=zwI x y z g c;obtain⟨t,u⟩:=PS c;obtain⟨E,_⟩:=T1 u t;have v:=(zyT x y z g c d hd).1;generalize rN S b x y z=Q at *;have so:=Y8 (G:=G) Q.1.1 (by simp only[maxLen];omega) e.k;have o:=Zp (G:=G) Q.1.1 d e.k e.sound hd;rw[e.sound] at so;rw[v] at o;simp only[FL,JE,jJ,DV] at a ws so o;simp;refine au a ?_;simp[h,dt,j,m];refine au ws ?_;simp;refine au so ?_
  simp[h,dt,j,m];refine au o ?_;simp;refine au f ?_;simp
def zr6[eo G][dK G][aA G][aB G][bV G][dy G][du G][aO G][cV G][cW G][bX G][cf G][bO G][ar G][P:dQ G][cw G][aL G][c_ G][bW G][cP G][eW G][f_ G][fH G][fI G][iP G][dh G][fK G][eK G][eA G][cQ G][gO G][fk G]
  [fA G][bT G][kq G][bH G][eO G][dR G][dg G][eE G][fq G][cS G][cY G][ga G][dP G][bA G][iq G]
  [gX G][eJ G][dq G][gg G][dS G][iu G][fJ G][pq G][qS G][yh G][ew G][qT G][R:lI G][lJ G][jc G][mS G][pW G][qU G][tV G]
  (g:FP G 506 [] (.bool true)) (S:List UInt8) (b:List Nat) (x y z:Int) (d:Da) (h:∀w∈b,w<256) (hd:d.ok):FP G 523 [.str S,.vs (aj .u8 b) .no,.agg (jJ x y z),DV d] (.bool true):=by
 refine bt tV.ag3 (aad rfl) ?_;have t:=zsa (G:=G) S (aj .u8 b) x y z;rw[Oi] at t;have u:=JG hd;have dt:=aaf (i:=9) (l:=d.cs) an;have v:=G9 d;have A:=λn=>Cg d n;simp[jJ,DV];refine au t ?_
 cases K:Fa S b.length x y z with
 | true =>
  simp;refine au g ?_
  simp
 | false =>
 obtain⟨T,U,_⟩:=zwH K;have a:=zr3 (G:=G) S b x y z an h an;have j:=znF (G:=G) S an;rw[zr4] at j;unfold Fb at a
 by_cases c:(ee S).2.2=0
 rotate_left
 .rw[if_neg c,JF,jJ] at a
  have m:(((ee S).2.2:Int) !=0)=true:=by simp;omega
  generalize(ee S).2.1=o at *;generalize(ee S).2.2=k at *;simp;refine au a ?_;simp;refine au j ?_;simp[m];refine au g ?_;simp
 .rw[if_pos c] at a;obtain⟨e,L⟩:=zwI x y z h c;obtain⟨B,C⟩:=PS c;obtain⟨V,D,E⟩:=T1 C B;have M:=(zyT x y z h c d hd).2 (zC2 (h_ S));have p:=zwz (G:=G) (h_ S) C;rw[B] at p
  have m:(((ee S).2.2:Int) !=0)=false:=by rw[c];rfl
  generalize rN S b x y z=Q at *
  have N:∀w∈Q.1.1,jv w=true:=λw O=>by
   have:=e.sound;simp only[dE,aaq] at this;exact zla this.1.2 w O
  have F:=zCg (G:=G) Q.1.1 an e.k N;have H:=zBr (G:=G) Q.1.1 Q.1.1 an;have q:=Y8 (G:=G) (jw (h_ S)) (by simp only[maxLen];omega) E;have r:=Y8 (G:=G) Q.1.1 (by simp only[maxLen];omega) e.k;rw[D] at q;rw[e.sound] at r;have I:=Zp (G:=G) (jw (h_ S)) d E D hd;have J:=Zp (G:=G) Q.1.1 d e.k e.sound hd;have f:(((jw (h_ S)).length:Int)<(Q.1.1.length:Int))=False:=ag6
  have s:(((run d Q.1.1 rI).2:Int)<=((run d (jw (h_ S)) rI).2:Int))=True:=ag5;generalize(ee S).2.1=o at *;generalize(ee S).2.2=k at *;simp only[FL,JE,jJ,DV,Po.cs,if_true] at a p F H q r I J;simp;refine au a ?_;simp;refine au j ?_;simp[m];refine au p ?_;simp;refine au F ?_;simp[f];refine au H ?_;simp;refine au q ?_;simp;refine au r ?_;simp[u,dt,v,A];refine au I ?_
  simp[u,dt,v,A];refine au J ?_;simp[s];refine au g ?_;simp
end Go.Ev
