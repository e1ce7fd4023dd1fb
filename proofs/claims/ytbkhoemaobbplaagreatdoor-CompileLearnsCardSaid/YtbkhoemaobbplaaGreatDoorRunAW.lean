/- States and records; which way a branch goes; the parts of two states. -/
import Derived.Test.YtbkhoemaobbplaaGreatDoorEvWinCW
import Derived.Test.YtbkhoemaobbplaaGreatDoorEvMW
import Derived.Test.YtbkhoemaobbplaaGreatDoorBitsEW
import Derived.Test.YtbkhoemaobbplaaGreatDoorEvPW
set_option linter.defProp false
set_option linter.unusedSimpArgs false
set_option linter.unusedVariables false
set_option maxHeartbeats 4000000
set_option maxRecDepth 10000
open Nat renaming le_of_ble_eq_true->aab,le_refl->aaj,mod_eq_of_lt->aaR,zero_le->abd,two_pow_add_eq_or_of_lt->abe,mod_lt->abF,pow_le_pow_right->abI,sub_self->abT,eq_or_lt_of_le->abU,div_eq_of_lt->ab3,div_le_self->ab6,add_assoc->ace,add_comm->acf,sub_zero->acg
open List renaming getElem?_eq_getElem->aad,mem_cons->aag,length_cons->aah,getElem?_eq_some_iff->aai,getElem_mem->aal,mem_of_mem_drop->aam,take_of_length_le->aan,mem_of_getElem?->aao,mem_map->aaq,map_cons->aar,mem_of_mem_take->aas,length_eq_zero_iff->aat,getD->aau,getElem?_append_right->aaz,length_take->aaC,cons_append->aaF,length_append->aaG,concat_eq_append->aaH,mem_of_find?_eq_some->aaI,getElem?_set_ne->aaJ,getElem?_replicate->aaL,getElem?_set_self->aaO,set_append_right->aaP,eq_nil_or_concat->aaQ,length_drop->aaV,mem_append->aaW,length_set->aaZ,getElem?_append_left->aa0,getElem?_set->aa1,find?_cons_of_neg->aa4,not_mem_nil->aa9,foldl_cons->aa_,mem_filter->aba,length_pos_iff->abb,drop_zero->abc,takeWhile_cons_of_pos->abh,ext_getElem?->abi,take_add_one->abl,mem_or_eq_of_mem_set->abm,drop_eq_getElem_cons->abn,map_nil->abp,drop_length->abq,take_length->abr,append_cancel_left->abt,append_nil->abv,range_succ->abw,nil_append->abx,nodup_cons->aby,find?_some->abA,take_append_drop->abE,getElem?_append->abG,getElem?_take->abJ,find?_eq_none->abV,flatMap_cons->abX,append_assoc->abY,all_eq_false->abZ,perm_middle->ab2,range->ab7,length_map->ab9,map_append->aca,cons->acb,drop_one->acd
open Int renaming natCast_add->aae,natCast_mul->aaf,natCast_ediv->aaA,fdiv_eq_ediv_of_nonneg->abg,natCast_nonneg->abK,natCast_emod->ab0
open Bool renaming and_eq_true->aap,false_eq_true->abL,eq_iff_iff->ab8
open Option renaming map_eq_some_iff->aay,some->aa3,getD_some->ab1,map->ab_
open BitVec renaming ofInt->aaK,toNat_ofNat->aaM,ofNat->abo,toNat_or->ab4
open UInt8 renaming ofNat->aa2,toNat_inj->abB
open Prod renaming mk->abC
namespace Go.Ev
open Go Go.RowKit
variable {G:aP}
structure St where
 a:Nat
 x:Nat
 m:List Nat
 deriving DecidableEq
def St.cs(s:St):List V:=.int .u32 (s.a:Int)::.int .u32 (s.x:Int)::av .u32 s.m
def SV(s:St):V:=.agg s.cs
def St.ok(s:St):Prop:=s.a<4294967296/\s.x<4294967296/\s.m.length=16/\∀w∈s.m,w<4294967296
structure Da where
 nr:Nat
 aJ:Nat
 ip:Nat
 args:List Nat
def Da.cs(d:Da):List V:=.int .u32 (d.nr:Int)::.int .u32 (d.aJ:Int)::.int .u64 (d.ip:Int)::av .u64 d.args
def DV(d:Da):V:=.agg d.cs
def Da.ok(d:Da):Prop:=d.nr<4294967296/\d.aJ<4294967296/\d.ip<18446744073709551616/\d.args.length=6/\∀w∈d.args,w<18446744073709551616
def zKR(a b:V)(l:List V)(n:Nat):(a::b::l).take (2+n)=a::b::l.take n:=by rw[acf];rfl
def zDv(a:V)(l:List V)(n:Nat):(a::l).drop (2+n)=l.drop (n+1):=by rw[show 2+n=(n+1)+1 by omega];rfl
def tV(s:St)(x:af):Bool :=
 let b:=if x.op∈[29,45,61,77] then s.x else x.k
 if x.op=21\/x.op=29 then decide (s.a=b) else if x.op=37\/x.op=45 then decide (b<s.a) else if x.op=53\/x.op=61 then decide (b<=s.a) else if x.op=69\/x.op=77 then decide (s.a &&& b≠0) else false
def I0{op:Int}(h:bp op=true):op=21\/op=37\/op=53\/op=69\/op=29\/op=45\/op=61\/op=77:=by simpa[bp] using h
def lo(v:Nat):Nat:=v%4294967296
def hi(v:Nat):Nat:=v/4294967296%4294967296
def lu(d:Da):List Nat:=[d.nr,d.aJ,lo d.ip,hi d.ip]++d.args.flatMap λa=>[lo a,hi a]
def zAd(l:List Nat):(l.flatMap λa=>[lo a,hi a]).length=2*l.length:=by
 induction l with
 | nil=>rfl
 | cons a l b=>simp only[abX,aaG,b,aah,List.length_nil];omega
def ztd:∀(l:List Nat) (i:Nat) (h:i<l.length),(l.flatMap λa=>[lo a,hi a])[2*i]?=some (lo l[i])/\(l.flatMap λa=>[lo a,hi a])[2*i+1]?=some (hi l[i])
 | [],i,h=>by simp at h
 | a::l,0,_=>by simp
 | a::l,i+1,h=>by
  have:=ztd l i (by simpa using h);rw[show 2*(i+1)=2*i+2 by omega,show 2*i+2+1=2*i+1+2 by omega];simpa using this
def Bx{d:Da}(h:d.args.length=6):(lu d).length=16:=by rw[lu,aaG,zAd,h];rfl
def S9(v:Nat):lo v<4294967296:=abF _ aga
def OR(v:Nat):hi v<4294967296:=abF _ aga
def zte{d:Da}(h:d.ok):∀w∈lu d,w<4294967296:=by
 intro w b;simp only[lu,aaW,aag,aa9,or_false,List.mem_flatMap] at b
 rcases b with(rfl|rfl|rfl|rfl)|⟨a,_,rfl|rfl⟩
 .exact h.1
 .exact h.2.1
 .exact S9 _
 .exact OR _
 .exact S9 _
 .exact OR _
def zEJ(v:Nat):eO .u32 (v:Int)=((lo v:Nat):Int):=rfl
def zvn(v:Nat)(h:v<18446744073709551616):jI .u64 (v:Int) 32=((v/4294967296:Nat):Int):=by
 unfold jI
 have:(min (32:Int).toNat IntKind.u64.bits)=32:=by decide
 rw[this];change (v:Int).fdiv 4294967296=_;rw[abg _ aga];rfl
def zKS(v:Nat):lo (v/4294967296)=hi v:=rfl
def H4(cs:List V)(l:List Nat)(n:Nat):ae:=[some (.cells cs),some (.cells (av .u32 (aR 16))),some (.cells (av .u32 l)),some (.cells [.int .i64 n])]
def zvo[bQ G](cs:List V)(l:List Nat)(n v:Nat)(a:l.length=16)(m:n+1<16)(b:v<18446744073709551616) :
  bD G (.F 159 [.int .u64 v,.ptr 2 0,.ptr 3 0] (H4 cs l n) (.bf []) (H4 cs ((l.set n (lo v)).set (n+1) (hi v)) (n+2))):=by
 refine eV bQ.afA (aab rfl) ?_;have c:=xJ .u32 l n (lo v) an;have d:=xJ .u32 (l.set n (lo v)) (n+1) (hi v) (by simp;omega);have e:aB .i64 (n:Int) 1=((n+1:Nat):Int):=bF an;have f:aB .i64 (n:Int) 2=((n+2:Nat):Int):=lQ (n:=2) an;have g:=zvn v b;have h:((n:Int)<16)=True:=bC an;have i:(((n+1:Nat):Int)<16)=True:=bC an;have j:(n+1<=16)=True:=aA an
 have o:(n+1+1<=16)=True:=aA an;have k:(n<=14)=True:=aA an;simp[H4,e,f,g,zEJ,zKS,a,h,i,j,k,c,d,-aae,-aaA]
def OS(v:Nat)(h:v<18446744073709551616):eO .u64 (v:Int)=(v:Int):=by unfold eO;exact IntWalk.u64_in _ ⟨an,an⟩
def zAe(a b:Nat)(e:a<4294967296)(f:b<4294967296):uI .u64 (a:Int) (je .u64 (b:Int) 32)=((a+b*4294967296:Nat):Int):=by
 have c:je .u64 (b:Int) 32=((b*4294967296:Nat):Int):=by
  unfold je
  have:(min (32:Int).toNat IntKind.u64.bits)=32:=by decide
  rw[this];rw[show((b:Int)*2^32)=((b*4294967296:Nat):Int) by omega];exact IntWalk.u64_in _ ⟨an,an⟩
 rw[c];change IntKind.u64.wrap ((aaK 64 (a:Int) ||| aaK 64 ((b*4294967296:Nat):Int)).toNat:Int)=_;rw[ry,ry]
 have d:(abo 64 a ||| abo 64 (b*4294967296)).toNat=a+b*4294967296:=by rw[ab4,aaM,aaM,aaR an,aaR an];have:=abe (i:=32) (b:=a) an b;rw[Nat.or_comm,Nat.mul_comm,show(4294967296:Nat)=2^32 from rfl,<-this];omega
 rw[d];exact IntWalk.u64_in _ ⟨an,an⟩
def zR(d:Da)(i:Nat):List Nat:=(lu d).take (4+2*i)++aR (12-2*i)
def ztf{d:Da}(h:d.args.length=6){i:Nat}(hi:i<=6):(zR d i).length=16:=by simp[zR,Bx h];omega
def ztg{d:Da}(h:d.args.length=6){i:Nat}(hi:i<=6)(j:Nat):(zR d i)[j]?=if j<4+2*i then(lu d)[j]? else if j<16 then some 0 else none:=by
 have c:=Bx h;rw[zR,abG,aaC,c,abJ]
 by_cases a:j<4+2*i
 .rw[if_pos an,if_pos a,if_pos a]
 .rw[if_neg an,if_neg a]
  by_cases b:j<16
  .rw[if_pos b];simp[aR,aaL];omega
  .rw[if_neg b];simp[aR,aaL];omega
def zyq{d:Da}(h:d.args.length=6){i:Nat}(m:i<6):((zR d i).set (4+2*i) (lo d.args[i])).set (4+2*i+1) (hi d.args[i])=zR d (i+1):=by
 have f:=ztf h (show i<=6 by omega);have a:=ztd d.args i an
 have g:(lu d)[4+2*i]?=some (lo d.args[i]):=by rw[lu,aaz ir];simpa using a.1
 have k:(lu d)[4+2*i+1]?=some (hi d.args[i]):=by rw[lu,aaz (by simp;omega)];simpa[show 4+2*i+1-4=2*i+1 by omega] using a.2
 apply abi;intro j;rw[ztg h an,aa1,aa1,aaZ,f,ztg h an]
 by_cases b:4+2*i+1=j
 .subst b;rw[if_pos rfl,if_pos an,if_pos an,k]
 .rw[if_neg b]
  by_cases c:4+2*i=j
  .subst c;rw[if_pos rfl,if_pos an,if_pos an,g]
  .rw[if_neg c]
   by_cases e:j<4+2*i
   .rw[if_pos e,if_pos an]
   .rw[if_neg e]
    by_cases l:j<4+2*(i+1)
    .omega
    .rw[if_neg l]
def zEK(d:Da)(h:d.args.length=6):((((aR 16).set 0 d.nr).set 1 d.aJ).set 2 (lo d.ip)).set 3 (hi d.ip)=zR d 0:=by have:aR 16=0::0::0::0::aR 12:=rfl;rw[this];simp[zR,lu]
def zEL(d:Da)(h:d.args.length=6):zR d 6=lu d:=by simp only[zR,show 12-2*6=0 from rfl,aR,List.replicate_zero,abv];exact aan (by rw[Bx h];exact aaj _)
def zvp[bQ G](d:Da)(hd:d.ok):FP G 160 [DV d] (.agg (av .u32 (lu d))):=by
 obtain⟨e,f,g,a,h⟩:=hd;refine bA bQ.afB (aab rfl) ?_;have o:=zAe d.nr d.aJ e f
 have j:lo (d.nr+d.aJ*4294967296)=d.nr:=by unfold lo;omega
 have l:hi (d.nr+d.aJ*4294967296)=d.aJ:=by unfold hi;omega
 have p1:=zvo (G:=G) d.cs (aR 16) 0 (d.nr+d.aJ*4294967296) ir aga an;have p2:=zvo (G:=G) d.cs (((aR 16).set 0 d.nr).set 1 d.aJ) 2 d.ip ir aga g;rw[j,l] at p1;have m:=e_ (k:=.u64) a;simp[H4,Da.cs,-aae,-aaf] at p1 p2;simp(disch:=omega)[DV,Da.cs,OS,o,-aae,-aaf];refine kF p1 ir ?_;simp[ak];refine kF p2 ir ?_;simp[ak,a,m]
 refine aN 6 (λi=>[(2,.ptr 1 0),(3,.ptr 2 0),(5,.fn 159 [.ptr 2 0,.ptr 3 0]),(24,.agg (av .u64 d.args)),(25,.int .i64 i)])
  (λi=>H4 d.cs (zR d i) (4+2*i)) (λ_=>True) ?_ ?_
 .simp[au,ak,H4,Da.cs,zEK d a]
 intro i hi _
 by_cases b:i<6
 .have p3:=zvo (G:=G) d.cs (zR d i) (4+2*i) d.args[i] (ztf a hi) an (h _ (aal _));rw[zyq a b] at p3;have n:=sn .u64 d.args i an;simp[H4,Da.cs,-aae,-aaf] at p3;simp(disch:=omega)[bC,aA,a,n,H4,Da.cs,-aae,-aaf];refine kF p3 ir ?_;simp(disch:=omega)[ak,bF,b,au,show 4+2*(i+1)=4+2*i+2 from an,-aae,-aaf]
 .have p:i=6:=an
  subst p;have c:=Bx a;have q:=e_ (k:=.u32) c;simp[H4,zEL d a,c,q]
def D_(d:Da)(a:Nat):Nat×Bool:=if a%4=0/\a<64 then((lu d).getD (a/4) 0,true) else(0,false)
def zvq[bQ G](n:Nat)(d:n<4294967296):FP G 158 [.int .u32 n] (.bool (decide (n%4=0/\n<64))):=by
 refine bA bQ.afz (aab rfl) ?_;have a:iu (n:Int) 4=((n%4:Nat):Int):=zz (b:=4)
 by_cases h:n%4=0
 .have c:((n:Int)<64)=(n<64):=propext an;simp[a,h,c]
 .have:((n%4:Nat):Int)≠0:=an
  simp[a,h,aL this,-ab0]
def zxh[bQ G](d:Da)(n:Nat)(hd:d.ok)(a:n<4294967296):FP G 161 [DV d,.int .u32 n] (.bf [.int .u32 ((D_ d n).1:Nat),.bool (D_ d n).2]):=by
 refine bA bQ.afC (aab rfl) ?_;have e:=zvp (G:=G) d hd;have g:=e_ (k:=.u64) hd.2.2.2.1;have f:=hd.2.2.2.1;simp[DV,Da.cs] at e |-;refine aw (zvq n a) ?_
 by_cases h:n%4=0/\n<64
 .have i:gH .u32 (n:Int) 4=((n/4:Nat):Int):=YB (b:=4) a aga;have j:=Bx f;have c:=sn .u32 (lu d) (n/4) an
  have l:(lu d).getD (n/4) 0=(lu d)[n/4]'(by omega):=by simp[aau,aad (show n/4<(lu d).length by omega)]
  simp[h,f,g,D_];refine aw e ?_;simp(disch:=omega)[i,bC,aA,j,c,-aaA]
 .simp[h,D_]
def I2(n:Int):Prop:=-9223372036854775808<=n/\n<=9223372036854775807
def af.ok(x:af):Prop:=(I2 x.op/\I2 x.jt/\I2 x.jf)/\x.k<4294967296
def zAf{k:IntKind}{cs:List V}(h:jx (.int k) cs):∃n,cs=[.int k n]/\(Lit.int k n).wf=true:=by simpa only[jx] using h
def I3(s:St)(k:Nat):Nat:=if k<16 then s.m.getD k 0 else 0
def Ea(s:St)(k v:Nat):St:=if k<16 then{ s with m:=s.m.set k v } else s
def v8(s:St)(x:af)(d:Da):St :=
 if x.op=0 then{ s with a:=x.k } else if x.op=1 then{ s with x:=x.k } else if x.op=32 then{ s with a:=(D_ d x.k).1 }
 else if x.op=96 then{ s with a:=I3 s x.k } else if x.op=97 then{ s with x:=I3 s x.k } else if x.op=2 then Ea s x.k s.a else if x.op=3 then Ea s x.k s.x
 else if x.op=7 then{ s with x:=s.a } else if x.op=135 then{ s with a:=s.x } else if x.op=132 then{ s with a:=rY s.a } else s
def vB(s:St)(x:af):Nat:=if(cT x.op).2.1 then s.x else x.k
def vC(s:St)(x:af):Nat×Bool:=dg (cT x.op).1 s.a (vB s x)
def o_(s:St)(x:af)(d:Da):St×Bool :=
 if(cT x.op).2.2 then(if(vC s x).2 then{ s with a:=(vC s x).1 } else s,(vC s x).2) else(v8 s x d,true)
def zCB[dp G](s:St)(k:Nat)(a:s.ok)(g:k<4294967296):FP G 162 [SV s,.int .u32 k] (.int .u32 (I3 s k:Nat)):=by
 refine bA dp.afD (aab rfl) ?_;have b:=a.2.2.1
 by_cases h:16<=k
 .have:(16:Int)<=(k:Int):=an
  simp[SV,St.cs,this,I3,show¬k<16 from an]
 .have d:k<16:=an
  have c:=sn .u32 s.m k an
  have i:s.m.getD k 0=s.m[k]'(by omega):=by simp[aau,aad (show k<s.m.length by omega)]
  have e:((16:Int)<=(k:Int))=False:=FI an;have f:((k:Int)<16)=True:=bC an;have j:(2+k+1<=16+1+1)=True:=aA an;simp[SV,St.cs,e,f,b,zDv,c,I3,d,show 2+k<=17 from an]
def zth[dp G](s:St)(k v:Nat)(d:s.ok)(i:k<4294967296):FP G 163 [SV s,.int .u32 k,.int .u32 v] (SV (Ea s k v)):=by
 refine bA dp.afE (aab rfl) ?_;have a:=d.2.2.1;have e:=e_ (k:=.u32) a
 by_cases b:k<16
 .have c:=xJ .u32 s.m k v an;have f:((k:Int)<16)=True:=bC an;have g:(av .u32 (s.m.set k v)).take 16=av .u32 (s.m.set k v):=e_ (by simp[a]);simp[SV,St.cs,f,a,zDv,zKR,c,Ea,b,g,show 2+k<=17 from an]
 .have h:((k:Int)<16)=False:=jW an;simp[SV,St.cs,h,Ea,b,a,e]
def zGf[dM G](a:Nat)(b:a<4294967296):FP G 138 [.int .u32 a] (.int .u32 (rY a:Nat)):=by
 refine bA dM.afj (aab rfl) ?_
 have:An .u32 (a:Int)=((rY a:Nat):Int):=by unfold An rY;rw[EW];omega
 simp[this]
def zre{s:St}(a:s.ok){k v:Nat}(b:v<4294967296):(Ea s k v).ok:=by
 unfold Ea;split
 .refine⟨a.1,a.2.1,by simp[a.2.2.1],λw c=>?_⟩
  rcases abm c with h|h
  .exact a.2.2.2 w h
  .rw[h];exact b
 .exact a
def zCC{s:St}(a:s.ok)(k:Nat):I3 s k<4294967296:=by
 unfold I3;split
 .rename_i h;rw[aau,aad (show k<s.m.length by rw[a.2.2.1];exact h),ab1];exact a.2.2.2 _ (aal _)
 .decide
def zCD{d:Da}(hd:d.ok)(k:Nat):(D_ d k).1<4294967296:=by
 unfold D_;split
 .rename_i h;have a:=Bx hd.2.2.2.1;simp only[aau,aad (show k/4<(lu d).length by omega),ab1];exact zte hd _ (aal _)
 .decide
def zxi{s:St}(a:s.ok){x:af}(b:x.k<4294967296):vB s x<4294967296:=by
 unfold vB;split
 .exact a.2.1
 .exact b
def zCE{s:St}(i:s.ok){x:af}(g:x.k<4294967296){d:Da}(hd:d.ok):(v8 s x d).ok:=by
 obtain⟨f,e,b,c⟩:=i;have j:rY s.a<4294967296:=abF _ aga;have h:=zCC ⟨f,e,b,c⟩ x.k;have l:=zCD hd x.k;unfold v8
 repeat' split
 all_goals first
  | exact⟨g,e,b,c⟩
  | exact⟨f,g,b,c⟩
  | exact⟨l,e,b,c⟩
  | exact⟨h,e,b,c⟩
  | exact⟨f,h,b,c⟩
  | exact zre ⟨f,e,b,c⟩ f
  | exact zre ⟨f,e,b,c⟩ e
  | exact⟨f,f,b,c⟩
  | exact⟨e,e,b,c⟩
  | exact⟨j,e,b,c⟩
  | exact⟨f,e,b,c⟩
def zti{s:St}(a:s.ok){x:af}(b:x.k<4294967296){d:Da}(hd:d.ok):(o_ s x d).1.ok:=by
 unfold o_;split
 .simp only;split
  .exact⟨Qy _ a.1 (zxi a b),a.2⟩
  .exact a
 .exact zCE a b hd
def zEM[ef G][dM G][aE G][bQ G][dp G](s:St)(x:af)(d:Da)(f:s.ok)(h:x.k<4294967296)(hd:d.ok) :
  FP G 164 [SV s,IV x,DV d] (.bf [SV (o_ s x d).1,.bool (o_ s x d).2]):=by
 refine bA dp.afF (aab rfl) ?_;have b:=f.2.2.1;have c:=e_ (k:=.u32) b;have q:=hd.2.2.2.1;have J:=e_ (k:=.u64) q;have r:=J8 (G:=G) x;have n:=JD (G:=G) inferInstance (cT x.op).1 s.a (vB s x) f.1 (zxi f h);have t:=zxh (G:=G) d x.k hd h;have o:=zCB (G:=G) s x.k f h;have i:=zth (G:=G) s x.k s.a f h;have j:=zth (G:=G) s x.k s.x f h;have K:=zGf (G:=G) s.a f.1
 have g:∀v,(Ea s x.k v).m.length=16:=λv=>by unfold Ea;split<;>simp[b]
 have l:=λv=>e_ (k:=.u32) (g v);simp[SV,IV,DV,af.cs,St.cs,Da.cs] at r t o i j |-;refine aw r ?_;cases u:(cT x.op).2.2
 case true =>
  simp
  have e:o_ s x d=(if(vC s x).2 then{ s with a:=(vC s x).1 } else s,(vC s x).2):=by simp[o_,u]
  cases w:(cT x.op).2.1
  .have:vB s x=x.k:=by simp[vB,w]
   rw[this] at n;simp;refine aw n ?_
   cases p:(dg (cT x.op).1 s.a x.k).2<;>simp[p,e,vC,this,b,c]
  .have:vB s x=s.x:=by simp[vB,w]
   rw[this] at n;simp;refine aw n ?_
   cases p:(dg (cT x.op).1 s.a s.x).2<;>simp[p,e,vC,this,b,c]
 simp
 have e:o_ s x d=(v8 s x d,true):=by simp[o_,u]
 rw[e]
 by_cases y:x.op=0
 .simp[y,v8,b,c]
 by_cases z:x.op=1
 .simp[z,aL,v8,b,c]
 by_cases A:x.op=32
 .simp[A,aL,v8,q,J];refine aw t ?_;simp[b,c]
 by_cases B:x.op=96
 .simp[B,aL,v8,b,c];refine aw o ?_;simp[b,c]
 by_cases C:x.op=97
 .simp[C,aL,v8,b,c];refine aw o ?_;simp[b,c]
 by_cases D:x.op=2
 .simp[D,aL,v8,b,c];refine aw i ?_;simp[b,g,l]
 by_cases E:x.op=3
 .simp[E,aL,v8,b,c];refine aw j ?_;simp[b,g,l]
 by_cases F:x.op=7
 .simp[F,aL,v8,b,c]
 by_cases H:x.op=135
 .simp[H,aL,v8,b,c]
 by_cases I:x.op=132
 .simp[I,aL,v8];refine aw K ?_;simp[b,c]
 simp[y,z,A,B,C,D,E,F,H,I,aL,v8,b,c]
def LJ{a b:Nat}(d:a<18446744073709551616):gH .u64 (a:Int) (b:Int)=((a/b:Nat):Int):=by have h:a/b<=a:=ab6 _ _;unfold gH;have c:((a:Int).tdiv (b:Int))=((a/b:Nat):Int):=rfl;rw[c];exact IntWalk.u64_in _ ⟨abK _,by rw[Int.ofNat_le.symm] at h;omega⟩
def zAg{a:Nat}(b:a<256):eO .u8 (a:Int)=(a:Int):=by unfold eO;exact IntWalk.u8_in _ ⟨an,an⟩
def cO(v n:Nat):List Nat:=(ab7 n).map λj=>v/256^j%256
def zAh(v n:Nat):cO v (n+1)=cO v n++[v/256^n%256]:=by simp[cO,abw]
def UM(v n:Nat):(cO v n).length=n:=by simp[cO]
def num:List Nat->Nat
 | []=>0
 | b::l=>b+256*num l
def part(s:St):Nat->Nat
 | 0=>s.a
 | 1=>s.x
 | i+2=>s.m.getD i 0
def goes(s:St)(x:af):Nat:=if x.op=5 then x.k else if bp x.op then(if tV s x then x.jt.toNat else x.jf.toNat) else 0
def run(d:Da)(g:List af)(s:St):Nat×Nat :=
 match g with
 | []=>(0,0)
 | x::g=>if x.op=6 then(x.k,1) else if x.op=22 then(s.a,1) else if(o_ s x d).2 then((run d (g.drop (goes s x)) (o_ s x d).1).1,(run d (g.drop (goes s x)) (o_ s x d).1).2+1) else(0,1)
termination_by g.length
decreasing_by all_goals (simp only[aaV,aah];omega)
def zvr(d:Da)(x:af)(g:List af)(s:St):run d (x::g) s=if x.op=6 then(x.k,1) else if x.op=22 then(s.a,1) else if(o_ s x d).2 then((run d (g.drop (goes s x)) (o_ s x d).1).1,(run d (g.drop (goes s x)) (o_ s x d).1).2+1) else(0,1):=by rw[run]
def zAi{x:af}(h:il x.op=false)(s:St):goes s x∈bg x:=by
 unfold goes bg;rw[h];simp only[abL,if_false]
 by_cases a:x.op=5
 .simp[a]
 .rw[if_neg a,if_neg a];split
  .split<;>simp
  .simp
def two(w:List Nat)(i:Nat):Nat:=w.getD i 0+w.getD (i+1) 0*4294967296
def mr(w:List Nat):Da:=⟨w.getD 0 0,w.getD 1 0,two w 2,(ab7 6).map λi=>two w (4+2*i)⟩
def OT(d:Da)(a v:Nat):Da:=if a%4=0/\a<64 then mr ((lu d).set (a/4) v) else d
def zCF{w:List Nat}(a:w.length=16)(b:∀x∈w,x<4294967296):lu (mr w)=w:=by
 match w,a with
 | [h,i,j,k,l,m,n,o,p,q,c,r,d,e,f,g],_ =>
  simp only[aag,aa9,or_false,forall_eq_or_imp,forall_eq] at b;simp only[lu,mr,two,lo,hi,abw,List.range_zero,abx,aar,abp,aaF,abX,List.flatMap_nil,List.getD_cons_zero,List.getD_cons_succ,Nat.mul_zero,Nat.mul_one,Nat.reduceMul,Nat.reduceAdd,acb.injEq,and_true,true_and]
  and_intros<;>omega
def OU{w:List Nat}(e:w.length=16)(d:∀x∈w,x<4294967296):(mr w).ok:=by
 have a:∀i,w.getD i 0<4294967296:=by
  intro i;rw[aau]
  cases h:w[i]? with
  | none=>decide
  | some z=>exact d z (aao h)
 have b:∀i,two w i<18446744073709551616:=λi=>by
  have:=a i;have:=a (i+1);unfold two;omega
 refine⟨a 0,a 1,b 2,by simp[mr],λx c=>?_⟩;simp only[mr,aaq] at c;obtain⟨i,_,rfl⟩:=c;exact b _
def zGg{l:List Nat}{i v n:Nat}(h:∀x∈l,x<n)(b:v<n):∀x∈l.set i v,x<n:=λx c=>by
 rcases abm c with a|a
 .exact h x a
 .rw[a];exact b
def Ez:St:=⟨0,0,aR 16⟩
def zKT(a b c:V)(l:List V)(n:Nat):(a::b::c::l).take (3+n)=a::b::c::l.take n:=by rw[acf];rfl
def zGh(b c:V)(l:List V)(n:Nat):(b::c::l).drop (3+n)=l.drop (n+1):=by rw[show 3+n=(n+1)+2 by omega];rfl
def zAj{w:List Nat}(b:∀x∈w,x<4294967296)(i:Nat):uI .u64 ((w.getD i 0:Nat):Int) (je .u64 ((w.getD (i+1) 0:Nat):Int) 32)=((two w i:Nat):Int):=by
 have a:∀i,w.getD i 0<4294967296:=by
  intro i;rw[aau]
  cases h:w[i]? with
  | none=>decide
  | some z=>exact b z (aao h)
 exact zAe _ _ (a i) (a (i+1))
def ZD:List V:=[.int .u32 0,.int .u32 0,.int .u64 0,.int .u64 0,.int .u64 0,.int .u64 0,.int .u64 0,.int .u64 0,.int .u64 0]
def HG(w:List Nat)(n:Nat)(a b c:Nat)(l:List Nat):ae:=[some (.cells (av .u32 w)),some (.cells ZD),some (.cells [.int .i64 n]),some (.cells (.int .u32 (a:Int)::.int .u32 (b:Int)::.int .u64 (c:Int)::av .u64 l))]
def zGi[dC G](w:List Nat)(n a b c:Nat)(l:List Nat)(f:w.length=16)(d:∀x∈w,x<4294967296)(u:n+1<16) :
  bD G (.F 231 [.ptr 0 0,.ptr 2 0] (HG w n a b c l) (.int .u64 (two w n:Nat)) (HG w (n+2) a b c l)):=by
 have g:=sn .u32 w n an;have h:=sn .u32 w (n+1) an
 have i:w.getD n 0=w[n]:=by simp[aau,aad (show n<w.length by omega)]
 have j:w.getD (n+1) 0=w[n+1]:=by simp[aau,aad (show n+1<w.length by omega)]
 have e:=zAj d n;rw[i,j] at e;have v:=d _ (aal (show n<w.length by omega));have y:=d _ (aal (show n+1<w.length by omega));have k:=OS w[n] an;have m:=OS w[n+1] an;have o:aB .i64 (n:Int) 1=((n+1:Nat):Int):=bF an;have p:aB .i64 (n:Int) 2=((n+2:Nat):Int):=lQ (n:=2) an;have q:((n:Int)<16)=True:=bC an;have r:(((n+1:Nat):Int)<16)=True:=bC an;have s:(n+1<=16)=True:=aA an
 have t:(n+1+1<=16)=True:=aA an;have z:(n<=14)=True:=aA an;refine eV dC.afW (aab rfl) ?_;simp[HG,ZD,o,p,q,r,s,t,g,h,k,m,e,f,-aae]
def yl(w:List Nat)(i:Nat):List Nat:=(ab7 6).map λj=>if j<i then two w (4+2*j) else 0
def zod(w:List Nat)(i:Nat):(yl w i).length=6:=by simp[yl]
def zyr(w:List Nat){i:Nat}(hi:i<6):(yl w i).set i (two w (4+2*i))=yl w (i+1):=by
 apply abi;intro j;rw[aa1,zod]
 by_cases h:i=j
 .subst h;simp[yl,hi]
 .rw[if_neg h]
  by_cases a:j<6
  .simp only[yl,List.getElem?_map,List.getElem?_range a,Option.map_some]
   by_cases b:j<i
   .simp[b,show j<i+1 by omega]
   .simp[b,show¬j<i+1 by omega]
  .simp[yl,a]
def zEN(w:List Nat):yl w 6=(mr w).args:=by simp only[yl,mr];apply List.map_congr_left;intro j a;simp[List.mem_range.1 a]
def zEO(w:List Nat):yl w 0=aR 6:=by simp[yl,aR,abw]
def zGj[dC G](w:List Nat)(b:w.length=16)(c:∀x∈w,x<4294967296):FP G 232 [.agg (av .u32 w)] (DV (mr w)):=by
 refine bA dC.afX (aab rfl) ?_;have m:=e_ (k:=.u32) b
 have n:(av .u32 w).take 1=[.int .u32 (w[0]:Nat)]:=by have:=sn .u32 w 0 an;rwa[abc] at this
 have o:(av .u32 w).tail.take 1=[.int .u32 (w[1]:Nat)]:=by have:=sn .u32 w 1 an;rwa[acd] at this
 have p:=sn .u32 w 2 an;have q:=sn .u32 w 3 an
 have d:∀i (h:i<16),w.getD i 0=w[i]:=λi h=>by simp[aau,aad (show i<w.length by omega)]
 have f:=zAj c 2;rw[d 2 an,d 3 an] at f;have z:=c _ (aal (show 2<w.length by omega));have A:=c _ (aal (show 3<w.length by omega));have r:=OS w[2] an;have s:=OS w[3] an;simp[n,o,p,q,r,s,f,b]
 refine aN 6 (λi=>[(2,.ptr 1 0),(4,.fn 231 [.ptr 0 0,.ptr 2 0]),(5,.ptr 3 0),(21,.int .i64 i)])
  (λi=>HG w (4+2*i) w[0] w[1] (two w 2) (yl w i)) (λ_=>True) ?_ ?_
 .have e:av .u64 (aR 6)=[.int .u64 0,.int .u64 0,.int .u64 0,.int .u64 0,.int .u64 0,.int .u64 0]:=rfl;simp[au,ak,HG,ZD,zEO,e]
 intro i hi _
 by_cases g:i<6
 .have j:=zGi (G:=G) w (4+2*i) w[0] w[1] (two w 2) (yl w i) b c an;have t:=zod w i;have l:=xJ .u64 (yl w i) i (two w (4+2*i)) an;rw[zyr w g] at l;simp[HG,ZD,-aae,-aaf] at j;simp(disch:=omega)[bC,HG,ZD,-aae,-aaf];refine kF j ir ?_;simp(disch:=omega)[ak,zKT,zGh,t,l,bC,aA,bF,g,au,show 4+2*(i+1)=4+2*i+2 from an,-aae,-aaf]
 .have u:i=6:=an
  subst u;have v:=zEN w;have a:=zod w 6;have y:=e_ (k:=.u64) a;have B:=d 0 an;have C:=d 1 an;simp[HG,ZD,DV,Da.cs,a,y];rw[<-v];simp[mr,b]
def zEP[bQ G][dC G](d:Da)(n v:Nat)(hd:d.ok)(i:n<4294967296)(o:v<4294967296):FP G 233 [DV d,.int .u32 n,.int .u32 v] (DV (OT d n v)):=by
 refine bA dC.afY (aab rfl) ?_;have j:=zvp (G:=G) d hd;have l:=e_ (k:=.u64) hd.2.2.2.1;have c:=hd.2.2.2.1;simp[DV,Da.cs] at j |-;refine aw (zvq n i) ?_
 by_cases h:n%4=0/\n<64
 .have p:gH .u32 (n:Int) 4=((n/4:Nat):Int):=YB (b:=4) i aga;have e:=Bx c;have q:=e_ (k:=.u32) e;have r:=xJ .u32 (lu d) (n/4) v an
  have f:((lu d).set (n/4) v).length=16:=by rw[aaZ];exact e
  have g:=e_ (k:=.u32) f;have m:=zGj (G:=G) ((lu d).set (n/4) v) f (zGg (zte hd) o)
  have a:(mr ((lu d).set (n/4) v)).args.length=6:=by simp[mr]
  have s:=e_ (k:=.u64) a;simp[DV,Da.cs] at m;simp[h,c,l,OT];refine aw j ?_;simp(disch:=omega)[p,bC,aA,e,r,f,g,-aaA];refine aw m ?_;simp[a,s]
 .simp[h,OT,c,l]
def fY(d:Da):List af->St->St×Nat
 | [],s=>(s,0)
 | x::w,s=>if(o_ s x d).2 then((fY d w (o_ s x d).1).1,(fY d w (o_ s x d).1).2+1) else(s,0)
def S_(d:Da):∀(w:List af) (s:St),(fY d w s).2<=w.length
 | [],s=>abd _
 | x::w,s=>by
  have:=S_ d w (o_ s x d).1;simp only[fY,aah];split
  .simp only;omega
  .simp
def Ta{d:Da}(hd:d.ok):∀(w:List af) (s:St),s.ok->(∀x∈w,x.k<4294967296)->(fY d w s).1.ok
 | [],s,a,_=>a
 | x::w,s,a,b=>by
  have:=Ta hd w (o_ s x d).1 (zti a (b x ir) hd) (λy c=>b y (by simp[c]));simp only[fY];split
  .exact this
  .exact a
def rk(s:St)(d:Da):List Nat:=s.a::s.x::(s.m++lu d)
def vD(v:List Nat):St:=⟨v.getD 0 0,v.getD 1 0,(v.drop 2).take 16⟩
def zCG{s:St}{d:Da}(a:s.ok)(hd:d.ok):(rk s d).length=34:=by simp[rk,a.2.2.1,Bx hd.2.2.2.1]
def tW(v:List Nat)(i:Nat):List Nat:=(v.drop 18).take i++aR (16-i)
def Tb{v:List Nat}(a:v.length=34){i:Nat}(hi:i<=16):(tW v i).length=16:=by simp[tW,a];omega
def zvs{v:List Nat}(b:∀x∈v,x<4294967296)(i:Nat):∀x∈tW v i,x<4294967296:=by
 intro x a;simp only[tW,aaW,aR,List.mem_replicate] at a
 rcases a with a|a
 .exact b x (aam (aas a))
 .omega
def zEQ{v:List Nat}(c:v.length=34){i:Nat}(hi:i<16):(tW v i).set i (v[18+i]' an)=tW v (i+1):=by
 apply abi;intro j
 have d:∀i,i<=16->∀j,(tW v i)[j]?=if j<i then v[18+j]? else if j<16 then some 0 else none:=by
  intro i hi j;rw[tW,abG,aaC,aaV,c,abJ,List.getElem?_drop]
  by_cases a:j<i
  .rw[if_pos an,if_pos a,if_pos a]
  .rw[if_neg an,if_neg a]
   by_cases b:j<16
   .rw[if_pos b];simp[aR,aaL];omega
   .rw[if_neg b];simp[aR,aaL];omega
 rw[aa1,Tb c an,d i an,d (i+1) an]
 by_cases e:i=j
 .subst e;rw[if_pos rfl,if_pos hi,if_pos an,aad an]
 .rw[if_neg e]
  by_cases a:j<i
  .rw[if_pos a,if_pos an]
  .rw[if_neg a]
   by_cases b:j<i+1
   .omega
   .rw[if_neg b]
def zCH{v:List Nat}(a:v.length=34)(b:∀x∈v,x<4294967296){i:Nat}(hi:i<16):OT (mr (tW v i)) (4*i) (v[18+i]' an)=mr (tW v (i+1)):=by rw[OT,if_pos ⟨an,an⟩,zCF (Tb a an) (zvs b i),show 4*i/4=i by omega,zEQ a hi]
def zGk{v:List Nat}(a:v.length=34):tW v 16=v.drop 18:=by rw[tW,show aR (16-16)=[] from rfl,abv,aan (by simp[a])]
def zKU(v:List Nat):tW v 0=aR 16:=by simp[tW]
def zvt{v:List Nat}(c:v.length=34)(a:∀x∈v,x<4294967296):(vD v).ok:=by
 have b:∀i,v.getD i 0<4294967296:=by
  intro i;rw[aau]
  cases h:v[i]? with
  | none=>decide
  | some z=>exact a z (aao h)
 exact⟨b 0,b 1,by simp[vD,c],λx d=>a x (aam (aas d))⟩
def ztj[ef G][dM G][aE G][aD G][bQ G][dp G][aQ G][db G](w:List af)(s:St)(d:Da)(F:w.length<=maxLen)(g:∀x∈w,x.k<4294967296)(h:s.ok)(hd:d.ok)(j:aY w=true) :
  FP G 292 [FL w,SV s,DV d] (.bf [SV (fY d w s).1,.int .i64 ((fY d w s).2:Nat)]):=by
 refine bA db.adR (aab rfl) ?_;have l:=AD (G:=G) w F g;rw[j] at l
 have N:w.length<=32:=by simp only[aY,aap,decide_eq_true_eq] at j;exact j.1
 have H:=h.2.2.1;have O:=e_ (k:=.u32) H;have v:=hd.2.2.2.1;have I:=e_ (k:=.u64) v;obtain⟨R,m⟩:=ax (fY d w s);have J:=S_ d w s;have n:=Ta hd w s h g;rw[<-m] at J n |-;simp[FL] at l;simp[FL,SV,DV,St.cs,Da.cs];refine aw l ?_;simp
 refine wq (λz:St×Nat=>w.length-z.2) (λz=>[(0,FL w),(4,.ptr 0 0),(5,.ptr 1 0),(6,.ptr 2 0),(16,FL w),(17,.int .i64 w.length),(18,.int .i64 z.2)])
  (λz=>[some (.cells z.1.cs),some (.cells d.cs),some (.cells (av .u32 (aR 18)))])
  (λz=>z.2<=w.length/\z.1.ok/\(fY d (w.drop z.2) z.1).1=R.1/\z.2+(fY d (w.drop z.2) z.1).2=R.2) (s,0) ?_ ?_
 .refine⟨⟨abd _,h,by simp[m],by simp[m]⟩,?_,?_⟩
  .simp[au,FL]
  .simp[ak,Da.cs,St.cs]
 rintro⟨t,i⟩ ⟨hi,f,a,b⟩;simp only at hi f a b;have c:=f.2.2.1;have o:=e_ (k:=.u32) c
 by_cases p:i<w.length
 .obtain⟨x,y⟩:=ax (w[i])
  have P:w[i]?=some x:=by rw[aad p,y]
  have q:=y.symm;have A:=abn p;rw[q] at A;have B:=g x (q▸aal p);have C:x.cs=[.int .i64 x.op,.int .i64 x.jt,.int .i64 x.jf,.int .u32 (x.k:Int)]:=rfl;have e:=zEM (G:=G) t x d f B hd;have D:=zti f B hd;have r:=D.2.2.1;have K:=e_ (k:=.u32) r;have L:=Yw (k:=.u32) c;have u:av .u32 (aR 18)=.int .u32 0::.int .u32 0::av .u32 (aR 16):=rfl;rw[A] at a b;simp only[fY] at a b;simp[SV,IV,DV,C,St.cs,Da.cs] at e
  simp(disch:=omega)[bC,FL,q,C,St.cs,Da.cs,c,o,v,I,-aae];refine aw e ?_;cases E:(o_ t x d).2
  .rw[E] at a b;simp only[abL,if_false] at a b;simp[c,o,r,u,-aae];rw[<-a,<-b];simp
  .rw[E] at a b;simp only[if_true] at a b;simp(disch:=omega)[c,r,K,L,bF,-aae];refine⟨((o_ t x d).1,i+1),by simp only;omega,⟨by simp only;omega,D,a,by simp only;omega⟩,?_,?_⟩
   .simp[au,-aae]
   .simp[ak]
 .have M:i=w.length:=an
  subst M;rw[abq] at a b;simp only[fY] at a b;have u:av .u32 (aR 18)=.int .u32 0::.int .u32 0::av .u32 (aR 16):=rfl;simp[FL,St.cs,Da.cs,c,o,u];rw[<-a,<-b];simp
def zxj(l:List af):(IL l=[])=(l=[]):=propext (R5 l)
def rm(s:St)(d:Da)(i:Nat):List Nat:=s.a::s.x::(s.m++((lu d).take i++aR (16-i)))
def zp7{s:St}{d:Da}(a:s.ok)(hd:d.ok){i:Nat}(hi:i<=16):(rm s d i).length=34:=by simp[rm,a.2.2.1,Bx hd.2.2.2.1];omega
def zsh{s:St}{d:Da}(hd:d.ok):rm s d 16=rk s d:=by rw[rm,show aR (16-16)=[] from rfl,abv,aan (by rw[Bx hd.2.2.2.1];exact aaj _),rk]
def zCI{s:St}{d:Da}(a:s.ok)(hd:d.ok){i:Nat}(hi:i<16):(rm s d i).set (18+i) ((lu d).getD i 0)=rm s d (i+1):=by
 have f:=Bx hd.2.2.2.1;have b:=a.2.2.1
 have c:(lu d).getD i 0=(lu d)[i]'(by omega):=by simp[aau,aad (show i<(lu d).length by omega)]
 rw[c]
 have e:18+i=(16+i)+1+1:=an
 simp only[rm,e,List.set_cons_succ]
 congr 2
 rw[aaP _ _ an,b,show 16+i-16=i by omega]
 congr 1
 rw[aaP _ _ (by rw[aaC];omega),aaC,Nat.min_eq_left an,abT,List.take_succ_eq_append_getElem an,abY]
 congr 1
 rw[show 16-i=(16-(i+1))+1 by omega];rfl
def zoe[bQ G][dc G](s:St)(d:Da)(b:s.ok)(hd:d.ok):FP G 293 [SV s,DV d] (.agg (av .u32 (rk s d))):=by
 refine bA dc.adS (aab rfl) ?_;have h:=b.2.2.1;have p:=e_ (k:=.u32) h;have j:=hd.2.2.2.1;have q:=e_ (k:=.u64) j;have n:av .u32 (aR 34)=.int .u32 0::.int .u32 0::av .u32 (aR 32):=rfl;have r:(av .u32 (aR 32)).drop 16=av .u32 (aR 16):=rfl
 have t:rm s d 0=s.a::s.x::(s.m++aR 16):=by simp[rm]
 have u:∀l m:List Nat,av .u32 (l++m)=av .u32 l++av .u32 m:=λl m=>by simp[av]
 simp[SV,DV,St.cs,Da.cs,n,h,p,r]
 refine aN 16 (λi=>[(3,.ptr 1 0),(4,.ptr 2 0),(5,.ptr 3 0),(17,.int .i64 i)])
  (λi=>[some (.cells s.cs),some (.cells d.cs),some (.cells (av .u32 (aR 34))),some (.cells (av .u32 (rm s d i)))]) (λ_=>True) ?_ ?_
 .have v:a_ 4 (av .u32 s.m++av .u32 (aR 16))=av .u32 (s.m++aR 16):=by rw[<-u];simp
  simp[au,ak,St.cs,Da.cs,t,n,v];rfl
 intro i hi _
 by_cases o:i<16
 .have c:=zxh (G:=G) d (4*i) hd an
  have w:D_ d (4*i)=((lu d).getD i 0,true):=by rw[D_,if_pos ⟨an,an⟩,show 4*i/4=i by omega]
  rw[w] at c;have e:=zp7 b hd hi;have f:=xJ .u32 (rm s d i) (18+i) ((lu d).getD i 0) an;rw[zCI b hd o] at f;obtain⟨x,y⟩:=ax ((lu d).getD i 0);rw[<-y] at f c
  have z:aB .i64 18 (i:Int)=((18+i:Nat):Int):=by rw[show(18:Int)=((18:Nat):Int) from rfl];exact pQ an
  have A:da .i64 4 (i:Int)=((4*i:Nat):Int):=by unfold da;rw[show(4:Int)*(i:Int)=((4*i:Nat):Int) by omega];exact IntWalk.i64_in _ ⟨an,an⟩
  have B:eO .u32 ((4*i:Nat):Int)=((4*i:Nat):Int):=by unfold eO;exact IntWalk.u32_in _ ⟨an,an⟩
  simp[DV,Da.cs,-aaf] at c;simp(disch:=omega)[bC,z,A,B,Da.cs,j,q,-aae,-aaf];refine aw c ?_;simp(disch:=omega)[bC,aA,e,f,o,bF,au,ak,St.cs,-aae,-aaf]
 .have C:i=16:=an
  subst C;have e:=zCG b hd;have D:=e_ (k:=.u32) e;have g:=zsh (s:=s) hd;simp[g,e,D]
def zwk[bQ G][dC G][b_ G](v:List Nat)(b:v.length=34)(g:∀x∈v,x<4294967296):FP G 294 [.agg (av .u32 v)] (.bf [SV (vD v),DV (mr (v.drop 18))]):=by
 refine bA b_.adT (aab rfl) ?_;have O:=e_ (k:=.u32) b;obtain⟨a,e⟩:=ax (v[0]);obtain⟨x,f⟩:=ax (v[1])
 have C:(av .u32 v).take 1=[.int .u32 (a:Nat)]:=by have:=sn .u32 v 0 an;rwa[abc,<-e] at this
 have E:(av .u32 v).tail.take 1=[.int .u32 (x:Nat)]:=by have:=sn .u32 v 1 an;rwa[acd,<-f] at this
 obtain⟨m,j⟩:=ax ((v.drop 2).take 16)
 have l:m.length=16:=by rw[j];simp[b]
 have F:((av .u32 v).drop 2).take 16=av .u32 m:=by rw[j];simp[av,List.map_drop,List.map_take]
 have t:=e_ (k:=.u32) l
 have n:vD v=⟨a,x,m⟩:=by rw[e,f,j];simp[vD,aau,aad (show 0<v.length by omega),aad (show 1<v.length by omega)]
 have o:av .u32 (aR 18)=.int .u32 0::.int .u32 0::av .u32 (aR 16):=rfl;have H:(av .u32 (aR 16)).drop 16=[]:=rfl
 have I:mr (tW v 0)=⟨0,0,0,aR 6⟩:=by rw[zKU];rfl
 have p:av .u64 (aR 6)=[.int .u64 0,.int .u64 0,.int .u64 0,.int .u64 0,.int .u64 0,.int .u64 0]:=rfl;simp[b,C,E,F,o,H,l,t]
 refine aN 16 (λi=>[(1,.ptr 0 0),(2,.ptr 1 0),(3,.ptr 2 0),(4,.ptr 3 0),(5,.ptr 4 0),(16,.int .i64 i)])
  (λi=>[some (.cells (av .u32 v)),some (.cells (av .u32 (aR 18))),some (.cells ZD),some (.cells (St.cs ⟨a,x,m⟩)),some (.cells (mr (tW v i)).cs)]) (λ_=>True) ?_ ?_
 .simp[au,ak,St.cs,Da.cs,I,o,p,ZD]
 intro i hi _;have u:=OU (Tb b hi) (zvs g i);have c:=u.2.2.2.1;have h:=e_ (k:=.u64) c
 by_cases w:i<16
 .have d:=zEP (G:=G) (mr (tW v i)) (4*i) (v[18+i]' an) u an (g _ (aal _));rw[zCH b g w] at d;have q:=OU (Tb b (show i+1<=16 by omega)) (zvs g (i+1));have r:=q.2.2.2.1;have s:=e_ (k:=.u64) r;have z:=sn .u32 v (18+i) an;generalize mr (tW v i)=D at d c h;obtain⟨A,B⟩:=ax (mr (tW v (i+1)));rw[<-B] at d r s;obtain⟨y,J⟩:=ax (v[18+i]'(by omega))
  rw[<-J] at d z
  have K:aB .i64 18 (i:Int)=((18+i:Nat):Int):=by rw[show(18:Int)=((18:Nat):Int) from rfl];exact pQ an
  have L:da .i64 4 (i:Int)=((4*i:Nat):Int):=by unfold da;rw[show(4:Int)*(i:Int)=((4*i:Nat):Int) by omega];exact IntWalk.i64_in _ ⟨an,an⟩
  have M:eO .u32 ((4*i:Nat):Int)=((4*i:Nat):Int):=by unfold eO;exact IntWalk.u32_in _ ⟨an,an⟩
  simp[DV,Da.cs,-aaf] at d;simp(disch:=omega)[bC,aA,K,L,M,Da.cs,c,h,b,z,-aae,-aaf];refine aw d ?_;simp(disch:=omega)[w,bF,au,ak,St.cs,ZD,c,r,<-B,Yw (k:=.u64) c,-aae,-aaf]
 .have N:i=16:=an
  subst N;rw[zGk b] at c h |-;simp[St.cs,Da.cs,ZD,c,h,l,t,o,n,SV,DV]
structure Cd where
 arg:Int
 cmp:Int
 mask:Nat
 val:Nat
 deriving DecidableEq
def Cd.ok(c:Cd):Prop:=c.mask<18446744073709551616/\c.val<18446744073709551616
def Cd.right(c:Cd):Bool:=decide (0<=c.arg/\c.arg<=5/\0<=c.cmp/\c.cmp<=5)
def aaT(cmp:Int)(a b:Nat):Bool :=
 if cmp=0 then decide (a=b) else if cmp=1 then decide (a≠b) else if cmp=2 then decide (a<b) else if cmp=3 then decide (a<=b) else if cmp=4 then decide (b<a) else decide (b<=a)
def aaU(d:Da)(c:Cd):Nat:=d.args.getD c.arg.toNat 0 &&& c.mask
def Cd.holds(c:Cd)(d:Da):Bool:=c.right&&aaT c.cmp (aaU d c) c.val
def Cz(c:List af)(l:Nat):List af:=c.drop (c.length-l)
def zER{a c:List af}{l:Nat}(h:l<=c.length):Cz (a++c) l=Cz c l:=by unfold Cz;rw[aaG,show a.length+c.length-l=a.length+(c.length-l) by omega,List.drop_length_add_append]
def ow(c c':List af)(n:Nat):Prop:=∃a,c'=a++c/\a.length<=n
def ow.refl(c:List af):ow c c 0:=⟨[],rfl,aaj _⟩
def ow.trans{a b c:List af}{n m:Nat}(h:ow a b n)(k:ow b c m):ow a c (n+m):=by obtain⟨x,rfl,d⟩:=h;obtain⟨y,rfl,e⟩:=k;exact⟨y++x,by rw[abY],by rw[aaG];omega⟩
def ow.mono{a b:List af}{n m:Nat}(h:ow a b n)(c:n<=m):ow a b m:=by obtain⟨x,rfl,d⟩:=h;exact⟨x,rfl,an⟩
def ow.len{a b:List af}{n:Nat}(h:ow a b n):a.length<=b.length/\b.length<=a.length+n:=by obtain⟨x,rfl,c⟩:=h;rw[aaG];omega
def ow.Cz{a b:List af}{n l:Nat}(h:ow a b n)(c:l<=a.length):Cz b l=Cz a l:=by obtain⟨x,rfl,d⟩:=h;exact zER c
def cD(c:List af)(t:Nat):List af:=if c.length-t<=254 then c else⟨5,0,0,c.length-t⟩::c
def jc(c:List af)(t:Nat):Nat:=if c.length-t<=254 then t else c.length+1
def ib(c:List af)(op:Int)(k t f:Nat):List af :=
 ⟨op,((cD (cD c t) f).length-jc c t:Nat),((cD (cD c t) f).length-jc (cD c t) f:Nat),k⟩::cD (cD c t) f
def bY(c:List af)(op:Int)(k:Nat):List af:=⟨op,0,0,k⟩::c
def Eb(c:List af)(t:Nat):ow c (cD c t) 1:=by
 unfold cD;split
 .exact(ow.refl c).mono an
 .exact⟨[_],rfl,aaj _⟩
def Tc{c:List af}{t:Nat}(h:1<=t/\t<=c.length):1<=jc c t/\jc c t<=(cD c t).length/\(cD c t).length-jc c t<=254:=by
 unfold jc cD;split
 .exact⟨h.1,h.2,an⟩
 .simp only[aah];omega
def OV(c:List af)(op:Int)(k:Nat):ow c (bY c op k) 1:=⟨[_],rfl,aaj _⟩
def Ec(c:List af)(op:Int)(k t f:Nat):ow c (ib c op k t f) 3 :=
 ((Eb c t).trans (Eb _ f)).trans ⟨[_],rfl,aaj _⟩
def zrg(c:List af)(op:Int)(k t f:Nat):c.length<(ib c op k t f).length:=by have:=((Eb c t).trans (Eb _ f)).len;simp only[ib,aah];omega
def tY(op:Int):Prop:=op=21\/op=37\/op=53
def zmU{c:List af}{x:af}(h:dR c=true)(b:bX x c.length=true)(e:c.length<4096):dR (x::c)=true:=by
 simp only[dR,aap,decide_eq_true_eq] at h |-;obtain⟨⟨f,d⟩,a⟩:=h;refine⟨⟨by simp only[aah];omega,by simp only[j7,aap];exact⟨b,d⟩⟩,?_⟩
 cases c with
 | nil=>simp[kp] at a
 | cons y c=>simpa[kp,List.getLast?_cons_cons] using a
def zrh{c:List af}{t:Nat}(h:dR c=true)(e:1<=t/\t<=c.length)(a:c.length<4096):dR (cD c t)=true:=by
 unfold cD;split
 .exact h
 .refine zmU h ?_ a
  have b:oh 5=some (5,[106,97],true,false):=by decide
  have d:bp 5=false:=by decide
  simp[bX,ij,b,kR,d];omega
def Td{c:List af}{op:Int}{k t f:Nat}(i:tY op)(h:dR c=true)(d:1<=t/\t<=c.length)(j:1<=f/\f<=c.length)(s:c.length+3<=4096):dR (ib c op k t f)=true:=by
 have u:=(Eb c t).len;have v:=(Eb (cD c t) f).len;have w:=Tc d;have e:1<=f/\f<=(cD c t).length:=⟨j.1,an⟩;have x:=Tc e;have l:=zrh h d an;have m:=zrh l e an;unfold ib;generalize cD (cD c t) f=c2 at *;generalize jc c t=t1 at *;generalize jc (cD c t) f=f1 at *;refine zmU m ?_ an
 have a:∀op:Int,tY op->(oh op).map (λr=>(r.2.2.1,r.2.2.2))=some (true,true)/\bp op=true/\op≠5/\∀k,kR ⟨op,((c2.length-t1:Nat):Int),((c2.length-f1:Nat):Int),k⟩=true:=by rintro op (rfl|rfl|rfl)<;>exact⟨aga,aga,aga,λk=>by simp[kR]⟩
 obtain⟨g,n,o,p⟩:=a op i;rw[aay] at g;obtain⟨r,q,b⟩:=g;simp only[abC.injEq] at b;simp only[bX,ij,q,b.1,b.2,p,o,n,if_true,if_false,Bool.true_or,Bool.true_and,Bool.and_true,aap,decide_eq_true_eq];omega
def I6(op:Int)(k:Nat):Prop:=op=84\/op=6\/op=32/\k%4=0/\k<64
def ztk{op:Int}{k:Nat}(d:I6 op k):ij ⟨op,0,0,k⟩=true/\kR ⟨op,0,0,k⟩=true/\bp op=false/\op≠5:=by
 rcases d with rfl|rfl|⟨rfl,e,f⟩
 .refine⟨?_,by simp[kR],aga,aga⟩
  have b:(oh 84).map (λr=>(r.2.2.1,r.2.2.2))=some (true,false):=by decide
  rw[aay] at b;obtain⟨r,c,a⟩:=b;simp only[abC.injEq] at a;simp[ij,c,a.1,a.2]
 .refine⟨?_,by simp[kR],aga,aga⟩
  have b:(oh 6).map (λr=>(r.2.2.1,r.2.2.2))=some (true,false):=by decide
  rw[aay] at b;obtain⟨r,c,a⟩:=b;simp only[abC.injEq] at a;simp[ij,c,a.1,a.2]
 .refine⟨?_,by simp[kR,e,f],aga,aga⟩
  have b:(oh 32).map (λr=>(r.2.2.1,r.2.2.2))=some (true,false):=by decide
  rw[aay] at b;obtain⟨r,c,a⟩:=b;simp only[abC.injEq] at a;simp[ij,c,a.1,a.2]
def OW{c:List af}{op:Int}{k:Nat}(a:I6 op k)(h:dR c=true)(b:c.length<4096):dR (bY c op k)=true:=by refine zmU h ?_ b;obtain⟨d,e,f,g⟩:=ztk a;simp[bX,d,e,f,g]
def OX(d:Da)(c:List af)(l v:Nat):Prop:=∀s:St,s.ok->(run d (Cz c l) s).1=v
def OX.grown{d:Da}{a b:List af}{n l v:Nat}(h:OX d a l v)(g:ow a b n)(c:l<=a.length):OX d b l v:=λs e=>by rw[g.Cz c];exact h s e
def Te(d:Da)(c:List af)(l a v:Nat):Prop:=∀s:St,s.ok->s.a=a->(run d (Cz c l) s).1=v
def Te.grown{d:Da}{a b:List af}{n l w v:Nat}(h:Te d a l w v)(g:ow a b n)(c:l<=a.length):Te d b l w v:=λs e f=>by rw[g.Cz c];exact h s e f
def OX.dep{d:Da}{c:List af}{l v:Nat}(h:OX d c l v)(w:Nat):Te d c l w v:=λs a _=>h s a
def Ed(n:Int):Int:=if n=0 then 1 else if n=1 then 0 else if n=2 then 5 else if n=3 then 4 else if n=4 then 3 else 2
def rn(n:Int):Int:=if n=4 then 37 else if n=5 then 53 else 21
def cr(c:List af)(x:Cd)(t f:Nat):List af:=bY (bY (ib c (rn x.cmp) (lo x.val) t f) 84 (lo x.mask)) 32 (16+8*x.arg.toNat)
def uG(c:List af)(x:Cd)(t f:Nat):List af:=if rn x.cmp=21 then cr c x t f else ib (cr c x t f) 37 (hi x.val) t f
def I7(c:List af)(x:Cd)(t f:Nat):List af :=
 bY (bY (ib (uG c x t f) 21 (hi x.val) (cr c x t f).length (if rn x.cmp=21 then f else(uG c x t f).length)) 84 (hi x.mask)) 32 (20+8*x.arg.toNat)
def K8(x:Cd):Bool:=decide (x.cmp=1\/x.cmp=2\/x.cmp=3)
def gL(c:List af)(x:Cd)(t f:Nat):List af:=if K8 x then I7 c { x with cmp:=Ed x.cmp } f t else I7 c x t f
def zDw(n:Int):tY (rn n):=by
 unfold rn tY;split
 .exact .inr (.inl rfl)
 .split
  .exact .inr (.inr rfl)
  .exact .inl rfl
def Tf(c:List af)(x:Cd)(t f:Nat):ow c (cr c x t f) 5:=((Ec c _ _ t f).trans (OV _ _ _)).trans (OV _ _ _)
def Th(c:List af)(x:Cd)(t f:Nat):ow (cr c x t f) (uG c x t f) 3:=by
 unfold uG;split
 .exact(ow.refl _).mono an
 .exact Ec _ _ _ _ _
def zwl(c:List af)(x:Cd)(t f:Nat):ow c (I7 c x t f) 13 :=
 (((Tf c x t f).trans (Th c x t f)).trans (Ec _ _ _ _ _)).trans ((OV _ _ _).trans (OV _ _ _)) |>.mono an
def zri(c:List af)(x:Cd)(t f:Nat):ow c (gL c x t f) 13:=by
 unfold gL
 split<;>exact zwl _ _ _ _
def Ti{x:Cd}(h:x.right=true)(b:Nat)(a:b=16\/b=20):I6 32 (b+8*x.arg.toNat):=by
 simp only[Cd.right,decide_eq_true_eq] at h
 refine .inr (.inr ⟨rfl,?_,?_⟩)<;>omega
def zpt{c:List af}{x:Cd}{t f:Nat}(h:dR c=true)(a:x.right=true)(d:1<=t/\t<=c.length)(e:1<=f/\f<=c.length)(j:c.length+13<=4096):dR (I7 c x t f)=true:=by
 have k:=(Tf c x t f).len;have l:=(Th c x t f).len;have m:=(Ec c (rn x.cmp) (lo x.val) t f).len
 have b:dR (cr c x t f)=true:=by refine OW (Ti a 16 (.inl rfl)) (OW (.inl rfl) (Td (zDw _) h d e an) an) ?_;simp only[bY,aah];omega
 have p1:1<=(cr c x t f).length:=an
 have g:dR (uG c x t f)=true:=by
  unfold uG;split
  .exact b
  .exact Td (.inr (.inl rfl)) b an an an
 have i:1<=(if rn x.cmp=21 then f else(uG c x t f).length)/\(if rn x.cmp=21 then f else(uG c x t f).length)<=(uG c x t f).length:=by split<;>omega
 have n:=(Ec (uG c x t f) 21 (hi x.val) (cr c x t f).length (if rn x.cmp=21 then f else(uG c x t f).length)).len;refine OW (Ti a 20 (.inr rfl)) (OW (.inl rfl) (Td (.inl rfl) g an i an) an) ?_;simp only[bY,aah];omega
def zof{x:Cd}(h:x.right=true):({ x with cmp:=Ed x.cmp }:Cd).right=true:=by
 simp only[Cd.right,decide_eq_true_eq] at h |-;refine⟨h.1,h.2.1,?_⟩;simp only[Ed]
 repeat' split
 all_goals omega
def zys{c:List af}{x:Cd}{t f:Nat}(h:dR c=true)(a:x.right=true)(b:1<=t/\t<=c.length)(d:1<=f/\f<=c.length)(e:c.length+13<=4096):dR (gL c x t f)=true:=by
 unfold gL;split
 .exact zpt h (zof a) d b e
 .exact zpt h a b d e
def Cd.cs(c:Cd):List V:=[.int .i64 c.arg,.int .i64 c.cmp,.int .u64 (c.mask:Int),.int .u64 (c.val:Int)]
def CL(l:List Cd):List (List V):=l.map Cd.cs
@[simp] theorem zLn (l:List Cd):(CL l).length=l.length:=by simp[CL]
theorem zvu{l:List Cd}{i:Nat}{x:Cd}(h:l[i]?=some x):(CL l)[i]?=some x.cs:=by simp[CL,h]
def zvv[ei G](c:Cd):FP G 396 [.agg c.cs] (.bool c.right):=by
 refine bA ei.aek (aab rfl) ?_
 by_cases a:0<=c.arg
 .by_cases b:c.arg<6
  .by_cases d:0<=c.cmp
   .by_cases f:c.cmp<=5
    .have e:c.arg<=5:=an
     simp[Cd.cs,Cd.right,a,b,d,f,e]
    .simp[Cd.cs,Cd.right,a,b,d,f]
   .simp[Cd.cs,Cd.right,a,b,d]
  .have e:¬c.arg<=5:=an
   simp[Cd.cs,Cd.right,a,b,e]
 .simp[Cd.cs,Cd.right,a]
def It:List V:=[.str [101,113],.fn 397 [],.int .i64 1,.str [110,101],.fn 398 [],.int .i64 0,.str [108,116],.fn 399 [],.int .i64 5,.str [108,101],.fn 400 [],.int .i64 4,.str [103,116],.fn 401 [],.int .i64 3,.str [103,101],.fn 402 [],.int .i64 2]
def zvw[dm G]:FP G 403 [] (.agg It):=by refine bA dm.ael (aab rfl) ?_;simp[It]
def Ee(c:Cd):Cd:=if c.right then{ c with cmp:=Ed c.cmp } else c
def zGl[ei G][dm G](c:Cd):FP G 404 [.agg c.cs] (.agg (Ee c).cs):=by
 refine bA dm.aem (aab rfl) ?_;have b:=zvv (G:=G) c;simp only[Cd.cs] at b;simp[Cd.cs];refine aw b ?_
 cases h:c.right with
 | false=>simp[Ee,h]
 | true =>
  have d:=h;simp only[Cd.right,decide_eq_true_eq] at d;obtain⟨_,_,e,f⟩:=d;simp;refine aw zvw ?_
  have a:c.cmp=0\/c.cmp=1\/c.cmp=2\/c.cmp=3\/c.cmp=4\/c.cmp=5:=an
  rcases a with a|a|a|a|a|a<;>simp[Ee,h,a,It,Ed]
def ke(d:Nat):UInt8:=aa2 (if d<10 then 48+d else 87+d)
def v9(n:Nat):Nat->List UInt8×Bool
 | 0=>([48,120],false)
 | k+1=>if(v9 n k).2||decide (0<n/2^(60-4*k)%16)||decide (k=15) then((v9 n k).1++[ke (n/2^(60-4*k)%16)],true) else((v9 n k).1,false)
def br(n:Nat):List UInt8:=(v9 n 16).1
def Tj(n:Nat):∀k,(v9 n k).1.length<=2+k
 | 0=>by simp[v9]
 | k+1=>by
  have:=Tj n k;unfold v9
  split<;>simp<;>omega
def zGm(d:Nat)(h:d<16):([48,49,50,51,52,53,54,55,56,57,97,98,99,100,101,102]:List UInt8)[d]?=some (ke d):=by
 have:∀d<16,([48,49,50,51,52,53,54,55,56,57,97,98,99,100,101,102]:List UInt8)[d]?=some (ke d):=by decide
 exact this d h
def shU{n e:Nat}(h:e<=64):jI .u64 (n:Int) (e:Int)=((n/2^e:Nat):Int):=by
 unfold jI
 have:min (e:Int).toNat IntKind.u64.bits=e:=by have:IntKind.u64.bits=64:=rfl;omega
 rw[this,show((2:Int)^e)=((2^e:Nat):Int) by simp,abg _ (abK _)];simp
def zKV{x:Nat}(h:x<18446744073709551616):jJ .u64 (x:Int) 15=((x%16:Nat):Int):=by
 have a:(aaK 64 (x:Int) &&& aaK 64 15).toNat=x%16:=by rw[show aaK 64 (x:Int)=abo 64 x by apply BitVec.eq_of_toNat_eq;simp,show aaK 64 15=abo 64 15 from rfl];simp only[BitVec.toNat_and,aaM];rw[show 15%2^64=2^4-1 from rfl,Nat.and_two_pow_sub_one_eq_mod,aaR (show x<2^64 from h)]
 have b:jJ .u64 (x:Int) 15=IntKind.u64.wrap (((aaK 64 (x:Int) &&& aaK 64 15).toNat:Nat):Int):=rfl;rw[b,a];have:x%16<16:=abF _ aga;rw[IntKind.wrap,show IntKind.u64.signed=false from rfl];simp[IntKind.bits];omega
def zrj:∀s:List UInt8,B7 (qv s)=some s
 | []=>rfl
 | b::s=>by
  have a:=zrj s;simp only[qv] at a;simp[qv,B7,a]
def zES[fP G](n:Nat)(y:n<18446744073709551616):FP G 392 [.int .u64 n] (.str (br n)):=by
 refine bA fP.aeg (aab rfl) ?_;obtain⟨T,i⟩:∃T:Nat->List UInt8×Bool,∀k,T k=v9 n k:=⟨_,λ_=>rfl⟩
 have z:∀k,(T k).1.length<=2+k:=λk=>by rw[i];exact Tj n k
 simp;refine aN 16 (λk=>[(0,.int .u64 n),(3,.vs (qv (T k).1) (.own 1)),(4,.bool (T k).2),(5,.int .i64 (60-4*(k:Int)))]) (λk=>[some (.zone 1),some (.zone (T k).1.length)]) (λ_=>True) ?_ ?_
 .simp[au,ak,i,v9,qv,pg]
 intro k c _
 rcases abU c with c|c
 .subst c;simp[zrj,i,br]
  done
 .obtain⟨e,A⟩:=ax (60-4*k);obtain⟨d,hd⟩:=ax (n/2^e%16)
  have B:(60-4*(k:Int))=(e:Int):=an
  have C:=shU (n:=n) (e:=e) an;have D:n/2^e<18446744073709551616:=Nat.lt_of_le_of_lt (ab6 _ _) y;have v:=zKV D
  have E:d<16:=an
  have F:=zGm d E;rw[<-hd] at v;have N:=z k
  have j:T (k+1)=if(T k).2||decide (0<d)||decide (k=15) then((T k).1++[ke d],true) else((T k).1,false):=by rw[i,i,v9,<-A,<-hd]
  rw[B];simp(disch:=omega)[C,v,jW,-ab0,-aaA,-Int.natCast_pow]
  have l:(60:Int)-4*((k+1:Nat):Int)=(e:Int)-4:=an
  have m:cL .i64 (e:Int) 4=(e:Int)-4:=nC an an
  have a:(qv (T k).1).length=(T k).1.length:=by simp[qv]
  have o:∀b,(T k).2=b->(b||decide (0<d)||decide (k=15))=true->T (k+1)=((T k).1++[ke d],true):=λb g H=>by rw[j,if_pos (by rw[g];exact H)]
  have I:(T k).2=false->¬0<d->¬k=15->T (k+1)=((T k).1,false):=λg J K=>by rw[j,if_neg (by simp[g,J,K])]
  have p:qv ((T k).1++[ke d])=qv (T k).1++[[.int .u8 ((ke d).toNat:Nat)]]:=by simp[qv]
  have L:∀f∈qv (T k).1,f.length=1:=by intro f w;simp only[qv,aaq] at w;obtain⟨_,_,rfl⟩:=w;rfl
  have q:=eq_true L;have h:((T k).1.length<=140737488355327)=True:=af8
  have r:([48,49,50,51,52,53,54,55,56,57,97,98,99,100,101,102]:List UInt8)[d]'(by simp;omega)=ke d:=by have:=F;rw[aad (by simp;omega)] at this;exact aa3.inj this
  cases g:(T k).2 with
  | true =>
   simp(disch:=omega)[au,ak,r,h,q,m,o _ g rfl,p,a,l,-aae]
   exact c
  | false =>
   by_cases s:0<d
   .have t:=eq_true s
    have O:¬(0=d):=an
    simp(disch:=omega)[au,ak,r,h,q,m,o _ g (by simp[s]),p,a,l,t,-aae];exact c
   .have u:d=0:=an
    subst u
    by_cases x:k=15
    .have:e=0:=an
     subst this;simp(disch:=omega)[au,ak,r,h,q,o _ g (by simp[x]),p,a,l,show cL .i64 0 4=-4 from rfl,-aae];exact c
    .have P:((e:Int)=0)=False:=af9
     have M:((e:Int)==0)=false:=by simp;omega
     simp(disch:=omega)[au,ak,m,I g s x,l,M,-aae];exact c
def zp(c:List af):Prop:=∀y∈c,y.k<4294967296
def zxk{c:List af}{t:Nat}(d:c.length<=1000100)(b:zp c):zp (cD c t):=by
 intro y a;unfold cD at a;split at a
 .exact b y a
 .rcases aag.1 a with rfl|a
  .simp only;omega
  .exact b y a
def Tn{c:List af}{op:Int}{k t f:Nat}(e:c.length<=1000050)(b:k<4294967296)(d:zp c):zp (ib c op k t f):=by
 intro y a
 rcases aag.1 a with rfl|a
 .exact b
 .exact zxk (by have:=(Eb c t).len;omega) (zxk an d) y a
def K9{c:List af}{op:Int}{k:Nat}(b:k<4294967296)(d:zp c):zp (bY c op k):=by
 intro y a
 rcases aag.1 a with rfl|a
 .exact b
 .exact d y a
def zET{c:List af}{x:Cd}{t f:Nat}(e:∀y∈c,y.k<4294967296)(i:c.length<=1000000)(a:x.right=true):∀y∈gL c x t f,y.k<4294967296:=by
 have b:∀(x:Cd) (t f:Nat),x.right=true->zp (I7 c x t f):=by
  intro x t f a;have g:=a;simp only[Cd.right,decide_eq_true_eq] at g;have j:=(Tf c x t f).len;have l:=(Th c x t f).len;have d:zp (cr c x t f):=K9 an (K9 (S9 _) (Tn an (S9 _) e))
  have h:zp (uG c x t f):=by
   unfold uG;split
   .exact d
   .exact Tn an (OR _) d
  exact K9 an (K9 (OR _) (Tn an (OR _) h))
 unfold gL;split
 .exact b _ _ _ (zof a)
 .exact b _ _ _ a
structure Ru where
 aJ:Nat
 nr:Nat
 conds:List Cd
 act:Nat
 deriving DecidableEq
structure Po where
 rules:List Ru
 eR:Nat
 deriving DecidableEq
def Ru.du(r:Ru):Prop:=(∀x∈r.conds,x.right=true/\x.ok)/\r.aJ<4294967296/\r.nr<4294967296/\r.act<4294967296
abbrev tT:=List af×Nat
def Ge(o:Nat):List Cd->tT->tT
 | [],s=>s
 | x::xs,s=>(gL (Ge o xs s).1 x (Ge o xs s).2 o,(gL (Ge o xs s).1 x (Ge o xs s).2 o).length)
def zDx(r:Ru)(s:tT):tT:=Ge s.2 r.conds (bY s.1 6 r.act,s.1.length+1)
def r_:List Ru->tT->tT
 | [],s=>s
 | r::l,s=>zDx r (r_ l s)
def uE:List Ru->Nat
 | []=>0
 | r::l=>1+13*r.conds.length+uE l
structure Came (c:List af) (s:tT) (n:Nat):Prop where
 grown:ow c s.1 n
 nA:1<=s.2/\s.2<=s.1.length
 sound:dR c=true->c.length+n<=4096->dR s.1=true
 ks:zp c->c.length+n<=4096->zp s.1
def Came.mono{c:List af}{s:tT}{n m:Nat}(h:Came c s n)(d:n<=m):Came c s m:=⟨h.grown.mono d,h.nA,λa b=>h.sound a an,λa b=>h.ks a an⟩
def Came.self{c:List af}{l:Nat}(h:1<=l/\l<=c.length):Came c (c,l) 0:=⟨ow.refl c,h,λa _=>a,λa _=>a⟩
def Came.trans{c:List af}{s t:tT}{n m:Nat}(h:Came c s n)(k:Came s.1 t m):Came c t (n+m) :=
 ⟨h.grown.trans k.grown,k.nA,λa b=>k.sound (h.sound a an) (by have:=h.grown.len;omega),λa b=>k.ks (h.ks a an) (by have:=h.grown.len;omega)⟩
def zog{c:List af}{op:Int}{k:Nat}(h:I6 op k)(d:k<4294967296):Came c (bY c op k,c.length+1) 1 :=
 ⟨OV _ _ _,by simp[bY],λa b=>OW h a an,λa _=>K9 d a⟩
def zlB{c:List af}{op:Int}{k t f:Nat}(h:tY op)(d:k<4294967296)(e:1<=t/\t<=c.length)(g:1<=f/\f<=c.length):Came c (ib c op k t f,(ib c op k t f).length) 3 :=
 ⟨Ec _ _ _ _ _,by have:=zrg c op k t f;simp only;omega,λa b=>Td h a e g an,λa b=>Tn an d a⟩
def zAk{c:List af}{x:Cd}{t f:Nat}(d:x.right=true)(e:1<=t/\t<=c.length)(g:1<=f/\f<=c.length):Came c (gL c x t f,(gL c x t f).length) 13 :=
 ⟨zri _ _ _ _,by have:=(zri c x t f).len;simp only;omega,λa b=>zys a d e g an,λa b=>zET a an d⟩
def zmX{o:Nat}:∀{l:List Cd} {s:tT},(∀x∈l,x.right=true/\x.ok)->(1<=o/\o<=s.1.length)->(1<=s.2/\s.2<=s.1.length)->Came s.1 (Ge o l s) (13*l.length)
 | [],s,_,_,h=>Came.self h
 | x::l,s,b,c,d=>by
  have a:=zmX (l:=l) (λy e=>b y (by simp[e])) c d;have f:=a.grown.len;exact(a.trans (zAk (b x ir).1 a.nA ⟨c.1,an⟩)).mono (by simp only[aah];omega)
def To:∀{l:List Ru} {s:tT},(∀r∈l,r.du)->(1<=s.2/\s.2<=s.1.length)->Came s.1 (r_ l s) (uE l)
 | [],s,_,h=>Came.self h
 | r::l,s,b,d=>by
  have a:=To (l:=l) (λy e=>b y (by simp[e])) d;have f:=a.grown.len;have p:=zog (c:=(r_ l s).1) (op:=6) (k:=r.act) (.inr (.inl rfl)) (b r ir).2.2.2;have g:=p.grown.len;have q:=zmX (o:=(r_ l s).2) (l:=r.conds) (s:=(bY (r_ l s).1 6 r.act,(r_ l s).1.length+1)) (b r ir).1 ⟨a.nA.1,by have:=a.nA.2;omega⟩ p.nA;exact((a.trans p).trans q).mono (by simp only[uE];omega)
def bV:Nat->List af->List (Nat×Nat)->Nat->tT
 | 0,c,_,_=>(c,0)
 | n+1,c,l,o =>
  if l.length=1 then(ib c 21 (l.getD 0 (0,0)).1 (l.getD 0 (0,0)).2 o,(ib c 21 (l.getD 0 (0,0)).1 (l.getD 0 (0,0)).2 o).length)
  else
   (ib (bV n (bV n c (l.take (l.length/2)) o).1 (l.drop (l.length/2)) o).1 53 (l.getD (l.length/2) (0,0)).1 (bV n (bV n c (l.take (l.length/2)) o).1 (l.drop (l.length/2)) o).2 (bV n c (l.take (l.length/2)) o).2,
    (ib (bV n (bV n c (l.take (l.length/2)) o).1 (l.drop (l.length/2)) o).1 53 (l.getD (l.length/2) (0,0)).1 (bV n (bV n c (l.take (l.length/2)) o).1 (l.drop (l.length/2)) o).2 (bV n c (l.take (l.length/2)) o).2).length)
def o8(c:List af)(l:List (Nat×Nat)):Prop:=∀e∈l,1<=e.2/\e.2<=c.length
def o8.grown{a b:List af}{n:Nat}{l:List (Nat×Nat)}(h:o8 a l)(g:ow a b n):o8 b l:=λe c=>⟨(h e c).1,by have:=g.len;have:=(h e c).2;omega⟩
def KS{o:Nat}:∀(n:Nat) {c:List af} {l:List (Nat×Nat)},l≠[]->l.length<=n->o8 c l->(∀e∈l,e.1<4294967296)->(1<=o/\o<=c.length)->Came c (bV n c l o) (6*l.length-3)
 | 0,c,l,h,r,_,_,_=>absurd (aat.1 an) h
 | n+1,c,l,h,r,i,f,j=>by
  have u:0<l.length:=abb.2 h;unfold bV;split
  .rename_i s
   have g:l.getD 0 (0,0)∈l:=by rw[aau,aad an];exact aal _
   exact(zlB (.inl rfl) (f _ g) (i _ g) j).mono an
  .rename_i s
   have m:(l.take (l.length/2)).length=l.length/2:=by rw[aaC];omega
   have p:(l.drop (l.length/2)).length=l.length-l.length/2:=by rw[aaV]
   have n1:l.take (l.length/2)≠[]:=by intro e;rw[e] at m;simp at m;omega
   have t:l.drop (l.length/2)≠[]:=by intro e;rw[e] at p;simp at p;omega
   have d:=KS n (c:=c) (l:=l.take (l.length/2)) n1 an (λe a=>i e (aas a)) (λe a=>f e (aas a)) j;have v:=d.grown.len;have q:=KS n (c:=(bV n c (l.take (l.length/2)) o).1) (l:=l.drop (l.length/2)) t an ((show o8 c _ from λe a=>i e (aam a)).grown d.grown) (λe a=>f e (aam a)) ⟨j.1,an⟩;have w:=q.grown.len
   have g:l.getD (l.length/2) (0,0)∈l:=by rw[aau,aad an];exact aal _
   have b:=zlB (c:=(bV n (bV n c (l.take (l.length/2)) o).1 (l.drop (l.length/2)) o).1) (op:=53) (k:=(l.getD (l.length/2) (0,0)).1) (.inr (.inr rfl)) (f _ g) q.nA ⟨d.nA.1,by have:=d.nA.2;omega⟩;exact((d.trans q).trans b).mono (by rw[m,p];omega)
def vu(l:List Nat)(a:Nat):List Nat:=if a∈l then l else l++[a]
def CA(l:List Nat):List Nat:=l.foldl vu []
def zpu(l:List Nat)(a:Nat):CA (l++[a])=vu (CA l) a:=by simp[CA,List.foldl_append]
def zpv(a:Nat):∀(l c:List Nat),a∈l.foldl vu c↔a∈c\/a∈l
 | [],c=>by simp
 | b::l,c=>by
  rw[aa_,zpv a l];unfold vu;split
  .rename_i h;rw[aag];constructor
   .rintro(d|d)
    .exact .inl d
    .exact .inr (.inr d)
   .rintro(d|rfl|d)
    .exact .inl d
    .exact .inl h
    .exact .inr d
  .simp[or_assoc]
def IF(l:List Nat)(a:Nat):a∈CA l↔a∈l:=by rw[CA,zpv];simp
def znf:∀(l a:List Nat),a.Nodup->(l.foldl vu a).Nodup
 | [],a,h=>h
 | b::l,a,h=>by
  rw[aa_];refine znf l _ ?_;unfold vu;split
  .exact h
  .rename_i d;rw[List.nodup_append];exact⟨h,ir,λx f y c e=>d (by rw[List.mem_singleton] at c;rw[<-c,<-e];exact f)⟩
def Oj(l:List Nat):(CA l).Nodup:=znf l [] ir
def Oe:∀(l a:List Nat),(l.foldl vu a).length<=a.length+l.length
 | [],a=>by simp
 | b::l,a=>by
  rw[aa_];have:=Oe l (vu a b)
  have c:(vu a b).length<=a.length+1:=by unfold vu;split<;>simp
  simp only[aah];omega
def xq(x:Nat)(l:List Nat):List Nat:=l.takeWhile (λy=>decide (y<=x))++x::l.dropWhile (λy=>decide (y<=x))
def qq(l:List Nat):List Nat:=l.foldl (λa x=>xq x a) []
def zAl(x:Nat)(l:List Nat):(xq x l).Perm (x::l):=by unfold xq;refine ab2.trans ?_;rw[List.takeWhile_append_dropWhile]
def zrk:∀(l a:List Nat),(l.foldl (λa x=>xq x a) a).Perm (a++l)
 | [],a=>by simp
 | x::l,a=>by
  rw[aa_];refine(zrk l _).trans ?_;refine((zAl x a).append_right l).trans ?_;rw[aaF];exact ab2.symm
def Oc(l:List Nat):(qq l).Perm l:=by have:=zrk l [];simpa[qq] using this
def zxl(x:Nat):∀{l:List Nat},∀y∈l.takeWhile (λy=>decide (y<=x)),y<=x
 | [],y,a=>by simp at a
 | b::l,y,a=>by
  rw[List.takeWhile_cons] at a;split at a
  .rename_i c;simp only[decide_eq_true_eq] at c
   rcases aag.1 a with rfl|a
   .exact c
   .exact zxl x y a
  .simp at a
def ia(rs:List Ru)(a:Nat):List Nat:=CA ((rs.filter λr=>decide (r.aJ=a)).map (·.nr))
def fH(rs:List Ru):List Nat:=CA (rs.map (·.aJ))
def iP(rs:List Ru)(a n:Nat):List Ru:=rs.filter λr=>decide (r.aJ=a/\r.nr=n)
def cP(R:Nat->List Ru)(o:Nat):List Nat->List af->List af×List (Nat×Nat)
 | [],c=>(c,[])
 | n::l,c=>((cP R o l (r_ (R n) (c,o)).1).1,(n,(r_ (R n) (c,o)).2)::(cP R o l (r_ (R n) (c,o)).1).2)
def xu(rs:List Ru)(o a:Nat)(c:List af):List af :=
 bY (bV (cP (iP rs a) o (qq (ia rs a)) c).2.length (cP (iP rs a) o (qq (ia rs a)) c).1 (cP (iP rs a) o (qq (ia rs a)) c).2 o).1 32 0
def kK(rs:List Ru)(o:Nat):List Nat->List af->List af×List (Nat×Nat)
 | [],c=>(c,[])
 | a::l,c=>((kK rs o l (xu rs o a c)).1,(a,(xu rs o a c).length)::(kK rs o l (xu rs o a c)).2)
def d_:List (Nat×Nat)->tT->tT
 | [],s=>s
 | x::l,s=>d_ l (ib s.1 21 x.1 x.2 s.2,(ib s.1 21 x.1 x.2 s.2).length)
def qM(p:Po):List af :=
 if(kK p.rules 1 (fH p.rules) (bY [] 6 p.eR)).2=[] then(d_ (kK p.rules 1 (fH p.rules) (bY [] 6 p.eR)).2 ((kK p.rules 1 (fH p.rules) (bY [] 6 p.eR)).1,1)).1
 else bY (d_ (kK p.rules 1 (fH p.rules) (bY [] 6 p.eR)).2 ((kK p.rules 1 (fH p.rules) (bY [] 6 p.eR)).1,1)).1 32 4
def ie(w:Ru->Nat):List Ru->Nat
 | []=>0
 | r::l=>w r+ie w l
def Gf(r:Ru):Nat:=1+13*r.conds.length
def zxm:∀l:List Ru,uE l=ie Gf l
 | []=>rfl
 | r::l=>by rw[uE,ie,zxm l,Gf]
def eN{α:Type}(g:α->Nat):List α->Nat
 | []=>0
 | x::l=>g x+eN g l
def zvx(g:Nat->Nat)(k c:Nat):∀{l:List Nat},l.Nodup->eN (λn=>(if k=n then c else 0)+g n) l<=c+eN g l
 | [],_=>by simp[eN]
 | x::l,h=>by
  rw[aby] at h;simp only[eN]
  by_cases e:k=x
  .subst e
   have d:∀{l:List Nat},k∉l->eN (λn=>(if k=n then c else 0)+g n) l=eN g l:=by
    intro l
    induction l with
    | nil=>intro _;rfl
    | cons y l b =>
     intro a;simp only[aag,not_or] at a;simp only[eN,if_neg a.1,b a.2,Nat.zero_add]
   rw[d h.1,if_pos rfl];omega
  .have b:=zvx g k c h.2;rw[if_neg e];omega
def zxn{α:Type}{f g:α->Nat}:∀{l:List α},(∀x∈l,f x<=g x)->eN f l<=eN g l
 | [],_=>aaj _
 | x::l,h=>by
  have:=zxn (l:=l) λy a=>h y (by simp[a]);have:=h x ir;simp only[eN];omega
def zmY{α:Type}{f g:α->Nat}:∀{l:List α},(∀x∈l,f x=g x)->eN f l=eN g l
 | [],_=>rfl
 | x::l,h=>by simp only[eN,h x ir,zmY (l:=l) λy a=>h y (by simp[a])]
def zp8(w:Ru->Nat)(key:Ru->Nat){l:List Nat}(a:l.Nodup):∀rs:List Ru,eN (λn=>ie w (rs.filter λr=>decide (key r=n))) l<=ie w rs
 | []=>by
  have:∀l:List Nat,eN (λn=>ie w ([].filter λr=>decide (key r=n))) l=0:=by
   intro l;induction l with
   | nil=>rfl
   | cons x l b=>simp only[eN,b];rfl
  rw[this];exact abd _
 | r::rs=>by
  have b:=zp8 w key a rs
  have e:∀n,ie w ((r::rs).filter λr=>decide (key r=n))=(if key r=n then w r else 0)+ie w (rs.filter λr=>decide (key r=n)):=by
   intro n;rw[List.filter_cons]
   by_cases h:key r=n<;>simp[h,ie]
  rw[zmY λn _=>e n];have:=zvx (λn=>ie w (rs.filter λr=>decide (key r=n))) (key r) (w r) a;simp only[ie];omega
def zyt(rs:List Ru)(a n:Nat):iP rs a n=(rs.filter λr=>decide (r.aJ=a)).filter λr=>decide (r.nr=n):=by
 rw[List.filter_filter];unfold iP
 congr 1
 funext r
 rw[ab8];simp[and_comm]
def zAm(rs:List Ru)(a:Nat):(ia rs a).length<=ie (λ_=>1) (rs.filter λr=>decide (r.aJ=a)):=by
 have h:∀l:List Ru,ie (λ_=>1) l=l.length:=by
  intro l;induction l with
  | nil=>rfl
  | cons x l b=>simp only[ie,b,aah];omega
 rw[h]
 have:=Oe ((rs.filter λr=>decide (r.aJ=a)).map (·.nr)) []
 simpa[ia,CA] using this
section
variable {rs:List Ru} {o:Nat}
def Cr(R:Nat->List Ru)(l:List Nat):Nat:=eN (λn=>uE (R n)) l
def Of{R:Nat->List Ru}:∀{l:List Nat} {c:List af},(∀n∈l,∀r∈R n,r.du)->(1<=o/\o<=c.length)->Came c ((cP R o l c).1,o) (Cr R l)/\o8 (cP R o l c).1 (cP R o l c).2/\(cP R o l c).2.map (·.1)=l
 | [],c,_,h=>⟨Came.self h,by intro e he;simp[cP] at he,rfl⟩
 | n::l,c,j,g=>by
  have d:=To (l:=R n) (s:=(c,o)) (j n ir) g;have i:=d.grown.len;obtain⟨f,k,p⟩:=Of (l:=l) (c:=(r_ (R n) (c,o)).1) (λm q=>j m (by simp[q])) ⟨g.1,by have:=g.2;simp only at i;omega⟩;have t:=f.grown.len
  refine⟨⟨(d.grown.trans f.grown).mono (by simp[Cr,eN]),f.nA,λa b=>f.sound (d.sound a (by simp only[Cr,eN] at b;simp only;omega)) (by simp only[Cr,eN] at b |-;simp only at i;omega),
   λa b=>f.ks (d.ks a (by simp only[Cr,eN] at b;simp only;omega)) (by simp only[Cr,eN] at b |-;simp only at i;omega)⟩,?_,by simp only[cP,aar,p]⟩
  intro e he;simp only[cP,aag] at he |-
  rcases he with rfl|he
  .exact⟨d.nA.1,by have:=d.nA.2;simp only at t |-;omega⟩
  .exact k e he
def ZE{R:Nat->List Ru}{l:List Nat}{c:List af}(h:(cP R o l c).2.map (·.1)=l):(cP R o l c).2.length=l.length:=by rw[<-ab9 (f:=(·.1)),h]
def D0(rs:List Ru)(a:Nat):Nat:=Cr (iP rs a) (qq (ia rs a))+6*(ia rs a).length
def ztl{l:List Nat}{x:Nat}:x∈qq l↔x∈l:=(Oc l).mem_iff
def SG{a:Nat}(h:a∈fH rs):ia rs a≠[]:=by
 rw[fH,IF,aaq] at h;obtain⟨r,b,rfl⟩:=h;intro e
 have:r.nr∈ia rs r.aJ:=by rw[ia,IF,aaq];exact⟨r,aba.2 ⟨b,ir⟩,rfl⟩
 rw[e] at this;simp at this
def ZK(b:∀r∈rs,r.du){a n:Nat}(h:n∈ia rs a):n<4294967296:=by rw[ia,IF,aaq] at h;obtain⟨r,c,rfl⟩:=h;exact(b r (aba.1 c).1).2.2.1
def Og(b:∀r∈rs,r.du){a n:Nat}:∀r∈iP rs a n,r.du:=λr c=>b r (aba.1 c).1
def ztm(d:∀r∈rs,r.du){a:Nat}(f:a∈fH rs){c:List af}(i:1<=o/\o<=c.length):Came c (xu rs o a c,(xu rs o a c).length) (D0 rs a):=by
 obtain⟨g,j,b⟩:=Of (R:=iP rs a) (l:=qq (ia rs a)) (c:=c) (λ_ _=>Og d) i
 have m:(cP (iP rs a) o (qq (ia rs a)) c).2≠[]:=by intro e;rw[e] at b;have h:=(Oc (ia rs a)).length_eq;rw[<-b] at h;exact SG f (aat.1 (by simpa using h.symm))
 have n:=ZE b;rw[(Oc _).length_eq] at n;have s:0<(ia rs a).length:=abb.2 (SG f);have t:=KS (o:=o) _ m (aaj _) j (λe q=>ZK d (a:=a) (ztl.1 (by rw[<-b];exact aaq.2 ⟨e,q,rfl⟩))) g.nA;have p:=zog (c:=(bV (cP (iP rs a) o (qq (ia rs a)) c).2.length (cP (iP rs a) o (qq (ia rs a)) c).1 (cP (iP rs a) o (qq (ia rs a)) c).2 o).1) (op:=32) (k:=0) (.inr (.inr ⟨rfl,aga,aga⟩)) aga
 exact((g.trans t).trans p).mono (by unfold D0;omega)
def zxo{a n:Nat}(h:n∉ia rs a):iP rs a n=[]:=by rw[iP,List.filter_eq_nil_iff];intro r c b;simp only[decide_eq_true_eq] at b;refine h ?_;rw[ia,IF,aaq];exact⟨r,aba.2 ⟨c,by simp[b.1]⟩,b.2⟩
def Bp(rs:List Ru)(l:List Nat):Nat:=eN (D0 rs) l
def SN(j:∀r∈rs,r.du):∀{l:List Nat} {c:List af},(∀a∈l,a∈fH rs)->(1<=o/\o<=c.length)->Came c ((kK rs o l c).1,o) (Bp rs l)/\o8 (kK rs o l c).1 (kK rs o l c).2/\(kK rs o l c).2.map (·.1)=l
 | [],c,_,h=>⟨Came.self h,by intro e he;simp[kK] at he,rfl⟩
 | a::l,c,k,g=>by
  have d:=ztm j (k a ir) g;have i:=d.grown.len;obtain⟨f,n,p⟩:=SN j (l:=l) (c:=xu rs o a c) (λm q=>k m (by simp[q])) ⟨g.1,by have:=g.2;simp only at i;omega⟩;have s:=f.grown.len
  refine⟨⟨(d.grown.trans f.grown).mono (by simp[Bp,eN]),f.nA,λa b=>f.sound (d.sound a (by simp only[Bp,eN] at b;omega)) (by simp only[Bp,eN] at b |-;simp only at i;omega),
   λa b=>f.ks (d.ks a (by simp only[Bp,eN] at b;omega)) (by simp only[Bp,eN] at b |-;simp only at i;omega)⟩,?_,by simp only[kK,aar,p]⟩
  intro e he;simp only[kK,aag] at he |-
  rcases he with rfl|he
  .exact⟨d.nA.1,by have:=d.nA.2;simp only at s |-;omega⟩
  .exact n e he
def SP:∀{l:List (Nat×Nat)} {s:tT},o8 s.1 l->(∀e∈l,e.1<4294967296)->(1<=s.2/\s.2<=s.1.length)->Came s.1 (d_ l s) (3*l.length)
 | [],s,_,_,h=>Came.self h
 | x::l,s,d,f,g=>by
  have b:=zlB (c:=s.1) (op:=21) (k:=x.1) (.inl rfl) (f x ir) (d x ir) g;have i:=SP (l:=l) (s:=(ib s.1 21 x.1 x.2 s.2,(ib s.1 21 x.1 x.2 s.2).length)) ((show o8 s.1 l from λe a=>d e (by simp[a])).grown b.grown) (λe a=>f e (by simp[a])) b.nA;exact(b.trans i).mono (by simp only[aah];omega)
end
def Po.du(p:Po):Prop:=(∀r∈p.rules,r.du)/\p.eR<4294967296
def K0(p:Po):Nat:=Bp p.rules (fH p.rules)+3*(fH p.rules).length+1
def zxp{w v:Ru->Nat}:∀{l:List Ru},(∀r∈l,w r<=v r)->ie w l<=ie v l
 | [],_=>aaj _
 | r::l,h=>by
  have:=zxp (l:=l) λy a=>h y (by simp[a]);have:=h r ir;simp only[ie];omega
def zvy(w v:Ru->Nat):∀l:List Ru,ie (λr=>w r+v r) l=ie w l+ie v l
 | []=>rfl
 | r::l=>by simp only[ie,zvy w v l];omega
def Tp(k:Nat):∀l:List Ru,ie (λ_=>k) l=k*l.length
 | []=>rfl
 | r::l=>by simp only[ie,Tp k l,aah,Nat.mul_add];omega
def zCJ(rs:List Ru)(a:Nat):D0 rs a<=ie (λr=>Gf r+6) (rs.filter λr=>decide (r.aJ=a)):=by
 have c:=zp8 Gf (·.nr) (l:=qq (ia rs a)) ((Oc _).nodup_iff.2 (Oj _)) (rs.filter λr=>decide (r.aJ=a))
 have b:=zAm rs a;rw[Tp] at b;rw[zvy,Tp]
 have e:Cr (iP rs a) (qq (ia rs a))=eN (λn=>ie Gf ((rs.filter λr=>decide (r.aJ=a)).filter λr=>decide (r.nr=n))) (qq (ia rs a)) :=
  zmY λn _=>by rw[zxm,zyt]
 unfold D0;rw[e];omega
def Z6(rs:List Ru):(fH rs).length<=rs.length:=by
 have:=Oe (rs.map (·.aJ)) []
 simpa[fH,CA] using this
def zrm{p:Po}(e:p.rules.length<=64)(b:∀r∈p.rules,r.conds.length<=4):K0 p<=4095:=by
 have f:=zxn (l:=fH p.rules) λa _=>zCJ p.rules a
 have g:=zp8 (λr=>Gf r+6) (·.aJ) (l:=fH p.rules) (Oj _) p.rules
 have c:=zxp (w:=λr=>Gf r+6) (v:=λ_=>59) (l:=p.rules) λr d=>by have:=b r d;simp only[Gf];omega
 rw[Tp] at c;have h:=Z6 p.rules;unfold K0 Bp;omega
def zAn(k:Nat):dR (bY [] 6 k)=true:=by
 have b:(oh 6).map (λr=>(r.2.2.1,r.2.2.2))=some (true,false):=by decide
 rw[aay] at b;obtain⟨r,c,a⟩:=b;simp only[abC.injEq] at a;simp[dR,bY,j7,bX,ij,kR,kp,c,a.1,a.2,bp,il]
 done
def zwm{p:Po}(d:p.du):ow (bY [] 6 p.eR) (qM p) (K0 p)/\(K0 p<=4095->dR (qM p)=true/\zp (qM p)):=by
 obtain⟨m,u,g⟩:=SN (rs:=p.rules) (o:=1) d.1 (l:=fH p.rules) (c:=bY [] 6 p.eR) (λ_ h=>h) ⟨aaj _,aaj _⟩
 have v:∀e∈(kK p.rules 1 (fH p.rules) (bY [] 6 p.eR)).2,e.1<4294967296:=by
  intro e a
  have:e.1∈fH p.rules:=by rw[<-g];exact aaq.2 ⟨e,a,rfl⟩
  rw[fH,IF,aaq] at this;obtain⟨r,w,h⟩:=this;rw[<-h];exact(d.1 r w).2.1
 have x:=SP (s:=((kK p.rules 1 (fH p.rules) (bY [] 6 p.eR)).1,1)) u v m.nA
 have b:(kK p.rules 1 (fH p.rules) (bY [] 6 p.eR)).2.length=(fH p.rules).length:=by rw[<-ab9 (f:=(·.1)),g]
 have n:=zAn p.eR;have q:zp (bY [] 6 p.eR):=K9 d.2 (λy z=>by simp at z);have t:(bY [] 6 p.eR).length=1:=rfl
 by_cases a:(kK p.rules 1 (fH p.rules) (bY [] 6 p.eR)).2=[]
 .have A:fH p.rules=[]:=by rw[<-g,a];rfl
  have i:qM p=bY [] 6 p.eR:=by unfold qM;rw[if_pos a,a,A];rfl
  rw[i];exact⟨(ow.refl _).mono (abd _),λ_=>⟨n,q⟩⟩
 .have B:=zog (c:=(d_ (kK p.rules 1 (fH p.rules) (bY [] 6 p.eR)).2 ((kK p.rules 1 (fH p.rules) (bY [] 6 p.eR)).1,1)).1) (op:=32) (k:=4) (.inr (.inr ⟨rfl,aga,aga⟩)) aga;have j:=((m.trans x).trans B).mono (show _<=K0 p by rw[b];exact aaj _)
  have i:qM p=bY (d_ (kK p.rules 1 (fH p.rules) (bY [] 6 p.eR)).2 ((kK p.rules 1 (fH p.rules) (bY [] 6 p.eR)).1,1)).1 32 4:=by unfold qM;rw[if_neg a]
  rw[i];exact⟨j.grown,λC=>⟨j.sound n (by rw[t];omega),j.ks q (by rw[t];omega)⟩⟩
open Go Go.RowKit
variable {G:aP}
def dU(v:Nat):Bool:=decide (v=0\/v=196608\/v=2147221504\/v=2147418112\/327680<=v/\v<=331775)
def se:List (List UInt8×Int):=[([107,105,108,108],0),([116,114,97,112],196608),([108,111,103],2147221504),([97,108,108,111,119],2147418112)]
def Tq[bS G]:bD G (.F 394 [] [] (.mp 0) [some (.map (se.map λp=>(.str p.1,.int .u32 p.2)))]):=by refine eV bS.aei (aab rfl) ?_;simp[se]
def By(v:Nat):List UInt8:=((se.find? λp=>p.2==(v:Int)).map (·.1)).getD []
def zqb[bS G](v:Nat):bD G (.F 393 [.mp 0,.int .u32 v] [some (.map (se.map λp=>(.str p.1,.int .u32 p.2)))] (.str (By v)) [some (.map (se.map λp=>(.str p.1,.int .u32 p.2)))]) :=
 .nat bS.aeh rfl ⟨rfl,se,rfl,aga,rfl⟩
def Ov{v:Nat}(a:v<4294967296):cL .u32 (v:Int) 327680=(((v+4294639616)%4294967296:Nat):Int):=by unfold cL;rw[IntKind.wrap,show IntKind.u32.signed=false from rfl];simp[IntKind.bits];omega
def ztn[fP G][bS G](v:Nat)(j:v<4294967296):∃s e,FP G 395 [.int .u32 v] (.bf [.str s,.int .i64 e])/\(e==0)=dU v:=by
 by_cases b:By v=[]
 .have t:v≠0/\v≠196608/\v≠2147221504/\v≠2147418112:=by refine⟨?_,?_,?_,?_⟩<;>(rintro rfl;revert b;decide)
  obtain⟨k,m⟩:=ax ((v+4294639616)%4294967296);have d:=Ov j;rw[<-m] at d
  by_cases h:k<=4095
  .have n:=zES (G:=G) k an;refine⟨[101,114,114,111,114,58]++br k,0,?_,?_⟩
   .refine bA bS.aej (aab rfl) ?_;have a:((k:Int)<=4095)=True:=af8;have c:(6+(br k).length<=9223372036854775807)=True:=eq_true (by have:=Tj k 16;unfold br;omega);have o:eO .u64 (k:Int)=(k:Int):=IntWalk.u64_in _ ⟨an,an⟩;simp;refine vm Tq ir ?_;simp;refine yF (zqb v) ?_;simp[b,d,a,o];refine aw n ?_;simp[c]
   .have:dU v=true:=by simp[dU];omega
    rw[this];rfl
  .refine⟨[],1,?_,?_⟩
   .refine bA bS.aej (aab rfl) ?_;have a:((k:Int)<=4095)=False:=af9;simp;refine vm Tq ir ?_;simp;refine yF (zqb v) ?_;simp[b,d,a]
   .have:dU v=false:=by simp[dU];omega
    rw[this];rfl
 .refine⟨By v,0,?_,?_⟩
  .refine bA bS.aej (aab rfl) ?_
   have q:(By v).isEmpty=false:=by simpa using b
   simp;refine vm Tq ir ?_;simp;refine yF (zqb v) ?_;simp[q]
  .have:dU v=true:=by
    have f:∀l:List (List UInt8×Int),((l.find? λp=>p.2==(v:Int)).map (·.1)).getD []≠[]->∃p∈l,p.2=(v:Int):=by
     intro l h
     cases g:l.find? (λp=>p.2==(v:Int)) with
     | none=>rw[g] at h;simp at h
     | some p=>exact⟨p,aaI g,by simpa using abA g⟩
    obtain⟨p,i,r⟩:=f _ b;simp only[se,aag,aa9,or_false] at i
    rcases i with rfl|rfl|rfl|rfl<;>simp only at r<;>simp[dU]<;>omega
   rw[this];rfl
def Ru.cs(r:Ru):List V:=[.int .u32 (r.aJ:Int),.int .u32 (r.nr:Int),.vs (CL r.conds) .no,.int .u32 (r.act:Int)]
def RL(l:List Ru):List (List V):=l.map Ru.cs
@[simp] theorem zLo (l:List Ru):(RL l).length=l.length:=by simp[RL]
theorem ZY{l:List Ru}{i:Nat}{x:Ru}(h:l[i]?=some x):(RL l)[i]?=some x.cs:=by simp[RL,h]
def Po.cs(p:Po):List V:=[.vs (RL p.rules) .no,.int .u32 (p.eR:Int)]
def jb(r:Ru):Bool:=r.conds.all Cd.right&&dU r.act&&decide (r.conds.length<=4)
def yN(p:Po):Bool:=p.rules.all jb&&dU p.eR&&decide (p.rules.length<=64)
def zGn[fP G][bS G][ei G][kY G](r:Ru)(k:r.conds.length<=maxLen)(l:r.act<4294967296):FP G 405 [.agg r.cs] (.bool (jb r)):=by
 refine bA kY.aen (aab rfl) ?_;obtain⟨s,e,m,a⟩:=ztn (G:=G) r.act l;simp[Ru.cs];refine aN r.conds.length (λi=>[(1,.ptr 0 0),(8,.vs (CL r.conds) .no),(9,.int .i64 r.conds.length),(10,.int .i64 i)]) (λ_=>[some (.cells r.cs)]) (λi=>(r.conds.take i).all Cd.right=true) ?_ ?_
 .simp[au,ak,Ru.cs]
 intro i hi b;unfold maxLen at k
 by_cases c:i<r.conds.length
 .obtain⟨x,n⟩:=ax (r.conds[i])
  have g:r.conds[i]?=some x:=by rw[aad c,n]
  have d:=zvu g
  have o:(CL r.conds)[i]'(by simpa using c)=x.cs:=by rw[aad (by simpa using c)] at d;exact aa3.inj d
  have h:=zvv (G:=G) x;simp only[Cd.cs] at h d o
  have p:(r.conds.take (i+1)).all Cd.right=((r.conds.take i).all Cd.right&&x.right):=by rw[abl,g];simp
  simp(disch:=omega)[bC,d,Ru.cs];refine aw h ?_
  cases j:x.right with
  | false =>
   have:jb r=false:=by
    have:r.conds.all Cd.right=false:=by rw[abZ];exact⟨x,aao g,by simp[j]⟩
    simp[jb,this]
   simp[this]
  | true =>
   simp(disch:=omega)[au,ak,bF,c,-aae]
   have:(r.conds.take (i+1)).all Cd.right=true:=by rw[p,b,j];rfl
   simpa using this
 .have:i=r.conds.length:=an
  subst this;rw[abr] at b
  have q:((r.conds.length:Int)<=4)=(r.conds.length<=4):=by rw[eq_iff_iff];omega
  simp(disch:=omega)[Ru.cs];refine aw m ?_
  cases f:dU r.act with
  | true =>
   rw[f] at a;simp only[beq_iff_eq] at a;subst a
   simp[jb,b,f,q]
  | false =>
   rw[f] at a;simp[jb,b,f,a]
def zwn[fP G][bS G][ei G][kY G](p:Po)(l:p.rules.length<=maxLen)(m:∀r∈p.rules,r.conds.length<=maxLen/\r.act<4294967296)(hd:p.eR<4294967296):FP G 406 [.agg p.cs] (.bool (yN p)):=by
 refine bA kY.aeo (aab rfl) ?_;obtain⟨s,e,n,a⟩:=ztn (G:=G) p.eR hd;simp[Po.cs];refine aN p.rules.length (λi=>[(1,.ptr 0 0),(8,.vs (RL p.rules) .no),(9,.int .i64 p.rules.length),(10,.int .i64 i)]) (λ_=>[some (.cells p.cs)]) (λi=>(p.rules.take i).all jb=true) ?_ ?_
 .simp[au,ak,Po.cs]
 intro i hi b;unfold maxLen at l
 by_cases c:i<p.rules.length
 .obtain⟨x,o⟩:=ax (p.rules[i])
  have d:p.rules[i]?=some x:=by rw[aad c,o]
  have f:=ZY d
  have q:(RL p.rules)[i]'(by simpa using c)=x.cs:=by rw[aad (by simpa using c)] at f;exact aa3.inj f
  have h:=m x (aao d);have j:=zGn (G:=G) x h.1 h.2;simp only[Ru.cs] at j f q
  have t:(p.rules.take (i+1)).all jb=((p.rules.take i).all jb&&jb x):=by rw[abl,d];simp
  simp(disch:=omega)[bC,f,Po.cs];refine aw j ?_
  cases k:jb x with
  | false =>
   have:yN p=false:=by
    have:p.rules.all jb=false:=by rw[abZ];exact⟨x,aao d,by simp[k]⟩
    simp[yN,this]
   simp[this]
  | true =>
   simp(disch:=omega)[au,ak,bF,c,-aae]
   have:(p.rules.take (i+1)).all jb=true:=by rw[t,b,k];rfl
   simpa using this
 .have:i=p.rules.length:=an
  subst this;rw[abr] at b
  have u:((p.rules.length:Int)<=64)=(p.rules.length<=64):=by rw[eq_iff_iff];omega
  simp(disch:=omega)[Po.cs];refine aw n ?_
  cases g:dU p.eR with
  | true =>
   rw[g] at a;simp only[beq_iff_eq] at a;subst a
   simp[yN,b,g,u]
  | false =>
   rw[g] at a;simp[yN,b,g,a]
def ic(l:List Nat):Nat:=l.foldl (λa d=>16*a+d) 0
def F7(l:List Nat)(d:Nat):ic (l++[d])=16*ic l+d:=by simp[ic]
def zsi:∀n (l:List Nat),l.length=n->(∀d∈l,d<16)->ic l<16^n:=by
 intro n
 induction n with
 | zero=>intro l a _;have:=aat.1 a;subst this;simp[ic]
 | succ n b =>
  intro l a h
  rcases aaQ l with rfl|⟨m,d,rfl⟩
  .simp at a
  .rw[aaH] at a h |-;have e:=b m (by simpa using a) (λx c=>h x (by simp[c]));have f:=h d ir;rw[F7,Nat.pow_succ];omega
def zAo{k:Nat}(h:k<16):2^(64-4*k)=2^(60-4*k)*16:=by rw[show 64-4*k=(60-4*k)+4 by omega,Nat.pow_add]
def zyu(n:Nat)(f:n<18446744073709551616):∀k,k<=16->∃ds:List Nat,v9 n k=([48,120]++ds.map ke,decide (ds≠[]))/\(∀d∈ds,d<16)/\ic ds=n/2^(64-4*k)/\ds.length<=k/\(ds.head?=some 0->k=16/\ds.length=1)/\(k=16->ds≠[]):=by
 intro k
 induction k with
 | zero =>
  intro _;refine⟨[],by simp[v9],ir,?_,ir,ir,ir⟩;rw[show 64-4*0=64 by omega,ab3 (show n<2^64 from f)]
  rfl
 | succ k g =>
  intro u;obtain⟨ds,i,j,e,v,m,_⟩:=g an;obtain⟨d,hd⟩:=ax (n/2^(60-4*k)%16);have o:=zAo (k:=k) an
  have p:n/2^(64-4*k)=n/2^(60-4*k)/16:=by rw[o,Nat.div_div_eq_div_mul]
  have r:64-4*(k+1)=60-4*k:=an
  rw[r];rw[p] at e
  have s:d<16:=an
  unfold v9;rw[<-hd,i];generalize n/2^(60-4*k)=q at *
  by_cases b:(decide (ds≠[])||decide (0<d)||decide (k=15))=true
  .refine⟨ds++[d],?_,?_,?_,?_,?_,ir⟩
   .rw[if_pos b];simp
   .intro x t
    rcases aaW.1 t with h|h
    .exact j x h
    .simp at h;omega
   .rw[F7,e];omega
   .simp;omega
   .intro c
    cases ds with
    | nil =>
     simp at c b;subst c;simp at b
     simp;omega
    | cons a l =>
     simp at c;have:=m (by simp[c]);omega
  .rw[if_neg b];simp at b;obtain⟨⟨rfl,w⟩,y⟩:=b;refine⟨[],ir,ir,?_,ir,ir,an⟩;have:ic []=0:=rfl;rw[this] at e |-;omega
def IQ(n:Nat)(a:n<18446744073709551616):∃ds:List Nat,br n=[48,120]++ds.map ke/\(∀d∈ds,d<16)/\ic ds=n/\1<=ds.length/\ds.length<=16/\(ds.head?=some 0->ds.length=1):=by
 obtain⟨ds,b,c,e,f,g,i⟩:=zyu n a 16 an;refine⟨ds,by rw[br,b],c,by simpa using e,?_,f,λh=>(g h).2⟩;have:=i rfl
 cases ds with
 | nil=>exact absurd rfl this
 | cons _ _=>simp
def zq(w:List UInt8):Prop:=∀b∈w,b≠32/\b≠10/\b.toNat<128
def zto:∀d,d<16->ke d≠32/\ke d≠10/\(ke d).toNat<128:=by decide
def Tr(n:Nat)(c:n<18446744073709551616):zq (br n):=by
 obtain⟨ds,e,f,_⟩:=IQ n c;intro b a;rw[e] at a;simp only[aaF,abx,aag,aaq] at a
 rcases a with rfl|rfl|⟨d,hd,rfl⟩
 .decide
 .decide
 .exact zto d (f d hd)
def IP(n:Nat):(br n).length<=18:=by have:=Tj n 16;unfold br;omega
def zvA(n:Nat):br n≠[]:=by
 intro h
 have:∀k,(v9 n k).1≠[]:=by
  intro k
  induction k with
  | zero=>simp[v9]
  | succ k a=>unfold v9;split<;>simp[a]
 exact this 16 h
def zAp(n:Nat)(a:n<18446744073709551616):∃r,br n=48::120::r:=by obtain⟨ds,b,_⟩:=IQ n a;exact⟨_,b⟩
def o9(M:List (List UInt8×Int))(v:Nat):List UInt8:=((M.find? λp=>p.2==(v:Int)).map (·.1)).getD []
def cQ(M:List (List UInt8×Int))(v:Nat):List UInt8:=if o9 M v=[] then br v else o9 M v
def pG:List (List UInt8×Int):=[([120,54,52],3221225534),([120,56,54],1073741827),([97,54,52],3221225655),([97,114,109],1073741864)]
def Cu:List UInt8:=[114,101,97,100]
def Cv:List UInt8:=[119,114,105,116,101]
def F8:List UInt8:=[111,112,101,110]
def Cw:List UInt8:=[99,108,111,115,101]
def Cx:List UInt8:=[101,120,105,116]
def F9:List UInt8:=[102,111,114,107]
def Cy:List UInt8:=[107,105,108,108]
def F_:List UInt8:=[109,109,97,112]
def Ga(a:Nat):Option (List (List UInt8×Int)) :=
 if a=3221225534 then some [(Cu,0),(Cv,1),(F8,2),(Cw,3),(Cx,60),(F9,57),(Cy,62),(F_,9)]
 else if a=1073741827 then some [(Cu,3),(Cv,4),(F8,5),(Cw,6),(Cx,1),(F9,2),(Cy,37),(F_,90)]
 else if a=3221225655 then some [(Cu,63),(Cv,64),(Cw,57),(Cx,93),(Cy,129),(F_,222)]
 else if a=1073741864 then some [(Cu,3),(Cv,4),(F8,5),(Cw,6),(Cx,1),(F9,2),(Cy,37)]
 else none
def oK(a:Nat):List (List UInt8×Int):=(Ga a).getD []
structure iq (M:List (List UInt8×Int)):Prop where
 cV:(M.map (·.2)).Nodup
 keys:(M.map (·.1)).Nodup
 cu:∀p∈M,zq p.1/\p.1≠[]/\p.1.head?≠some 48/\p.1.length<=5/\0<=p.2/\p.2<4294967296
instance (w:List UInt8):Decidable (zq w):=inferInstanceAs (Decidable (∀b∈w,b≠32/\b≠10/\b.toNat<128))
def DS:iq pG:=⟨aga,aga,aga⟩
def I_:iq se:=⟨aga,aga,aga⟩
def DT(a:Nat):iq (oK a):=by
 unfold oK Ga
 repeat' split
 all_goals first|exact⟨aga,aga,aga⟩
def zr{M:List (List UInt8×Int)}{v:Nat}(h:o9 M v≠[]):(o9 M v,(v:Int))∈M:=by
 unfold o9 at h |-
 cases a:M.find? (λp=>p.2==(v:Int)) with
 | none=>rw[a] at h;simp at h
 | some p =>
  have b:=aaI a
  have c:p.2=(v:Int):=by simpa using abA a
  simp[<-c,b]
def K_{M:List (List UInt8×Int)}{s:List UInt8}{v:Int}(a:(M.map (·.1)).Nodup)(h:(s,v)∈M):M.find? (λp=>p.1==s)=some (s,v):=by
 induction M with
 | nil=>simp at h
 | cons p M b =>
  simp only[aar,aby] at a
  rcases aag.1 h with rfl|h
  .simp
  .have c:p.1≠s:=by rintro rfl;exact a.1 (aaq.2 ⟨_,h,rfl⟩)
   rw[aa4 (by simpa using c)];exact b a.2 h
def zpw{M:List (List UInt8×Int)}(a:iq M){v:Nat}(b:v<18446744073709551616):zq (cQ M v):=by
 unfold cQ;split
 .exact Tr v b
 .rename_i h;exact(a.cu _ (zr h)).1
def Sp{M:List (List UInt8×Int)}(a:iq M){v:Nat}:(cQ M v).length<=18:=by
 unfold cQ;split
 .exact IP v
 .rename_i h;have:=(a.cu _ (zr h)).2.2.2.1;simp only at this;omega
def zxq(v:Nat):By v=o9 se v:=rfl
def kr:List UInt8:=[101,114,114,111,114,58]
def iG(v:Nat):List UInt8:=if By v=[] then kr++br (v-327680) else By v
def zyv{v:Nat}(c:v<4294967296):zq (iG v):=by
 unfold iG;split
 .intro b a
  rcases aaW.1 a with h|h
  .have:zq kr:=by decide
   exact this b h
  .exact Tr (v-327680) an b h
 .rename_i h;exact(I_.cu _ (zr h)).1
def zCK(k:Nat):(kr++br k).length<=24:=by have:=IP k;simp[kr];omega
def zAq{M:List (List UInt8×Int)}(a:iq M)(v:Nat):(o9 M v).length<=5:=by
 by_cases h:o9 M v=[]
 .rw[h];exact abd _
 .exact(a.cu _ (zr h)).2.2.2.1
def zvB{v:Nat}:(iG v).length<=24:=by
 unfold iG;split
 .exact zCK _
 .exact Nat.le_trans (zAq I_ v) aga
def aO:List (List UInt8)->List UInt8
 | []=>[]
 | [w]=>w
 | w::v::r=>w++32::aO (v::r)
def Bi(w:List UInt8){r:List (List UInt8)}(h:r≠[]):aO (w::r)=w++32::aO r:=by
 cases r with
 | nil=>exact absurd rfl h
 | cons v r=>rfl
def zoi:∀{a b:List (List UInt8)},a≠[]->b≠[]->aO (a++b)=aO a++32::aO b
 | [],_,h,_=>absurd rfl h
 | [w],b,_,h=>by rw[List.singleton_append,Bi w h];rfl
 | w::v::r,b,_,h=>by
  rw[aaF,Bi w ir,zoi ir h];simp[aO]
def iF(c:Int):List UInt8:=if c=0 then [101,113] else if c=1 then [110,101] else if c=2 then [108,116] else if c=3 then [108,101] else if c=4 then [103,116] else [103,101]
def kJ(c:Cd):List (List UInt8):=[[97,aa2 (48+c.arg.toNat)],br c.mask,iF c.cmp,br c.val]
def xm(k:Nat):List UInt8:=if k=0 then [105,102] else [97,110,100]
def iM:Nat->List Cd->List (List UInt8)
 | _,[]=>[]
 | k,c::l=>xm k::kJ c++iM (k+1) l
def qp(r:Ru):List (List UInt8):=[[111,110],cQ pG r.aJ,cQ (oK r.aJ) r.nr,iG r.act]++iM 0 r.conds
def IA(v:Nat):List (List UInt8):=[[100,101,102,97,117,108,116],iG v]
def zyw(c:Int):zq (iF c):=by
 unfold iF
 repeat' split
 all_goals decide
def zAr{c:Cd}(h:c.right=true):zq [97,aa2 (48+c.arg.toNat)]:=by
 simp only[Cd.right,decide_eq_true_eq] at h
 have:c.arg=0\/c.arg=1\/c.arg=2\/c.arg=3\/c.arg=4\/c.arg=5:=an
 rcases this with h|h|h|h|h|h<;>rw[h]<;>decide
def zm0{c:Cd}(h:c.right=true)(a:c.ok):∀w∈kJ c,zq w:=by
 intro w b;simp only[kJ,aag,aa9,or_false] at b
 rcases b with rfl|rfl|rfl|rfl
 .exact zAr h
 .exact Tr _ a.1
 .exact zyw _
 .exact Tr _ a.2
def zwo(k:Nat):zq (xm k):=by unfold xm;split<;>decide
def zpx:∀{l:List Cd} {k:Nat},(∀c∈l,c.right=true/\c.ok)->∀w∈iM k l,zq w
 | [],k,_,w,a=>by simp[iM] at a
 | c::l,k,h,w,a=>by
  simp only[iM,aaF,aag,aaW] at a
  rcases a with rfl|a|a
  .exact zwo k
  .exact zm0 (h c ir).1 (h c ir).2 w a
  .exact zpx (λc b=>h c (by simp[b])) w a
def zyx{r:Ru}(b:∀c∈r.conds,c.right=true/\c.ok)(e:r.aJ<4294967296)(f:r.nr<4294967296)(d:r.act<4294967296):∀w∈qp r,zq w:=by
 intro w a;simp only[qp,aaF,abx,aag] at a
 rcases a with rfl|rfl|rfl|rfl|a
 .decide
 .exact zpw DS an
 .exact zpw (DT _) an
 .exact zyv d
 .exact zpx b w a
open Classical in
noncomputable def yj{α:Type}(p:α->Prop):Option α:=if h:∃x,p x then some h.choose else none
section
variable {α:Type} {p:α->Prop} {x:α}
def FY(h:yj p=some x):p x:=by
 unfold yj at h;split at h
 .rename_i a;cases h;exact a.choose_spec
 .cases h
def Ox(h:yj p=none)(x:α):¬p x:=by
 unfold yj at h;split at h
 .cases h
 .rename_i a;exact λb=>a ⟨x,b⟩
def KQ(a:p x)(b:∀y,p y->y=x):yj p=some x:=by
 cases h:yj p with
 | none=>exact absurd a (Ox h x)
 | some y=>rw[b y (FY h)]
def FU(h:∀x,¬p x):yj p=none:=by
 cases a:yj p with
 | none=>rfl
 | some y=>exact absurd (FY a) (h y)
end
def zEU:∀a,a<16->∀b,b<16->ke a=ke b->a=b:=by decide
def zpy:∀{a b:List Nat},(∀d∈a,d<16)->(∀d∈b,d<16)->a.map ke=b.map ke->a=b
 | [],[],_,_,_=>rfl
 | [],_::_,_,_,h=>by simp at h
 | _::_,[],_,_,h=>by simp at h
 | x::a,y::b,c,e,h=>by
  simp only[aar,acb.injEq] at h;rw[zEU x (c x ir) y (e y ir) h.1,zpy (λd hd=>c d (by simp[hd])) (λd hd=>e d (by simp[hd])) h.2]
def Tt{l:List Nat}(b:l≠[])(c:l.head?≠some 0):0<ic l:=by
 obtain⟨n,e⟩:∃n,l.length=n:=⟨_,rfl⟩
 induction n generalizing l with
 | zero=>exact absurd (aat.1 e) b
 | succ n f =>
  rcases aaQ l with rfl|⟨m,d,rfl⟩
  .exact absurd rfl b
  .rw[aaH] at *;rw[F7]
   cases m with
   | nil=>simp at c;omega
   | cons a m =>
    have:=f (l:=a::m) ir (by simpa using c) (by simpa using e);omega
def zAs:∀(n:Nat) {a b:List Nat},a.length=n->(∀d∈a,d<16)->(∀d∈b,d<16)->a.head?≠some 0->b.head?≠some 0->ic a=ic b->a=b:=by
 intro n
 induction n with
 | zero =>
  intro a b c _ _ _ f g;have:=aat.1 c;subst this
  cases b with
  | nil=>rfl
  | cons y b=>have:=Tt (l:=y::b) ir f;rw[<-g] at this;simp[ic] at this
 | succ n o =>
  intro a b c i j f p g
  rcases aaQ a with rfl|⟨m,d,rfl⟩
  .simp at c
  rcases aaQ b with rfl|⟨k,e,rfl⟩
  .have:=Tt (l:=m.concat d) (by simp[aaH]) f;rw[g] at this;simp[ic] at this
  rw[aaH] at *;rw[aaH] at *;rw[F7,F7] at g;have hd:=i d ir;have s:=j e ir
  have q:m.head?≠some 0:=by cases m with
   | nil=>simp
   | cons x m=>simpa using f
  have r:k.head?≠some 0:=by cases k with
   | nil=>simp
   | cons x k=>simpa using p
  rw[o (a:=m) (b:=k) (by simpa using c) (λx h=>i x (by simp[h])) (λx h=>j x (by simp[h])) q r an,show d=e by omega]
def ztp{ds:List Nat}(h:∀d∈ds,d<16)(n:1<=ds.length)(r:ds.length<=16)(s:ds.head?=some 0->ds.length=1):ic ds<18446744073709551616/\br (ic ds)=[48,120]++ds.map ke:=by
 have o:ic ds<18446744073709551616:=by
  have a:=zsi _ ds rfl h;have b:16^ds.length<=16^16:=abI aga r
  have c:(16:Nat)^16=18446744073709551616:=by decide
  omega
 refine⟨o,?_⟩;obtain⟨i,t,u,j,k,w,p⟩:=IQ _ o;rw[t]
 congr 2
 have e:∀{l:List Nat},1<=l.length->(l.head?=some 0->l.length=1)->l.head?=some 0->l=[0]:=by
  intro l _ v f;have:=v f
  match l,this,f with
  | [x],_,f=>simp at f;rw[f]
 by_cases m:ds.head?=some 0
 .have q:=e n s m
  by_cases g:i.head?=some 0
  .rw[e k p g,q]
  .have:=Tt (l:=i) (by intro h;simp[h] at k) g;rw[j,q] at this;simp[ic] at this
 .by_cases g:i.head?=some 0
  .have:=Tt (l:=ds) (by intro h;simp[h] at n) m;rw[<-j,e k p g] at this;simp[ic] at this
  .exact zAs _ rfl u h g m j
def Ja{n m:Nat}(c:n<18446744073709551616)(d:m<18446744073709551616)(h:br n=br m):n=m:=by obtain⟨a,e,f,g,_⟩:=IQ n c;obtain⟨b,i,j,k,_⟩:=IQ m d;rw[e,i] at h;rw[<-g,<-k,zpy f j (abt h)]
noncomputable def dG(s:List UInt8):Option Nat:=yj λn=>n<18446744073709551616/\br n=s
def Sm{n:Nat}(h:n<18446744073709551616):dG (br n)=some n:=KQ ⟨h,rfl⟩ λy a=>Ja a.1 h a.2
def zP{s:List UInt8}{n:Nat}(h:dG s=some n):n<18446744073709551616/\br n=s:=by unfold dG at h;have:=FY h;exact this
def Ef(b:UInt8):Option Nat:=if 48<=b.toNat/\b.toNat<=57 then some (b.toNat-48) else if 97<=b.toNat/\b.toNat<=102 then some (b.toNat-87) else none
def zEV{b:UInt8}{d:Nat}(h:Ef b=some d):d<16/\b=ke d:=by
 have a:∀k,k<16->(ke k).toNat=if k<10 then 48+k else 87+k:=by decide
 unfold Ef at h;split at h
 .cases h;refine⟨an,abB.1 ?_⟩
  rw[a _ an];split<;>omega
 .split at h
  .cases h;refine⟨an,abB.1 ?_⟩
   rw[a _ an];split<;>omega
  .cases h
def ztq{f:UInt8->Bool}:∀{D:List UInt8},(∃b∈D,f b=false)->∃(p:Nat) (b:UInt8),D[p]?=some b/\f b=false/\∀i,i<p->∃c,D[i]?=some c/\f c=true
 | [],h=>by simp at h
 | x::D,h=>by
  cases a:f x with
  | false=>exact⟨0,x,rfl,a,λi hi=>absurd hi (Nat.not_lt_zero _)⟩
  | true =>
   obtain⟨b,hb,d⟩:=h
   rcases aag.1 hb with rfl|hb
   .rw[a] at d;cases d
   obtain⟨p,b,e,g,j⟩:=ztq (D:=D) ⟨b,hb,d⟩;refine⟨p+1,b,e,g,λi hi=>?_⟩
   cases i with
   | zero=>exact⟨x,rfl,a⟩
   | succ i=>exact j i an
def zCL{s:List UInt8}(h:dG s=none)(u:3<=s.length)(k:s.length<=18)(m:s.take 2=[48,120])(n:s[2]?=some 48->s.length=3):∃b∈s.drop 2,(Ef b).isSome=false:=by
 apply Classical.byContradiction;intro o
 have p:∀b∈s.drop 2,∃d,Ef b=some d:=by
  intro b a
  cases q:Ef b with
  | some d=>exact⟨d,rfl⟩
  | none=>exact absurd ⟨b,a,by rw[q];rfl⟩ o
 have c:∀D:List UInt8,(∀b∈D,∃d,Ef b=some d)->∃ds:List Nat,(∀d∈ds,d<16)/\D=ds.map ke:=by
  intro D
  induction D with
  | nil=>intro _;exact⟨[],ir,rfl⟩
  | cons x D r =>
   intro j;obtain⟨d,hd⟩:=j x ir;obtain⟨ds,e,f⟩:=r λb a=>j b (by simp[a]);have:=zEV hd;exact⟨d::ds,by intro y g;rcases aag.1 g with rfl|g;exact this.1;exact e y g,by rw[this.2,f];rfl⟩
 obtain⟨ds,e,f⟩:=c _ p
 have i:s=[48,120]++ds.map ke:=by rw[<-f,<-m,abE]
 have v:s.length=2+ds.length:=by rw[i];simp;omega
 have t:ds.head?=some 0->ds.length=1:=by
  intro hd
  have:s[2]?=some 48:=by
   rw[i]
   cases ds with
   | nil=>simp at hd
   | cons x l=>simp at hd;subst hd;rfl
  have:=n this;omega
 have:=ztp e an an t;exact Ox h _ ⟨this.1,by rw[this.2,<-i]⟩
def Zx{M:List (List UInt8×Int)}(g:iq M){v w:Nat}(e:v<18446744073709551616)(i:w<18446744073709551616)(h:cQ M v=cQ M w):v=w:=by
 have c:∀{v w:Nat},v<18446744073709551616->o9 M w≠[]->br v≠o9 M w:=by intro v w e d j;have f:=(g.cu _ (zr d)).2.2.1;obtain⟨r,k⟩:=zAp v e;rw[<-j,k] at f;exact f rfl
 unfold cQ at h
 split at h<;>split at h
 .exact Ja e i h
 .rename_i _ d;exact absurd h (c e d)
 .rename_i d _;exact absurd h.symm (c i d)
 .rename_i f l;have a:=K_ g.keys (zr f);have b:=K_ g.keys (zr l);rw[h,b] at a
  injection a with a
  injection a with _ a
  omega
noncomputable def oL(M:List (List UInt8×Int))(s:List UInt8):Option Nat:=yj λv=>v<4294967296/\cQ M v=s
def KP{M:List (List UInt8×Int)}(a:iq M){v:Nat}(b:v<4294967296):oL M (cQ M v)=some v:=KQ ⟨b,rfl⟩ λy c=>Zx a an an c.2
def Sv{M:List (List UInt8×Int)}{s:List UInt8}{v:Nat}(h:oL M s=some v):v<4294967296/\cQ M v=s:=by unfold oL at h;have:=FY h;exact this
def ztr{M:List (List UInt8×Int)}(c:iq M){s:List UInt8}{v:Nat}(h:(s,(v:Int))∈M):o9 M v=s:=by
 have d:=(c.cu _ h).2.1
 have a:∀{M:List (List UInt8×Int)},(M.map (·.2)).Nodup->(s,(v:Int))∈M->M.find? (λp=>p.2==(v:Int))=some (s,(v:Int)):=by
  intro M b h
  induction M with
  | nil=>simp at h
  | cons p M e =>
   simp only[aar,aby] at b
   rcases aag.1 h with rfl|h
   .simp
   .have d:p.2≠(v:Int):=by intro f;exact b.1 (aaq.2 ⟨_,h,by simp[f]⟩)
    rw[aa4 (by simpa using d)];exact e b.2 h
 unfold o9;rw[a c.cV h];rfl
def zts{M:List (List UInt8×Int)}(a:iq M){s:List UInt8}{k:Int}(h:M.find? (λp=>p.1==s)=some (s,k)):∃v:Nat,k=v/\oL M s=some v:=by
 have b:=aaI h;obtain⟨_,c,_,_,d,e⟩:=a.cu _ b;simp only at c d e;obtain⟨v,rfl⟩:∃v:Nat,k=v:=⟨k.toNat,an⟩
 have f:cQ M v=s:=by unfold cQ;rw[ztr a b,if_neg c]
 exact⟨v,rfl,by rw[<-f];exact KP a an⟩
def zlC{M:List (List UInt8×Int)}(c:iq M){s:List UInt8}(h:M.find? (λp=>p.1==s)=none){v:Nat}(a:cQ M v=s):o9 M v=[]/\br v=s:=by
 unfold cQ at a;split at a
 .rename_i b;exact⟨b,a⟩
 .rename_i b;have:=K_ c.keys (zr b);rw[a,h] at this;cases this
def zqc{M:List (List UInt8×Int)}{s:List UInt8}{p:List UInt8×Int}(h:M.find? (λp=>p.1==s)=some p):p=(s,p.2):=by have:=abA h;simp only[beq_iff_eq] at this;rw[<-this]
def ztt{M:List (List UInt8×Int)}(c:iq M){s:List UInt8}(h:M.find? (λp=>p.1==s)=none) :
  oL M s=match dG s with
   | none=>none
   | some n=>if n<4294967296/\o9 M n=[] then some n else none:=by
 cases e:dG s with
 | none =>
  refine FU λv a=>?_;have:=zlC c h a.2
  exact Ox e v ⟨an,this.2⟩
 | some n =>
  have d:=zP e;simp only;split
  .rename_i b
   have:cQ M n=s:=by unfold cQ;rw[if_pos b.2,d.2]
   rw[<-this];exact KP c b.1
  .rename_i b;refine FU λv a=>b ?_;have f:=zlC c h a.2;have:=Ja (n:=v) (m:=n) an d.1 (by rw[f.2,d.2]);subst this;exact⟨a.1,f.1⟩
noncomputable def eE(s:List UInt8):Option Nat:=yj λv=>dU v=true/\iG v=s
def JX{v:Nat}(h:dU v=true):v<4294967296:=by simp only[dU,decide_eq_true_eq] at h;omega
def Zy{v w:Nat}(i:dU v=true)(j:dU w=true)(h:iG v=iG w):v=w:=by
 have hd:∀p∈se,p.1.take 6≠kr:=by decide
 have g:∀{v:Nat},dU v=true->By v=[]->327680<=v/\v<=331775:=by
  intro v h k
  have c:v≠0/\v≠196608/\v≠2147221504/\v≠2147418112:=by refine⟨?_,?_,?_,?_⟩<;>(rintro rfl;revert k;decide)
  simp only[dU,decide_eq_true_eq] at h;omega
 have d:∀{v w:Nat},o9 se w≠[]->kr++br v≠o9 se w:=by intro v w c l;refine hd _ (zr c) ?_;show(o9 se w).take 6=kr;rw[<-l];rfl
 unfold iG at h;rw[zxq,zxq] at h
 split at h<;>split at h
 .rename_i e f;have a:=g i e;have b:=g j f;have:=Ja an an (abt h);omega
 .rename_i _ c;exact absurd h (d c)
 .rename_i c _;exact absurd h.symm (d c)
 .rename_i e f;have a:=K_ I_.keys (zr e);have b:=K_ I_.keys (zr f);rw[h,b] at a
  injection a with a
  injection a with _ a
  omega
def FW{v:Nat}(a:dU v=true):eE (iG v)=some v:=KQ ⟨a,rfl⟩ λy b=>Zy b.1 a b.2
def Bm{s:List UInt8}{v:Nat}(h:eE s=some v):dU v=true/\iG v=s:=by unfold eE at h;have:=FY h;exact this
def fX(w:List UInt8):Prop:=∀b∈w,b≠32
def Zw{w:List UInt8}(h:zq w):fX w:=λb a=>(h b a).1
def Zg{w r:List UInt8}(h:fX w):(w++32::r).takeWhile (· !=32)=w/\(w++32::r).drop (w.length+1)=r:=by
 constructor
 .induction w with
  | nil=>simp
  | cons a w c =>
   have:=h a ir;simp only[aaF];rw[abh (by simpa using this),c λb d=>h b (by simp[d])]
 .rw[<-List.drop_drop];simp
def zrn{w:List UInt8}(h:fX w):w.takeWhile (· !=32)=w:=by
 induction w with
 | nil=>rfl
 | cons a w c =>
  rw[abh (by simpa using h a ir),c λb d=>h b (by simp[d])]
def zwp{w v r q:List UInt8}(c:fX w)(d:fX v)(h:w++32::r=v++32::q):w=v/\r=q:=by have a:=Zg (r:=r) c;have b:=Zg (r:=q) d;rw[h] at a;have e:w=v:=a.1.symm.trans b.1;subst e;exact⟨rfl,a.2.symm.trans b.2⟩
def Su:∀{a b:List (List UInt8)},a≠[]->b≠[]->(∀w∈a,fX w)->(∀w∈b,fX w)->aO a=aO b->a=b
 | [],_,h,_,_,_,_=>absurd rfl h
 | _,[],_,h,_,_,_=>absurd rfl h
 | [w],[v],_,_,_,_,h=>by simp only[aO] at h;rw[h]
 | [w],v::y::b,_,_,c,_,h=>by
  rw[Bi v ir] at h;simp only[aO] at h
  exact absurd rfl (c w ir 32 (by rw[h];simp))
 | w::x::a,[v],_,_,_,d,h=>by
  rw[Bi w ir] at h;simp only[aO] at h
  exact absurd rfl (d v ir 32 (by rw[<-h];simp))
 | w::x::a,v::y::b,_,_,c,d,h=>by
  rw[Bi w ir,Bi v ir] at h;have:=zwp (c w ir) (d v ir) h;rw[this.1,Su ir ir (λz e=>c z (by simp[e])) (λz e=>d z (by simp[e])) this.2]
def Cd.du(c:Cd):Prop:=c.right=true/\c.ok
def zEW{a b:Int}(c:0<=a/\a<=5)(d:0<=b/\b<=5)(h:aa2 (48+a.toNat)=aa2 (48+b.toNat)):a=b:=by have:=congrArg UInt8.toNat h;simp only[UInt8.toNat_ofNat'] at this;omega
def zCM{a b:Int}(e:0<=a/\a<=5)(f:0<=b/\b<=5)(h:iF a=iF b):a=b:=by
 have c:a=0\/a=1\/a=2\/a=3\/a=4\/a=5:=an
 have d:b=0\/b=1\/b=2\/b=3\/b=4\/b=5:=an
 rcases c with rfl|rfl|rfl|rfl|rfl|rfl<;>rcases d with rfl|rfl|rfl|rfl|rfl|rfl<;>first|rfl|(exfalso;revert h;decide)
def zro{c d:Cd}(l:c.du)(hd:d.du)(h:kJ c=kJ d):c=d:=by obtain⟨a,e⟩:=l;obtain⟨b,f⟩:=hd;simp only[Cd.right,decide_eq_true_eq] at a b;simp only[kJ,acb.injEq,and_true] at h;have g:=zEW ⟨a.1,a.2.1⟩ ⟨b.1,b.2.1⟩ h.1.2;have i:=Ja e.1 f.1 h.2.1;have j:=zCM ⟨a.2.2.1,a.2.2.2⟩ ⟨b.2.2.1,b.2.2.2⟩ h.2.2.1;have k:=Ja e.2 f.2 h.2.2.2;cases c;cases d;simp only at g i j k;subst g;subst i;subst j;subst k;rfl
def Sl{c:Cd}(h:c.du):∀w∈kJ c,fX w:=λw a=>Zw (zm0 h.1 h.2 w a)
noncomputable def dQ(s:List UInt8):Option Cd:=yj λc=>c.du/\aO (kJ c)=s
def zAt{c d:Cd}(a:c.du)(hd:d.du)(h:aO (kJ c)=aO (kJ d)):c=d :=
 zro a hd (Su (by simp[kJ]) (by simp[kJ]) (Sl a) (Sl hd) h)
def Zk{c:Cd}(h:c.du):dQ (aO (kJ c))=some c:=KQ ⟨h,rfl⟩ λy a=>zAt a.1 h a.2
def N9{s:List UInt8}{c:Cd}(h:dQ s=some c):c.du/\aO (kJ c)=s:=by unfold dQ at h;have:=FY h;exact this
open Go Go.RowKit
variable {G:aP}
def Is{t:List UInt8}{i:Nat}{b:UInt8}(h:t[i]?=some b)(a:b.toNat<128):Utf8.decode ⟨t.toArray⟩ i=(b.toNat,1):=by
 obtain⟨hi,c⟩:=aai.1 h
 have d:(ByteArray.get! ⟨t.toArray⟩ (i+0))=b:=by simp[ByteArray.get!,hi,c]
 unfold Utf8.decode;simp only[d,a,if_true]
def zCN{d:Nat}(h:d<16):((ke d).toNat=48)=(d=0):=by
 have:∀d<16,((ke d).toNat=48)=(d=0):=by decide
 exact this d h
def zAu{d:Nat}(h:d<10):(ke d).toNat=48+d:=by
 have:∀d<10,(ke d).toNat=48+d:=by decide
 exact this d h
def zAv{d:Nat}(h:d<16)(a:10<=d):(ke d).toNat=87+d:=by
 have:∀d<16,10<=d->(ke d).toNat=87+d:=by decide
 exact this d h a
def zKW{a:Nat}(h:a*16<18446744073709551616):je .u64 (a:Int) 4=((a*16:Nat):Int):=by unfold je;rw[show min (4:Int).toNat IntKind.u64.bits=4 from rfl,show((a:Int)*2^4)=((a*16:Nat):Int) by rw[aaf];rfl];exact IntWalk.u64_in _ ⟨an,an⟩
def aa5{a d:Nat}(h:a*16<18446744073709551616)(hd:d<16):uI .u64 ((a*16:Nat):Int) (d:Int)=((16*a+d:Nat):Int):=by unfold uI;rw[ry,ry,ab4,aaM,aaM];simp only[IntKind.bits];have b:d<2^4:=hd;rw[aaR (show a*16<2^64 from h),aaR (show d<2^64 by omega),show a*16=2^4*a by omega,<-abe b];exact IntWalk.u64_in _ ⟨an,an⟩
def zAw[cW G](ds:List Nat)(hd:∀d∈ds,d<16)(M:1<=ds.length)(ET:ds.length<=16)(O:ds.head?=some 0->ds.length=1):FP G 144 [.str ([48,120]++ds.map ke)] (.bf [.int .u64 (ic ds:Nat),.int .i64 0]):=by
 refine bA cW.afp (aab rfl) ?_;obtain⟨N,n⟩:=ax ds.length;obtain⟨T,f⟩:∃T:List UInt8,T=[48,120]++ds.map ke:=⟨_,rfl⟩
 have P:T.length=N+2:=by rw[f];simp;omega
 have Q:T.take 2=[48,120]:=by rw[f];rfl
 have C:T.drop 2=ds.map ke:=by rw[f];rfl
 have R:∀x,ds.head?=some x->T[2]?=some (ke x):=by
  intro x c
  cases ds with
  | nil=>simp at c
  | cons a l=>simp at c;subst c;rw[f];rfl
 obtain⟨x,c⟩:∃x,ds.head?=some x:=by
  cases ds with
  | nil=>simp at M
  | cons a l=>exact⟨a,rfl⟩
 have o:x<16:=hd x (List.mem_of_head? c);have E:=zCN o;obtain⟨y,k⟩:=ax (ke x)
 have p:T[2]?=some y:=by rw[k];exact R x c
 have q:=(aai.1 p).2;rw[<-k] at E;rw[<-f];have S:(((N:Int)+2)<3)=False:=af9;have U:(18<(N:Int)+2)=False:=af9;have V:((2:Int)<=(N:Int)+2)=True:=af8;have c4:(2<N+2)=True:=af8
 have c5:(3<(N:Int)+2)=(N≠1):=by rw[eq_iff_iff];omega
 have W:((y.toNat:Int)==48)=decide (x=0):=by
  have:((y.toNat:Int)=48)=(x=0):=by rw[<-E,eq_iff_iff];omega
  rw[ab8];simp[this]
 have g:x=0->N=1:=λh=>by rw[n];exact O (by rw[c,h])
 have F:∀i,i<N->∃d,ds[i]?=some d/\d<16/\(ds.map ke)[i]?=some (ke d):=by
  intro i hi
  have e:i<ds.length:=an
  exact⟨ds[i],aad e,hd _ (aal e),by simp[aad e]⟩
 obtain⟨b,j⟩:∃b:Nat->Nat,∀i,b i=ic (ds.take i):=⟨_,λ_=>rfl⟩
 have r:b N=ic ds:=by rw[j,n,abr]
 have X:b 0=0:=by rw[j];rfl
 obtain⟨D,H⟩:=ax (ds.map ke)
 have KR:D.length=N:=by rw[H,n];simp
 rw[<-H] at C F
 by_cases I:x=0<;>simp(disch:=omega)[P,Q,C,q,S,U,V,W,I,g]
 all_goals
  refine aN N (λi=>[(4,.int .u64 (b i:Nat)),(32,.ptr 0 0)]) (λi=>[some (.dF D i)]) (λ_=>True) ?_ ?_
  .simp[au,ak,X];exact aan (by first|omega|(have:=g I;omega))
  intro i hi _
  by_cases e:i<N
  .obtain⟨d,Y,s,Z⟩:=F i e;have J:=Is Z (zto d s).2.2
   have m:i<D.length:=an
   have JA:b (i+1)=16*b i+d:=by rw[j,j,abl,Y];exact F7 _ _
   have K:b i*16<18446744073709551616:=by
    have:=zsi i (ds.take i) (by rw[aaC];omega) (λy k=>hd y (aas k));rw[<-j] at this;have h2:16^i<=16^15:=abI aga an
    have h3:(16:Nat)^15=1152921504606846976:=by decide
    omega
   have L:=zKW K;have t:=aa5 K s;rw[<-JA] at t
   by_cases u:d<10
   .have v:=zAu u;have w:((48:Int)<=((48+d:Nat):Int))=True:=af8;have z:(((48+d:Nat):Int)<=57)=True:=af8
    have A:cL .i32 ((48+d:Nat):Int) 48=(d:Int):=by unfold cL;rw[show((48+d:Nat):Int)-48=(d:Int) by omega];exact IntWalk.i32_in _ ⟨an,an⟩
    have B:eO .u64 (d:Int)=(d:Int):=IntWalk.u64_in _ ⟨an,an⟩;simp(disch:=omega)[m,J,v,w,z,A,B,L,t,au,ak,e,-aae,-aaf]
   .have v:=zAv s an;have w:((48:Int)<=((87+d:Nat):Int))=True:=af8;have z:(((87+d:Nat):Int)<=57)=False:=af9;have b5:((97:Int)<=((87+d:Nat):Int))=True:=af8;have b6:(((87+d:Nat):Int)<=102)=True:=af8
    have A:cL .i32 ((87+d:Nat):Int) 97=((d-10:Nat):Int):=by unfold cL;rw[show((87+d:Nat):Int)-97=((d-10:Nat):Int) by omega];exact IntWalk.i32_in _ ⟨an,an⟩
    have b7:aB .i32 ((d-10:Nat):Int) 10=(d:Int):=by unfold aB;rw[show((d-10:Nat):Int)+10=(d:Int) by omega];exact IntWalk.i32_in _ ⟨an,an⟩
    have B:eO .u64 (d:Int)=(d:Int):=IntWalk.u64_in _ ⟨an,an⟩;simp(disch:=omega)[m,J,v,w,z,A,B,b5,b6,b7,L,t,au,ak,e,-aae,-aaf]
  .have:i=N:=an
   subst this
   have m:¬i<D.length:=an
   simp(disch:=omega)[m,r]
def zAx[cW G](n:Nat)(a:n<18446744073709551616):FP G 144 [.str (br n)] (.bf [.int .u64 n,.int .i64 0]):=by obtain⟨ds,b,c,d,e,f,g⟩:=IQ n a;have:=zAw (G:=G) ds c e f g;rwa[<-b,d] at this
def zxr{t:List UInt8}{i:Nat}{b:UInt8}(h:t[i]?=some b)(u:¬b.toNat<128):∃r n,Utf8.decode ⟨t.toArray⟩ i=(r,n)/\128<=r/\1<=n/\i+n<=t.length/\∀j,0<j->j<n->∀c,t[i+j]?=some c->128<=c.toNat:=by
 obtain⟨hi,v⟩:=aai.1 h
 have p:∀k,k<t.length->ByteArray.get! ⟨t.toArray⟩ k=t[k]!:=λk f=>by simp[ByteArray.get!,f]
 have w:(ByteArray.mk t.toArray).size=t.length:=by simp[ByteArray.size]
 have x:ByteArray.get! ⟨t.toArray⟩ (i+0)=b:=by rw[Nat.add_zero,p i hi];simp[hi,v]
 have y:∀k c,t[i+k]?=some c->ByteArray.get! ⟨t.toArray⟩ (i+k)=c:=λk c f=>by
  obtain⟨a,g⟩:=aai.1 f;rw[p _ a];simp[a,g]
 have l:∀k,(decide (i+k<(ByteArray.mk t.toArray).size)&&(ByteArray.get! ⟨t.toArray⟩ (i+k)).toNat/64==2)=true->i+k<t.length/\∀c,t[i+k]?=some c->128<=c.toNat:=by intro k f;simp only[aap,decide_eq_true_eq,beq_iff_eq,w] at f;refine⟨f.1,λc d=>?_⟩;rw[y k c d] at f;omega
 have z:Utf8.runeError=65533:=rfl;unfold Utf8.decode;simp only[x];rw[if_neg u]
 have e:∃r n,(Utf8.runeError,1)=(r,n)/\128<=r/\1<=n/\i+n<=t.length/\∀j,0<j->j<n->∀c,t[i+j]?=some c->128<=c.toNat :=
  ⟨_,_,rfl,by rw[z];omega,aaj _,hi,λj a g=>by omega⟩
 split
 .rename_i a;simp only[aap] at a;have m:=l 1 (by simpa using a.2);split
  .rename_i g;exact⟨_,_,rfl,an,an,an,λj q s c d=>by have:j=1:=an;subst this;exact m.2 c d⟩
  .exact e
 .split
  .rename_i a;simp only[aap] at a;have m:=l 1 (by simpa using a.1.2);have o:=l 2 (by simpa using a.2);split
   .rename_i g;simp only[aap,decide_eq_true_eq] at g
    exact⟨_,_,rfl,an,an,an,λj q s c d=>by
     have:j=1\/j=2:=an
     rcases this with rfl|rfl
     .exact m.2 c d
     .exact o.2 c d⟩
   .exact e
  .split
   .rename_i a;simp only[aap] at a;have m:=l 1 (by simpa using a.1.1.2);have o:=l 2 (by simpa using a.1.2);have A:=l 3 (by simpa using a.2);split
    .rename_i g;simp only[aap,decide_eq_true_eq] at g
     exact⟨_,_,rfl,an,an,an,λj q s c d=>by
      have:j=1\/j=2\/j=3:=an
      rcases this with rfl|rfl|rfl
      .exact m.2 c d
      .exact o.2 c d
      .exact A.2 c d⟩
    .exact e
   .exact e
def Zj{t:List UInt8}{m:UInt8}(q:m.toNat<128){i k:Nat}(c:i<k)(s:k<=t.length)(d:∀j,i<=j->j<k->t[j]?≠some m)(f:k<t.length->t[k]?=some m) :
  ∃r n,Utf8.decode ⟨t.toArray⟩ i=(r,n)/\r≠m.toNat/\1<=n/\i+n<=k:=by
 obtain⟨b,a⟩:∃b,t[i]?=some b:=⟨_,aad an⟩
 by_cases h:b.toNat<128
 .refine⟨_,_,Is a h,λe=>d i (aaj _) c ?_,aaj _,c⟩;rw[a,abB.1 e]
 .obtain⟨r,n,g,u,l,v,o⟩:=zxr a h;refine⟨r,n,g,an,l,?_⟩
  rcases Nat.lt_or_ge k (i+n) with w|p
  .have:=o (k-i) an an m (by rw[show i+(k-i)=k by omega];exact f an);omega
  .exact p
def So[cW G](s:List UInt8)(X:s.length<4611686018427387904):FP G 144 [.str s] (.bf [.int .u64 ((dG s).getD 0:Nat),.int .i64 (if dG s=none then 2 else 0)]):=by
 cases I:dG s with
 | some n =>
  obtain⟨O,u⟩:=zP I;rw[<-u]
  exact zAx n O
 | none =>
  refine bA cW.afp (aab rfl) ?_;simp only[Option.getD_none,if_true]
  by_cases g:(s.length:Int)<3
  .simp[g]
  by_cases m:18<(s.length:Int)
  .simp[g,m]
  have x:((2:Int)<=(s.length:Int))=True:=af8;have J:(2<s.length)=True:=af8
  by_cases j:s.take 2=[48,120]
  .obtain⟨y,P⟩:=ax (s[2]'(by omega))
   have K:s[2]?=some y:=by rw[aad an,P]
   have L:=(aai.1 K).2
   by_cases o:((y.toNat:Int)==48)=true/\3<(s.length:Int)
   .simp(disch:=omega)[g,m,x,J,j,L,o.1,o.2]
   .obtain⟨Q,R,T⟩:=zCL I an an j (λh=>by
     rw[K] at h;cases h;apply Classical.byContradiction;intro Y
     exact o ⟨rfl,an⟩)
    obtain⟨p,b,p1,p2,p3⟩:=ztq (f:=λb=>(Ef b).isSome) ⟨Q,R,T⟩;obtain⟨D,z⟩:=ax (s.drop 2)
    have Z:D.length=s.length-2:=by rw[z];simp
    rw[<-z] at p1 p3;have lO:p<D.length:=(aai.1 p1).1;have A:D.take (s.length-2)=D:=aan an;obtain⟨w,U,B⟩:∃w,((y.toNat:Int)==48)=w/\(w=true->(3<(s.length:Int))=False):=⟨_,rfl,λh=>eq_false λu=>o ⟨h,u⟩⟩;cases w
    all_goals
     try replace B:=B rfl
     simp(disch:=omega)[g,m,x,J,j,L,U,B,<-z,A];refine wq (S:=Nat×Int) (λq=>p+1-q.1) (λq=>[(4,.int .u64 q.2),(32,.ptr 0 0)]) (λq=>[some (.dF D q.1)]) (λq=>q.1<=p) (0,0) ?_ ?_
     .simp[au,ak]
     rintro⟨i,v⟩ hi;simp only at hi |-
     have a:i<D.length:=an
     rcases abU hi with V|W
     .subst V
      have e:∃r n,Utf8.decode ⟨D.toArray⟩ i=(r,n)/\¬(48<=r/\r<=57)/\¬(97<=r/\r<=102):=by
       by_cases M:b.toNat<128
       .refine⟨_,_,Is p1 M,?_⟩;unfold Ef at p2;split at p2
        .cases p2
        .split at p2
         .cases p2
         .exact⟨by assumption,by assumption⟩
       .obtain⟨r,n,C,N,_⟩:=zxr p1 M;exact⟨r,n,C,an,an⟩
      obtain⟨r,n,t,r1,r2⟩:=e
      by_cases k:(48:Int)<=(r:Int)<;>by_cases l:(r:Int)<=57<;>by_cases E:(97:Int)<=(r:Int)<;>by_cases F:(r:Int)<=102<;>first
       | (exfalso;omega)
       | (simp[a,t,k,l,E,F,au,ak];done)
     .obtain⟨c,C,N⟩:=p3 i W;obtain⟨d,hd⟩:=Option.isSome_iff_exists.1 N
      have e:c.toNat<128/\(48<=c.toNat/\c.toNat<=57\/97<=c.toNat/\c.toNat<=102):=by
       unfold Ef at hd;split at hd
       .exact⟨an,.inl (by assumption)⟩
       .split at hd
        .exact⟨an,.inr (by assumption)⟩
        .cases hd
      have t:=Is C e.1
      rcases e.2 with e|e
      .have k:((48:Int)<=(c.toNat:Int))=True:=af8;have l:((c.toNat:Int)<=57)=True:=af8;simp[a,t,k,l,au,ak];exact⟨(i+1,uI .u64 (je .u64 v 4) (eO .u64 (cL .i32 (c.toNat:Int) 48))),by simp only;omega,by simp only;omega,by simp[au],by simp[ak]⟩
      .have k:((48:Int)<=(c.toNat:Int))=True:=af8;have l:((c.toNat:Int)<=57)=False:=af9;have E:((97:Int)<=(c.toNat:Int))=True:=af8;have F:((c.toNat:Int)<=102)=True:=af8;simp[a,t,k,l,E,F,au,ak];exact⟨(i+1,uI .u64 (je .u64 v 4) (eO .u64 (aB .i32 (cL .i32 (c.toNat:Int) 97) 10))),by simp only;omega,by simp only;omega,by simp[au],by simp[ak]⟩
  .have H:(s.take 2==[48,120])=false:=by simpa using j
   simp[g,m,x,j,H]
def vE(M:List (List UInt8×Int)):List (V×V):=M.map λp=>(.str p.1,.int .u32 p.2)
def zqf{s:List UInt8}:∀{M:List (List UInt8×Int)} (i:Nat),M.find? (λp=>p.1==s)=none->j0 (.sc .str) (.str s) (vE M) i=some none
 | [],i,_=>rfl
 | p::M,i,h=>by
  rw[abV] at h
  have b:(s==p.1)=false:=by have:=h p ir;simp only[beq_iff_eq] at this;simpa using λe=>this e.symm
  have a:=zqf (M:=M) (i+1) (by rw[abV];exact λq c=>h q (by simp[c]));simp only[vE] at a;simp only[vE,aar,j0,j4,qi,b,a]
def zqg{s:List UInt8}{v:Int}:∀{M:List (List UInt8×Int)} (i:Nat),M.find? (λp=>p.1==s)=some (s,v)->∃j,j0 (.sc .str) (.str s) (vE M) i=some (some (j,.int .u32 v))
 | [],i,h=>by simp at h
 | p::M,i,h=>by
  by_cases e:p.1=s
  .rw[List.find?_cons_of_pos (by simpa using e)] at h;cases h;exact⟨i,by simp[vE,j0,j4,qi]⟩
  .rw[aa4 (by simpa using e)] at h;obtain⟨j,a⟩:=zqg (i+1) h
   have b:(s==p.1)=false:=by simpa using λe'=>e e'.symm
   simp only[vE] at a;exact⟨j,by simp only[vE,aar,j0,j4,qi,b,a]⟩
def mH(M:List (List UInt8×Int)):ae:=[some (.map (vE M))]
def zCO[bS G]{M:List (List UInt8×Int)}(a:iq M)(v:Nat):bD G (.F 393 [.mp 0,.int .u32 v] (mH M) (.str (o9 M v)) (mH M)) :=
 .nat bS.aeh rfl ⟨rfl,M,rfl,a.cV,rfl⟩
def zCP[bS G](v:Nat):bD G (.F 393 [.nilm,.int .u32 v] [] (.str []) []) :=
 .nat bS.aeh rfl ⟨rfl,rfl⟩
def Tu(M:List (List UInt8×Int)):ak 1 [some (.map (vE M))]=[some (.map (vE M))]:=by simp[ak,az.cl,vE,Function.comp_def,V.cl]
def zwq[c_ G]:bD G (.F 449 [] [] (.mp 0) (mH pG)):=by refine eV c_.aeM (aab rfl) ?_;simp[mH,vE,pG]
def zCQ[c_ G](a:Nat){M:List (List UInt8×Int)}(h:Ga a=some M):bD G (.F 450 [.int .u32 a] [] (.mp 0) (mH M)):=by
 refine eV c_.aeN (aab rfl) ?_;unfold Ga at h;split at h
 .rename_i b;cases h;simp[b,mH,vE,Cu,Cv,F8,Cw,Cx,F9,Cy,F_]
 .split at h
  .rename_i b c;cases h;simp[c,mH,vE,Cu,Cv,F8,Cw,Cx,F9,Cy,F_]
  .split at h
   .rename_i b c d;cases h;simp[d,mH,vE,Cu,Cv,Cw,Cx,Cy,F_]
   .split at h
    .rename_i b c d e;cases h;simp[e,mH,vE,Cu,Cv,F8,Cw,Cx,F9,Cy]
    .cases h
def zAy[c_ G](a:Nat)(h:Ga a=none):bD G (.F 450 [.int .u32 a] [] .nilm []):=by
 refine eV c_.aeN (aab rfl) ?_;unfold Ga at h;split at h
 .cases h
 .split at h
  .cases h
  .split at h
   .cases h
   .split at h
    .cases h
    .rename_i f g i j
     have b:((a:Int)==3221225534)=false:=by simp;omega
     have c:((a:Int)==1073741827)=false:=by simp;omega
     have d:((a:Int)==3221225655)=false:=by simp;omega
     have e:((a:Int)==1073741864)=false:=by simp;omega
     simp[b,c,d,e]
def jS(k:IntKind)(o:Option Nat):V:=.bf [.int k ((o.getD 0:Nat):Int),.int .i64 (if o=none then 2 else 0)]
def zqh[cW G][bS G][c_ G]{M:List (List UInt8×Int)}(k:iq M)(s:List UInt8)(q:s.length<4611686018427387904)(m:V)(H:ae)
  (c:m=.mp 0/\H=mH M\/m=.nilm/\H=[]/\M=[]):bD G (.F 452 [m,.str s] H (jS .u32 (oL M s)) H):=by
 refine eV c_.aeO (aab rfl) ?_;have d:=So (G:=G) s q
 cases b:M.find? (λp=>p.1==s) with
 | some p =>
  rcases c with⟨rfl,rfl⟩|⟨_,_,rfl⟩
  .rw[zqc b] at b;obtain⟨v,r,a⟩:=zts k b;obtain⟨j,f⟩:=zqg 0 b;simp[mH,f,a,r,jS]
  .simp at b
 | none =>
  have f:=zqf 0 b;have a:=ztt k b
  cases l:dG s with
  | none =>
   rw[l] at d a;simp only at a;rw[a]
   rcases c with⟨rfl,rfl⟩|⟨rfl,rfl,rfl⟩ <;>
   .simp[mH,f];refine aw d ?_
    simp[jS,Tu]
  | some n =>
   have x:=(zP l).1;rw[l] at d a;simp only at a;rw[a];have o:jI .u64 (n:Int) 32=((n/4294967296:Nat):Int):=shU (n:=n) (e:=32) aga
   by_cases g:n<4294967296
   .have i:eO .u32 (n:Int)=(n:Int):=IntWalk.u32_in _ ⟨an,an⟩;rw[ab3 g] at o
    have w:bD G (.F 393 [m,.int .u32 n] H (.str (o9 M n)) H):=by
     rcases c with⟨rfl,rfl⟩|⟨rfl,rfl,rfl⟩
     .exact zCO k n
     .exact zCP n
    rcases c with⟨rfl,rfl⟩|⟨rfl,rfl,rfl⟩
    all_goals
     try simp only[mH] at w |-
     simp[f];refine aw d ?_;simp[o,i];refine yF w ?_
    .by_cases h:o9 M n=[]
     .simp[h,g,i,jS,Tu]
     .have t:(o9 M n).isEmpty=false:=by simpa using h
      simp[h,t,g,i,jS,Tu]
    .have h:o9 [] n=[]:=rfl;simp[h,g,i,jS]
   .have u:4294967296<=n:=an
    rcases c with⟨rfl,rfl⟩|⟨rfl,rfl,rfl⟩ <;>
    .simp[mH,f,g];refine aw d ?_;simp[o,u,jS,Tu,-aaA]
def zrp[cW G][bS G][c_ G](s:List UInt8)(c:s.length<4611686018427387904):FP G 454 [.str s] (jS .u32 (oL pG s)):=by refine bA c_.aeP (aab rfl) ?_;have a:=zwq (G:=G);have b:=zqh (G:=G) DS s c _ _ (.inl ⟨rfl,rfl⟩);simp only[mH,jS] at a b |-;simp;refine vm a ir ?_;simp;refine yF b ?_;simp
def zvC[cW G][bS G][c_ G](a:Nat)(s:List UInt8)(f:s.length<4611686018427387904):FP G 456 [.int .u32 a,.str s] (jS .u32 (oL (oK a) s)):=by
 refine bA c_.aeQ (aab rfl) ?_;have g:=DT a
 cases c:Ga a with
 | none =>
  have e:oK a=[]:=by simp[oK,c]
  have d:=zAy (G:=G) a c;have b:=zqh (G:=G) g s f _ _ (.inr ⟨rfl,rfl,e⟩);simp only[jS] at b |-;simp;refine vm d ir ?_;simp;refine yF b ?_
  simp
 | some M =>
  have e:oK a=M:=by simp[oK,c]
  have d:=zCQ (G:=G) a c;have b:=zqh (G:=G) g s f _ _ (.inl ⟨rfl,rfl⟩);rw[e] at b |-;simp only[mH,jS] at d b |-;simp;refine vm d ir ?_;simp;refine yF b ?_;simp
def zCR{s:List UInt8}{k:Int}(h:se.find? (λp=>p.1==s)=some (s,k)):∃v:Nat,k=v/\eE s=some v:=by
 have a:=aaI h
 have c:∀p∈se,p.2=0\/p.2=196608\/p.2=2147221504\/p.2=2147418112:=by decide
 have d:=c _ a;have b:=(I_.cu _ a).2.1;simp only at d b;obtain⟨v,rfl⟩:∃v:Nat,k=v:=⟨k.toNat,an⟩;have e:By v=s:=ztr I_ a
 have f:dU v=true:=by simp only[dU,decide_eq_true_eq];omega
 have g:iG v=s:=by unfold iG;rw[e,if_neg b]
 exact⟨v,rfl,by rw[<-g];exact FW f⟩
def Tv{s:List UInt8}(h:se.find? (λp=>p.1==s)=none){v:Nat}(c:dU v=true)(b:iG v=s):∃k,v=327680+k/\k<=4095/\s=kr++br k:=by
 by_cases a:By v=[]
 .have e:v≠0/\v≠196608/\v≠2147221504/\v≠2147418112:=by refine⟨?_,?_,?_,?_⟩<;>(rintro rfl;revert a;decide)
  simp only[dU,decide_eq_true_eq] at c;exact⟨v-327680,an,an,by rw[<-b];exact if_pos a⟩
 .have:=K_ I_.keys (zr (v:=v) a)
  have d:o9 se v=s:=by rw[<-b];exact(if_neg a).symm
  rw[d,h] at this;cases this
def zqi{k:Nat}(h:k<=4095):eE (kr++br k)=some (327680+k):=by
 have a:dU (327680+k)=true:=by simp only[dU,decide_eq_true_eq];omega
 have b:By (327680+k)=[]:=by
  apply Classical.byContradiction;intro c
  have d:∀p∈se,p.2=0\/p.2=196608\/p.2=2147221504\/p.2=2147418112:=by decide
  have:=d _ (zr (v:=327680+k) c);simp only at this;omega
 have e:iG (327680+k)=kr++br k:=by rw[iG,if_pos b,show 327680+k-327680=k by omega]
 rw[<-e];exact FW a
def zl1[cW G][bS G][c_ G](s:List UInt8)(B:s.length<4611686018427387904):FP G 457 [.str s] (jS .u32 (eE s)):=by
 refine bA c_.aeR (aab rfl) ?_;have w:=Tq (G:=G);have r:(se.map λp:List UInt8×Int=>((V.str p.1,V.int .u32 p.2):V×V))=vE se:=rfl;rw[r] at w
 cases c:se.find? (λp=>p.1==s) with
 | some p =>
  rw[zqc c] at c;obtain⟨v,t,a⟩:=zCR c;obtain⟨j,e⟩:=zqg 0 c;simp;refine vm w ir ?_
  simp[e,a,t,jS]
 | none =>
  have e:=zqf 0 c
  by_cases f:(s.length:Int)<6
  .have a:eE s=none:=FU λv b=>by
    obtain⟨k,_,_,g⟩:=Tv c b.1 b.2;rw[g] at f;simp[kr] at f;omega
   simp;refine vm w ir ?_;simp[e,f,a,jS]
  have l:((6:Int)<=(s.length:Int))=True:=af8
  by_cases d:s.take 6=[101,114,114,111,114,58]
  .have i:=So (G:=G) (s.drop 6) (by simp;omega)
   have u:s=kr++s.drop 6:=by rw[show kr=s.take 6 from d.symm,abE]
   have h:(s.drop 6).take (s.length-6)=s.drop 6:=aan ir
   cases m:dG (s.drop 6) with
   | none =>
    have a:eE s=none:=FU λv b=>by
     obtain⟨k,_,o,g⟩:=Tv c b.1 b.2;refine Ox m k ⟨an,?_⟩;rw[g];simp[kr]
    rw[m] at i;simp;refine vm w ir ?_;simp[e,f,l,d,h,au];refine aw i ?_
    simp[a,jS]
   | some n =>
    obtain⟨_,o⟩:=zP m;rw[m] at i
    by_cases x:n<=4095
    .have a:eE s=some (327680+n):=by rw[u,<-o];exact zqi x
     have q:(4095<(n:Int))=False:=af9;have y:eO .u32 (n:Int)=(n:Int):=IntWalk.u32_in _ ⟨an,an⟩
     have z:aB .u32 327680 (n:Int)=((327680+n:Nat):Int):=by unfold aB;rw[show(327680:Int)+(n:Int)=((327680+n:Nat):Int) by omega];exact IntWalk.u32_in _ ⟨an,an⟩
     simp;refine vm w ir ?_;simp[e,f,l,d,h,au];refine aw i ?_;simp[a,jS,q,y,z,-aae]
    .have a:eE s=none:=FU λv b=>by
      obtain⟨k,_,C,g⟩:=Tv c b.1 b.2
      have:br n=br k:=by rw[o,g];simp[kr]
      have:=Ja an an this;omega
     have q:(4095<(n:Int))=True:=af8;simp;refine vm w ir ?_;simp[e,f,l,d,h,au];refine aw i ?_;simp[a,jS,q]
  .have A:(s.take 6==[101,114,114,111,114,58])=false:=by simpa using d
   have a:eE s=none:=FU λv b=>by
    obtain⟨k,_,_,g⟩:=Tv c b.1 b.2;rw[g] at d;exact d rfl
   simp;refine vm w ir ?_;simp[e,f,l,d,A,a,jS]
def Ir{a b:Nat}(h:a≠b):((a:Int)==(b:Int))=false:=by simp;omega
def zCS(c:Int):(iF c).length=2:=by
 unfold iF
 repeat' split
 all_goals rfl
def KM(c:Cd):List UInt8:=aO (kJ c)
def zCT(c:Cd):KM c=[97,aa2 (48+c.arg.toNat)]++32::(br c.mask++32::(iF c.cmp++32::br c.val)):=rfl
def ztu(c:Cd):(KM c).length<=43:=by have a:=IP c.mask;have b:=IP c.val;have d:=zCS c.cmp;rw[zCT];simp;omega
def zqj[bJ G](c:List af)(x:af)(h:c.length<4096):FP G 407 [FL c,FL [x]] (.bf [FL (x::c),.int .i64 (c.length+1:Nat),.int .i64 0]):=by
 refine bA bJ.aep (aab rfl) ?_
 have a:aB .i64 (c.length:Int) 1=((c.length+1:Nat):Int):=by rw[eB]<;>omega
 have e:(4096<((c.length+1:Nat):Int))=False:=af9;have f:((1+c.length)*32<=140737488355328)=True:=af8;have b:IL [x]=[x.cs]:=rfl;have g:∀c,x.cs::IL c=IL (x::c):=λ_=>rfl
 by_cases d:c=[]
 .subst d;have a:aB .i64 (0:Int) 1=1:=rfl;simp[FL,a,b]
 .have i:(IL c=[])=False:=eq_false (by simpa[R5] using d);simp[FL,a,e,f,i,b,g,-aae]
def zqk[bJ G](c:List af)(t:Nat):FP G 408 [FL c,.int .i64 t] (.bool (decide (1<=t/\t<=c.length))):=by
 refine bA bJ.aeq (aab rfl) ?_
 by_cases b:1<=t
 .have a:(1<=(t:Int))=True:=af8
  have d:((t:Int)<=(c.length:Int))=(t<=c.length):=by simp
  simp[FL,a,d,b]
 .have a:(1<=(t:Int))=False:=af9;simp[FL,a,b]
def zGo[aE G][bJ G](c:List af)(op:Int)(k:Nat)(e:I6 op k)(h:c.length<4096):FP G 409 [FL c,IV ⟨op,0,0,k⟩] (.bf [FL (bY c op k),.int .i64 (bY c op k).length,.int .i64 0]):=by refine bA bJ.aer (aab rfl) ?_;obtain⟨f,j,g,i⟩:=ztk e;have a:=Lj (G:=G) ⟨op,0,0,k⟩;have b:=zD (G:=G) ⟨op,0,0,k⟩;have d:=zqj (G:=G) c ⟨op,0,0,k⟩ h;rw[f] at a;rw[g] at b;simp only[IV,af.cs,FL,IL,aar,abp] at a b d;simp[FL,IV,af.cs];refine aw a ?_;simp[aL i];refine aw b ?_;simp;refine aw d ?_;simp[bY,IL,af.cs]
def zEX[bJ G](c:List af)(t:Nat)(g:1<=t/\t<c.length)(h:c.length<4096):FP G 410 [FL c,.int .i64 t] (.bf [FL (⟨5,0,0,c.length-t⟩::c),.int .i64 (c.length+1:Nat),.int .i64 0]):=by
 refine bA bJ.aes (aab rfl) ?_;have a:=zqk (G:=G) c t;rw[decide_eq_true (show 1<=t/\t<=c.length by omega)] at a;have b:=zqj (G:=G) c ⟨5,0,0,c.length-t⟩ h;simp only[af.cs,FL,IL,aar,abp] at a b;have i:((t:Int)=(c.length:Int))=False:=af9
 have d:((t:Int)==(c.length:Int))=false:=by simp;omega
 have e:cL .i64 (c.length:Int) (t:Int)=((c.length-t:Nat):Int):=by rw[nC]<;>omega
 have f:eO .u32 ((c.length-t:Nat):Int)=((c.length-t:Nat):Int):=IntWalk.u32_in _ ⟨an,an⟩;simp[FL,IL];refine aw a ?_;simp[d,e,f];refine aw b ?_;simp[af.cs]
def ztv[bJ G](c:List af)(t:Nat)(e:1<=t/\t<=c.length)(h:c.length<4096):FP G 411 [FL c,.int .i64 t] (.bf [FL (cD c t),.int .i64 (jc c t),.int .i64 0]):=by
 refine bA bJ.aet (aab rfl) ?_
 have b:cL .i64 (c.length:Int) (t:Int)=((c.length-t:Nat):Int):=by rw[nC]<;>omega
 by_cases d:c.length-t<=254
 .have a:(((c.length-t:Nat):Int)<=254)=True:=af8;simp[FL,b,a,cD,jc,d]
 .have a:(((c.length-t:Nat):Int)<=254)=False:=af9;have w:=zEX (G:=G) c t an h;simp only[FL] at w;simp[FL,b,a,cD,jc,d];refine aw w ?_;simp
def zyy[aE G][bJ G](c:List af)(op:Int)(k t f:Nat)(l:tY op)(a:1<=t/\t<=c.length)(m:1<=f/\f<=c.length)(h:c.length+3<=4096) :
  FP G 412 [FL c,.int .i64 op,.int .u32 k,.int .i64 t,.int .i64 f] (.bf [FL (ib c op k t f),.int .i64 (ib c op k t f).length,.int .i64 0]):=by
 refine bA bJ.aeu (aab rfl) ?_
 have w:bp op=true:=by rcases l with rfl|rfl|rfl<;>decide
 have b:=zD (G:=G) ⟨op,0,0,k⟩;have d:=Lj (G:=G) ⟨op,0,0,k⟩
 have x:ij ⟨op,0,0,k⟩=true:=by
  have e:∀op:Int,tY op->(oh op).map (λr=>(r.2.2.1,r.2.2.2))=some (true,true):=by rintro op (rfl|rfl|rfl)<;>decide
  have n:=e op l;rw[aay] at n;obtain⟨r,y,g⟩:=n;simp only[abC.injEq] at g;simp[ij,y,g.1,g.2]
 rw[w] at b;rw[x] at d;have z:=Eb c t;have A:=Eb (cD c t) f;have D:=Tc a;have p1:=z.len;have o:1<=f/\f<=(cD c t).length:=⟨m.1,an⟩;have E:=Tc o;have p2:=A.len;have i:=zqk (G:=G) c t;have j:=zqk (G:=G) c f;rw[decide_eq_true a] at i;rw[decide_eq_true m] at j;have p:=ztv (G:=G) c t a an;have q:=ztv (G:=G) (cD c t) f o an;have s:=zqj (G:=G) (cD (cD c t) f) ⟨op,((cD (cD c t) f).length-jc c t:Nat),((cD (cD c t) f).length-jc (cD c t) f:Nat),k⟩ an
 unfold ib;generalize F:cD (cD c t) f=c2 at *;generalize cD c t=c1 at *;generalize jc c t=u at *;generalize jc c1 f=v at *
 have B:cL .i64 (c2.length:Int) (u:Int)=((c2.length-u:Nat):Int):=by rw[nC]<;>omega
 have C:cL .i64 (c2.length:Int) (v:Int)=((c2.length-v:Nat):Int):=by rw[nC]<;>omega
 simp only[IV,af.cs,FL,IL,aar,abp] at b d i j p q s;simp[FL,IL];refine aw b ?_;simp;refine aw d ?_;simp;refine aw i ?_;simp;refine aw j ?_;simp;refine aw p ?_;simp;refine aw q ?_;simp[B,C];refine aw s ?_;simp[af.cs]
def zAz[eJ G](a:Int)(h:0<=a/\a<=5):FP G 413 [.int .i64 a] (.int .u32 ((16+8*a.toNat:Nat):Int)):=by
 have:a=0\/a=1\/a=2\/a=3\/a=4\/a=5:=an
 rcases this with rfl|rfl|rfl|rfl|rfl|rfl<;>(refine bA eJ.xg (aab rfl) ?_)<;>simp<;>decide
def zEY[eJ G](a:Int)(h:0<=a/\a<=5):FP G 414 [.int .i64 a] (.int .u32 ((20+8*a.toNat:Nat):Int)):=by
 refine bA eJ.aev (aab rfl) ?_;have w:=zAz (G:=G) a h
 have:a=0\/a=1\/a=2\/a=3\/a=4\/a=5:=an
 rcases this with rfl|rfl|rfl|rfl|rfl|rfl<;>simp<;>refine aw w ?_<;>simp<;>decide
def oq(c:List af)(tk:Tk):az:=.cells [.vs (IL c) tk,.int .i64 0]
structure nu (H:ae) (b:Nat) (c:List af) (tk:Tk):Prop where
 hb:H[b]?=some (some (oq c tk))
 eT:tk=.no\/tk=.full
 shut:gV H
def dJ(H:ae)(b:Nat)(c:List af):ae:=H.set b (some (oq c .no))
@[simp] theorem rf (H:ae) (b:Nat) (c:List af):(dJ H b c).length=H.length:=by simp[dJ]
section
variable {H:ae} {b:Nat} {c c':List af} {tk:Tk}
def nu.lb(h:nu H b c tk):b<H.length:=(aai.1 h.hb).1
def yk(h:gV H)(c':List af):gV (dJ H b c'):=by intro n a;simp only[rf] at a;have c:=h n a;unfold dJ;rw[CW,c];simp[oq,az.cl,a_,V.cl,Tk.cl]
def nu.set(h:nu H b c tk)(c':List af):nu (dJ H b c') b c' .no:=⟨by rw[dJ,aaO h.lb],.inl rfl,yk h.shut c'⟩
def Cs(c c':List af):dJ (dJ H b c) b c'=dJ H b c':=by simp[dJ]
def F5{i:Nat}(h:i≠b)(c':List af):(dJ H b c')[i]?=H[i]?:=by rw[dJ,aaJ (Ne.symm h)]
def Oh(h:b<H.length)(c':List af)(R:ae):dJ (H++R) b c'=dJ H b c'++R:=by rw[dJ,dJ,List.set_append_left _ _ h]
def gV.abf(h:gV H){R:ae}(b:∀m,H.length+R.length<=m->R.map (ab_ (az.cl m))=R):gV (H++R):=by intro m a;rw[aaG] at a;rw[aca,h m an,b m a]
def nu.app(h:nu H b c tk){R:ae}(a:∀m,H.length+R.length<=m->R.map (ab_ (az.cl m))=R):nu (H++R) b c tk :=
 ⟨by rw[aa0 h.lb];exact h.hb,h.eT,h.shut.abf a⟩
def nu.cM(h:nu H b c tk):H[b]?=some (some (.cells [.vs (IL c) tk,.int .i64 0])):=h.hb
def nu.ne(h:nu H b c tk){i:Nat}{v:V}(hi:H[i]?=some (some (.cells [v]))):i≠b:=by intro e;rw[e,h.hb] at hi;simp[oq] at hi
def zxs[eK G](h:nu H b c tk)(c':List af)(l:Nat):SF G 415 [.ptr b 0,FL c',.int .i64 l,.int .i64 0] H (.int .i64 l) (dJ H b c'):=by
 refine j_ eK.aew (aab rfl) ?_;have d:=h.cM;have e:=h.lb;have a:=(yk (b:=b) h.shut c').self;rw[rf] at a;simp only[dJ,oq] at a;have f:∀x:Option az,(H.set b x)[b]?=some x:=λx=>aaO e;simp[d,FL,f,dJ,oq,a]
 done
def KU[aE G][bJ G][eK G](h:nu H b c tk)(op:Int)(k:Nat)(f:I6 op k)(g:c.length<4096):SF G 416 [.ptr b 0,.int .i64 op,.int .u32 k] H (.int .i64 (bY c op k).length) (dJ H b (bY c op k)):=by refine j_ eK.aex (aab rfl) ?_;have a:=zGo (G:=G) c op k f g;have d:=zxs (G:=G) h (bY c op k) (bY c op k).length;have e:=(yk (b:=b) h.shut (bY c op k)).self;rw[rf] at e;have i:=h.cM;simp only[FL,IV,af.cs] at a d;simp[i];refine aw a ?_;simp;refine cN d ?_;simp[e]
def IM[aE G][bJ G][eK G](h:nu H b c tk)(op:Int)(k t f:Nat)(g:tY op)(i:1<=t/\t<=c.length)(j:1<=f/\f<=c.length)(l:c.length+3<=4096) :
  SF G 417 [.ptr b 0,.int .i64 op,.int .u32 k,.int .i64 t,.int .i64 f] H (.int .i64 (ib c op k t f).length) (dJ H b (ib c op k t f)):=by
 refine j_ eK.aey (aab rfl) ?_;have a:=zyy (G:=G) c op k t f g i j l;have d:=zxs (G:=G) h (ib c op k t f) (ib c op k t f).length;have e:=(yk (b:=b) h.shut (ib c op k t f)).self;rw[rf] at e;have m:=h.cM;simp only[FL] at a d;simp[m];refine aw a ?_;simp;refine cN d ?_;simp[e]
def zxt[aE G][bJ G][eK G]{H1:ae}{c:List af}{g:Nat}{cap:List V}{r:V}(at_ a:Nat)(j:SF G g cap H r H1)(e:nu H1 b c .no)(d:H1.length=H.length)
  (k:I6 32 at_) (p:c.length+1<4096):SF G 418 [.ptr b 0,.int .u32 at_,.int .u32 a,.fn g cap] H (.bf []) (dJ H1 b (bY (bY c 84 a) 32 at_)):=by
 refine j_ eK.aez (aab rfl) ?_;have l:=KU (G:=G) e 84 a (.inl rfl) an;have f:=KU (G:=G) (e.set (bY c 84 a)) 32 at_ k (by simp[bY];omega);rw[Cs] at f;have i:=(yk (b:=b) e.shut (bY (bY c 84 a) 32 at_)).self;rw[rf,d] at i;obtain⟨q,H2,m,n,o⟩:=j;simp;refine kF (H1:=H2) (by simpa using m) (λh=>by simp at h) ?_;rw[n,o];simp;refine cN l ?_;simp;refine cN f ?_
 simp[i]
def tS(n:Int):Option (Option az):=some (some (.cells [.int .i64 n]))
def OY(n:Int):Option (Option az):=some (some (.cells [.int .u32 n]))
def zAA[aE G][bJ G][eK G](h:nu H b c tk){pm po a pt d:Nat}(op:Int)(k t f:Nat)(m:H[pm]?=some (some (.cells [.ptr b 0])))(e:H[po]?=tS op)(g:H[a]?=OY k)(i:H[pt]?=tS t)(j:H[d]?=tS f)
  (n:tY op) (o:1<=t/\t<=c.length) (p:1<=f/\f<=c.length) (q:c.length+3<=4096) :
  SF G 419 [.ptr pm 0,.ptr po 0,.ptr a 0,.ptr pt 0,.ptr d 0] H (.int .i64 (ib c op k t f).length) (dJ H b (ib c op k t f)):=by
 refine j_ eK.aeA (aab rfl) ?_;have w:=IM (G:=G) h op k t f n o p q;have l:=(yk (b:=b) h.shut (ib c op k t f)).self;rw[rf] at l;simp only[tS,OY] at e g i j;simp[m,e,g,i,j];refine cN w ?_;simp[l]
def Jc(c:List af)(op:Int)(k t f a:Nat):List af:=if op=21 then ib c 21 k a f else ib (ib c 37 k t f) 21 k a (ib c 37 k t f).length
def BA(H:ae)(c:List af)(op:Int)(k t f a:Nat):ae:=if op=21 then H else H.set a (tS ((ib c 37 k t f).length:Nat)).get!
def zAB[aE G][bJ G][eK G](h:nu H b c tk){pm po l pt a m:Nat}(op:Int)(k t f d:Nat)(p:H[pm]?=some (some (.cells [.ptr b 0])))(q:H[po]?=tS op)(o:H[l]?=OY k)(r:H[pt]?=tS t)(i:H[a]?=tS f)(s:H[m]?=tS d)
  (u:pm≠a/\l≠a/\m≠a) (F:1<=t/\t<=c.length) (A:1<=f/\f<=c.length) (B:1<=d/\d<=c.length) (U:c.length+6<=4096) :
  SF G 420 [.ptr po 0,.ptr pm 0,.ptr l 0,.ptr pt 0,.ptr a 0,.ptr m 0] H (.int .i64 (Jc c op k t f d).length) (dJ (BA H c op k t f a) b (Jc c op k t f d)):=by
 refine j_ eK.aeB (aab rfl) ?_;have nm:=h.ne p;have W:=h.ne (by simpa[tS] using q);have I:=h.ne (by simpa[OY] using o);have X:=h.ne (by simpa[tS] using r);have v:=h.ne (by simpa[tS] using i);have J:=h.ne (by simpa[tS] using s)
 have y:a<H.length:=by simp only[tS] at i;exact(aai.1 i).1
 simp only[tS,OY] at q o r i s
 by_cases e:op=21
 .subst e;have w:=IM (G:=G) h 21 k d f (.inl rfl) B A an;have j:=(yk (b:=b) h.shut (ib c 21 k d f)).self;rw[rf] at j;simp[p,q,o,r,i,s];refine cN w ?_;simp[j,Jc,BA]
 .have K:=IM (G:=G) h 37 k t f (.inr (.inl rfl)) F A an;have g:=(Ec c 37 k t f).len;have Y:=zrg c 37 k t f;simp only[Jc,BA,if_neg e,tS,Option.get!_some];generalize Z:ib c 37 k t f=c1 at *
  have C:gV ((dJ H b c1).set a (some (.cells [.int .i64 (c1.length:Nat)]))):=by intro n D;rw[aaZ] at D;rw[CW,yk h.shut c1 n D];simp[az.cl,a_,V.cl]
  have L:nu ((dJ H b c1).set a (some (.cells [.int .i64 (c1.length:Nat)]))) b c1 .no:=⟨by rw[aaJ v];exact(h.set c1).hb,.inl rfl,C⟩;have E:=IM (G:=G) L 21 k d c1.length (.inl rfl) ⟨B.1,an⟩ an an;have j:=(yk (b:=b) C (ib c1 21 k d c1.length)).self;rw[rf,aaZ,rf] at j;have e':(op !=21)=true:=jY e
  have M:(dJ H b c1)[pm]?=some (some (.cells [.ptr b 0])):=by rw[F5 nm];exact p
  have N:(dJ H b c1)[l]?=some (some (.cells [.int .u32 k])):=by rw[F5 I];exact o
  have O:(dJ H b c1)[a]?=some (some (.cells [.int .i64 f])):=by rw[F5 v];exact i
  have P:(dJ H b c1)[m]?=some (some (.cells [.int .i64 d])):=by rw[F5 J];exact s
  have Q:∀x,((dJ H b c1).set a x)[pm]?=some (some (.cells [.ptr b 0])):=λx=>by rw[aaJ u.1.symm];exact M
  have R:∀x,((dJ H b c1).set a x)[l]?=some (some (.cells [.int .u32 k])):=λx=>by rw[aaJ u.2.1.symm];exact N
  have S:∀x,((dJ H b c1).set a x)[m]?=some (some (.cells [.int .i64 d])):=λx=>by rw[aaJ u.2.2.symm];exact P
  have T:∀x:Option az,((dJ H b c1).set a x)[a]?=some x:=λx=>aaO (by rw[rf];exact y)
  have z:dJ ((dJ H b c1).set a (some (.cells [.int .i64 (c1.length:Nat)]))) b (ib c1 21 k d c1.length)=dJ (H.set a (some (.cells [.int .i64 (c1.length:Nat)]))) b (ib c1 21 k d c1.length):=by
   unfold dJ;rw[List.set_comm _ _ (Ne.symm v)];simp
   done
  rw[z] at j E;simp[p,q,o,r,i,e,e'];refine cN K ?_;simp[O,Q,R,S,T];refine cN E ?_;simp[j]
def tR(b:Nat)(y:Cd)(t f:Nat):ae:=[some (.cells [.ptr b 0]),some (.cells y.cs),some (.cells [.int .i64 t]),some (.cells [.int .i64 f]),some (.cells [.int .u32 (lo y.val:Nat)]),some (.cells [.int .u32 (hi y.val:Nat)]),some (.cells [.int .i64 (rn y.cmp)])]
def zDy{b m:Nat}(y:Cd)(t f:Nat)(a:b<m):(tR b y t f).map (ab_ (az.cl m))=tR b y t f:=by simp[tR,az.cl,a_,V.cl,Cd.cs,a]
def zCU[aE G][bJ G][eK G](h:nu H b c tk)(y:Cd)(t f:Nat)(d:y.right=true)(e:1<=t/\t<=c.length)(j:1<=f/\f<=c.length)(k:c.length+13<=4096) :
  SF G 418 [.ptr b 0,.int .u32 (16+8*y.arg.toNat:Nat),.int .u32 (lo y.mask:Nat),.fn 419 [.ptr H.length 0,.ptr (H.length+6) 0,.ptr (H.length+4) 0,.ptr (H.length+2) 0,.ptr (H.length+3) 0]] (H++tR b y t f) (.bf []) (dJ H b (cr c y t f)++tR b y t f):=by
 have a:=h.app (R:=tR b y t f) (λm l=>zDy y t f (by have:=h.lb;omega))
 have g:∀i,(H++tR b y t f)[H.length+i]?=(tR b y t f)[i]?:=λi=>by rw[aaz an];congr 1;omega
 have w:=zAA (G:=G) a (rn y.cmp) (lo y.val) t f (g 0) (g 6) (g 4) (g 2) (g 3) (zDw _) e j an;have:=(Ec c (rn y.cmp) (lo y.val) t f).len;have p:=zxt (G:=G) (b:=b) (16+8*y.arg.toNat) (lo y.mask) w (a.set _) ir (Ti d 16 (.inl rfl)) an;rw[Cs,Oh h.lb] at p;exact p
def zCV[aE G][bJ G][eK G](h:nu H b c tk)(y:Cd)(t f:Nat)(j:y.right=true)(k:1<=t/\t<=c.length)(l:1<=f/\f<=c.length)(x:c.length+13<=4096) :
  ∃R,SF G 418 [.ptr b 0,.int .u32 (20+8*y.arg.toNat:Nat),.int .u32 (hi y.mask:Nat),.fn 420 [.ptr (H.length+6) 0,.ptr H.length 0,.ptr (H.length+5) 0,.ptr (H.length+2) 0,.ptr (H.length+3) 0,.ptr (H.length+7) 0]]
   (dJ H b (cr c y t f)++(tR b y t f++[some (.cells [.int .i64 (cr c y t f).length])])) (.bf []) (dJ H b (I7 c y t f)++some (.cells [.ptr b 0])::R):=by
 have z:=(Tf c y t f).len;have o:=h.set (cr c y t f)
 have a:=o.app (R:=tR b y t f++[some (.cells [.int .i64 (cr c y t f).length])]) (λm q=>by
  have:=h.lb;simp only[rf] at q;rw[aca,zDy y t f an]
  simp[az.cl,a_,V.cl])
 have g:∀i,(dJ H b (cr c y t f)++(tR b y t f++[some (.cells [.int .i64 (cr c y t f).length])]))[H.length+i]?=(tR b y t f++[some (.cells [.int .i64 (cr c y t f).length])])[i]?:=λi=>by
  rw[aaz ir,rf];congr 1;omega
 have w:=zAB (G:=G) a (rn y.cmp) (hi y.val) t f (cr c y t f).length (g 0) (g 6) (g 5) (g 2) (g 3) (g 7) ⟨an,an,an⟩ ⟨k.1,an⟩ ⟨l.1,an⟩ an an
 have d:Jc (cr c y t f) (rn y.cmp) (hi y.val) t f (cr c y t f).length=ib (uG c y t f) 21 (hi y.val) (cr c y t f).length (if rn y.cmp=21 then f else(uG c y t f).length):=by
  unfold Jc uG
  split<;>rfl
 have r:gV (BA (dJ H b (cr c y t f)++(tR b y t f++[some (.cells [.int .i64 (cr c y t f).length])])) (cr c y t f) (rn y.cmp) (hi y.val) t f (H.length+3)):=by
  unfold BA;split
  .exact a.shut
  .intro n e;rw[aaZ] at e;rw[CW,a.shut n e];simp[tS,az.cl,a_,V.cl]
 have A:=(Th c y t f).len;have B:=(Ec (uG c y t f) 21 (hi y.val) (cr c y t f).length (if rn y.cmp=21 then f else(uG c y t f).length)).len
 have s:b<(BA (dJ H b (cr c y t f)++(tR b y t f++[some (.cells [.int .i64 (cr c y t f).length])])) (cr c y t f) (rn y.cmp) (hi y.val) t f (H.length+3)).length:=by
  have:=h.lb;unfold BA
  split<;>simp<;>omega
 have u:nu (dJ (BA (dJ H b (cr c y t f)++(tR b y t f++[some (.cells [.int .i64 (cr c y t f).length])])) (cr c y t f) (rn y.cmp) (hi y.val) t f (H.length+3)) b (Jc (cr c y t f) (rn y.cmp) (hi y.val) t f (cr c y t f).length)) b _ .no :=
  ⟨by rw[dJ,aaO s],.inl rfl,yk r _⟩
 have p:=zxt (G:=G) (b:=b) (20+8*y.arg.toNat) (hi y.mask) w u (by unfold BA;split<;>simp) (Ti j 20 (.inr rfl)) (by rw[d];omega);rw[Cs,d] at p
 obtain⟨R,v⟩:∃R,BA (dJ H b (cr c y t f)++(tR b y t f++[some (.cells [.int .i64 (cr c y t f).length])])) (cr c y t f) (rn y.cmp) (hi y.val) t f (H.length+3)=dJ H b (cr c y t f)++some (.cells [.ptr b 0])::R:=by
  unfold BA;split
  .exact⟨_,rfl⟩
  .rw[aaP _ _ ir,rf,show H.length+3-H.length=3 by omega];exact⟨_,rfl⟩
 rw[v,Oh (by simpa using h.lb),Cs] at p;exact⟨R,p⟩
def zCW[aE G][bJ G][eK G][ei G][dm G][eJ G](h:nu H b c tk)(x:Cd)(t f:Nat)(l:x.right=true)(s:x.ok)(S:1<=t/\t<=c.length)(T:1<=f/\f<=c.length)(u:c.length+13<=4096) :
  SF G 421 [.ptr b 0,.agg x.cs,.int .i64 t,.int .i64 f] H (.int .i64 (gL c x t f).length) (dJ H b (gL c x t f)):=by
 refine j_ eK.aeC (aab rfl) ?_;have I:=l;simp only[Cd.right,decide_eq_true_eq] at I;have p:=zGl (G:=G) x;rw[Ee,if_pos l] at p
 obtain⟨y,m⟩:∃y,y=if K8 x then({ x with cmp:=Ed x.cmp }:Cd) else x:=⟨_,rfl⟩
 obtain⟨d,n⟩:∃d,d=if K8 x then f else t:=⟨_,rfl⟩
 obtain⟨e,o⟩:∃e,e=if K8 x then t else f:=⟨_,rfl⟩
 have a:x.cmp=0\/x.cmp=1\/x.cmp=2\/x.cmp=3\/x.cmp=4\/x.cmp=5:=an
 have v:eO .u32 (x.val:Int)=((lo x.val:Nat):Int):=rfl;have w:eO .u32 (x.mask:Int)=((lo x.mask:Nat):Int):=rfl;have z:=zvn x.val s.2;have A:eO .u32 ((x.val/4294967296:Nat):Int)=((hi x.val:Nat):Int):=rfl;have B:=zvn x.mask s.1;have C:eO .u32 ((x.mask/4294967296:Nat):Int)=((hi x.mask:Nat):Int):=rfl;have J:=zAz (G:=G) x.arg ⟨an,an⟩;have K:=zEY (G:=G) x.arg ⟨an,an⟩;have g:(H.length+7<=H.length)=False:=af9
 have i:(H.length+8<=H.length)=False:=af9;have D:(H.length+7<=H.length+1)=False:=af9;have E:(H.length+8<=H.length+1)=False:=af9
 have F:∀(c':List af) (r:ae) (k:Nat),(dJ H b c'++r)[H.length+k]?=r[k]?:=λc' r k=>by rw[aaz ir,rf];congr 1;omega
 have L:∀(c':List af) (r:ae),(dJ H b c'++r)[H.length]?=r[0]?:=λc' r=>F c' r 0
 have M:∀(c':List af) (r:ae),(dJ H b c'++r)[b]?=some (some (.cells [.vs (IL c') .no,.int .i64 0])):=λc' r=>by rw[aa0 (by simpa using h.lb)];exact(h.set c').hb
 have N:∀(c':List af) (r:ae) (k:Nat) (x:Option az),(dJ H b c'++r).set (H.length+k) x=dJ H b c'++r.set k x:=λc' r k x=>by rw[aaP _ _ ir,rf];congr 1;congr 1;omega
 have q:∀(r:ae),(H++r)[b]?=some (some (.cells [.vs (IL c) tk,.int .i64 0])):=λr=>by rw[aa0 h.lb];exact h.hb
 have O:∀(c':List af) (r:ae),ak H.length (dJ H b c'++r)=dJ H b c':=λc' r=>by have:=(yk (b:=b) h.shut c').back r;rwa[rf] at this
 have U:=h.lb;have tb:∀k:Nat,(b<H.length+k)=True:=λk=>eq_true an
 have P:gL c x t f=I7 c y d e:=by rw[gL,m,n,o];split<;>rfl
 have j:y.right=true:=by rw[m];split;exact zof l;exact l
 have p1:=zCU (G:=G) h y d e j (by rw[n];split<;>assumption) (by rw[o];split<;>assumption) u;obtain⟨R,p2⟩:=zCV (G:=G) h y d e j (by rw[n];split<;>assumption) (by rw[o];split<;>assumption) u;rw[<-P] at p2
 rcases a with a|a|a|a|a|a
 all_goals
  have Q:rn y.cmp=if x.cmp=0\/x.cmp=1 then 21 else if x.cmp=2\/x.cmp=5 then 53 else 37:=by rw[m];simp[K8,a,rn,Ed]
  simp only[tR,Cd.cs,Q] at p1 p2;rw[m,n,o] at p1 p2;simp[K8,a,Ed,-Int.ofNat_toNat,-aae,-aaf] at p1 p2;simp only[Cd.cs,a] at p;generalize cr c _ _ _=c1 at p1 p2;generalize gL c x t f=c2 at p2 |-;simp[Cd.cs,a,v,w,z,A,B,C,ace,g,i,D,E,-aaA]
  repeat
   (first|refine aw p ?_|refine aw J ?_|refine cN p1 ?_|refine aw K ?_|refine cN p2 ?_)
   simp[v,w,z,A,B,C,ace,g,i,D,E,F,L,M,N,q,Ed,-aaA,-aae,-aaf]
  exact O _ _
end
open Go Go.RowKit
variable {G:aP}
section
variable {H:ae} {b:Nat} {c:List af}
def zrq(h:nu H b c .no):dJ H b c=H:=CV h.hb
def zsk{α:Type}{l:List α}{t:Nat}{y:α}(h:l[t]?=some y):l.drop t=y::l.drop (t+1):=by obtain⟨a,b⟩:=aai.1 h;rw[abn a,b]
def zm6:∀(l:List Ru) (t:Nat),uE (l.drop t)<=uE l
 | [],t=>by simp[uE]
 | r::l,0=>aaj _
 | r::l,t+1=>by
  have:=zm6 l t;simp only[List.drop_succ_cons,uE];omega
def ztw:∀l:List Ru,l.length<=uE l
 | []=>aaj _
 | r::l=>by have:=ztw l;simp only[aah,uE];omega
def zAC[aE G][bJ G][eK G][ei G][dm G][eJ G][fw G](h:nu H b c .no)(l:List Ru)(tk:Tk)(eT:∀n,H.length<=n->tk.cl n=tk)(o:Nat)(F:∀r∈l,r.du)(V:1<=o/\o<=c.length)(hc:c.length+uE l<=4096) :
  SF G 427 [.ptr b 0,.vs (RL l) tk,.int .i64 o] H (.int .i64 (r_ l (c,o)).2) (dJ H b (r_ l (c,o)).1):=by
 refine j_ fw.aeH (aab rfl) ?_;have W:=ztw l
 have A:∀c',ak H.length (dJ H b c')=dJ H b c':=λc'=>by have:=(yk (b:=b) h.shut c').self;rwa[rf] at this
 have B:=h.lb;have m:=eT H.length (aaj _);obtain⟨S,e⟩:∃S:Nat->tT,∀k,S k=r_ (l.drop (l.length-k)) (c,o):=⟨_,λ_=>rfl⟩
 have DZ:S 0=(c,o):=by rw[e,acg,abq];rfl
 have zK:S l.length=r_ l (c,o):=by rw[e,abT,abc]
 have s0:cL .i64 (l.length:Int) 1=(l.length:Int)-1:=nC an an;have dN:=zrq h
 have F4:∀k,Came c (S k) (uE l):=λk=>by
  rw[e];exact(To (s:=(c,o)) (λr I=>F r (aam I)) V).mono (zm6 _ _)
 simp[s0];refine aN l.length (λk=>[(0,.ptr b 0),(1,.vs (RL l) tk),(2,.int .i64 (S k).2),(7,.int .i64 ((l.length:Int)-1-k))]) (λk=>dJ H b (S k).1) (λ_=>True) ?_ ?_
 .simp[au,DZ,dN,B,m,h.shut.self]
 intro k hk _
 by_cases aj:k<l.length
 .obtain⟨t,ht⟩:=ax (l.length-1-k)
  have J:t<l.length:=an
  obtain⟨y,hy⟩:=ax (l[t])
  have C:l[t]?=some y:=by rw[aad J,hy]
  have f:=ZY C
  have O4:(RL l)[t]'(by simpa using J)=y.cs:=by rw[aad (by simpa using J)] at f;exact aa3.inj f
  have p:=F y (aao C)
  have q:S (k+1)=zDx y (S k):=by rw[e,e,show l.length-(k+1)=t by omega,zsk C,r_,show t+1=l.length-k by omega]
  have et:(l.length:Int)-1-k=(t:Int):=an
  have K:(l.length:Int)-1-((k+1:Nat):Int)=(t:Int)-1:=an
  have s1:cL .i64 (t:Int) 1=(t:Int)-1:=nC an an
  have X:(S k).1.length+(1+13*y.conds.length)<=4096:=by
   have a:=To (l:=l.drop (l.length-k)) (s:=(c,o)) (λr I=>F r (aam I)) V;have Y:=a.grown.len;rw[<-e] at Y
   have Z:uE (l.drop t)=1+13*y.conds.length+uE (l.drop (l.length-k)):=by rw[zsk C,uE,show t+1=l.length-k by omega]
   have:=zm6 l t;simp only at Y;omega
  have g:=F4 k;obtain⟨⟨a,i⟩,rD⟩:=ax (S k);rw[<-rD] at q X g |-;simp only at X g;have J6:=h.set a;have L:=KU (G:=G) J6 6 y.act (.inr (.inl rfl)) an;rw[Cs] at L;have lO:(bY a 6 y.act).length=a.length+1:=rfl;rw[lO] at L;rw[et]
  have Af:tk.cl (dJ H b a).length=tk:=by rw[rf];exact m
  simp only[Ru.cs] at f O4;simp(disch:=omega)[f];refine cN L ?_;have s2:cL .i64 (y.conds.length:Int) 1=(y.conds.length:Int)-1:=nC an an;simp(disch:=omega)[f,s2];obtain⟨T,v⟩:∃T:Nat->tT,∀k,T k=Ge i (y.conds.drop (y.conds.length-k)) (bY a 6 y.act,a.length+1):=⟨_,λ_=>rfl⟩
  have pd:T 0=(bY a 6 y.act,a.length+1):=by rw[v,acg,abq];rfl
  have ku:T y.conds.length=S (k+1):=by rw[v,abT,abc,q];rfl
  refine aN y.conds.length (λj=>[(0,.ptr b 0),(1,.vs (RL l) tk),(2,.int .i64 i),(7,.int .i64 t),(8,.int .i64 (T j).2),(9,.int .i64 ((y.conds.length:Int)-1-j))]) (λj=>dJ H b (T j).1) (λ_=>True) ?_ ?_
  .simp[au,pd,A,B,m]
  intro j hj _
  by_cases AV:j<y.conds.length
  .obtain⟨u,hu⟩:=ax (y.conds.length-1-j)
   have M:u<y.conds.length:=an
   obtain⟨z,hz⟩:=ax (y.conds[u])
   have d:y.conds[u]?=some z:=by rw[aad M,hz]
   have D:=zvu d
   have O5:(CL y.conds)[u]'(by simpa using M)=z.cs:=by rw[aad (by simpa using M)] at D;exact aa3.inj D
   have w:=p.1 z (aao d)
   have N:T (j+1)=(gL (T j).1 z (T j).2 i,(gL (T j).1 z (T j).2 i).length):=by rw[v,v,show y.conds.length-(j+1)=u by omega,zsk d,Ge,show u+1=y.conds.length-j by omega]
   have E:=zmX (o:=i) (l:=y.conds.drop (y.conds.length-j)) (s:=(bY a 6 y.act,a.length+1)) (λx hx=>p.1 x (aam hx)) ⟨g.nA.1,by have:=g.nA.2;simp only[bY,aah] at this |-;omega⟩ ⟨an,aaj _⟩;rw[<-v] at E;have O:=E.grown.len;simp only[lO,aaV] at O;obtain⟨⟨Z,o2⟩,u6⟩:=ax (T j);rw[<-u6] at N E O |-;simp only at O N;have cl:=E.nA;simp only at cl;have P:=g.nA.2;simp only at P
   have Q:=zCW (G:=G) (h.set Z) z o2 i w.1 w.2 cl ⟨g.nA.1,an⟩ an;rw[Cs] at Q
   have eu:(y.conds.length:Int)-1-j=(u:Int):=an
   have R:(y.conds.length:Int)-1-((j+1:Nat):Int)=(u:Int)-1:=an
   have s3:cL .i64 (u:Int) 1=(u:Int)-1:=nC an an;rw[eu];simp only[Cd.cs] at Q D O5;simp(disch:=omega)[f,D];refine cN Q ?_;simp(disch:=omega)[au,A,B,m,s3,R,N,AV,-aae]
  .have:j=y.conds.length:=an
   subst this;have U:((y.conds.length:Int)<=(y.conds.length:Int)-1)=False:=af9;simp(disch:=omega)[au,A,B,m,s1,K,ku,U,aj,-aae]
 .have:k=l.length:=an
  subst this;have U:((l.length:Int)<=(l.length:Int)-1)=False:=af9;simp(disch:=omega)[A,zK,U]
def EL(l:List (Nat×Nat)):List (List V):=l.map λe=>[.int .u32 (e.1:Int),.int .i64 (e.2:Int)]
@[simp] theorem zLp (l:List (Nat×Nat)):(EL l).length=l.length:=by simp[EL]
theorem zAD{l:List (Nat×Nat)}{i:Nat}{x:Nat×Nat}(h:l[i]?=some x):(EL l)[i]?=some [.int .u32 (x.1:Int),.int .i64 (x.2:Int)]:=by simp[EL,h]
def zxu(l:List (Nat×Nat))(n:Nat):(EL l).take n=EL (l.take n):=by simp[EL]
def zEZ(l:List (Nat×Nat))(n:Nat):(EL l).drop n=EL (l.drop n):=by simp[EL]
def SH(l:List (Nat×Nat)):(∀f∈EL l,f.length=2)=True:=by simp only[eq_iff_iff,iff_true];intro f a;simp only[EL,aaq] at a;obtain⟨x,_,rfl⟩:=a;rfl
def ZJ[aE G][bJ G][eK G][fw G]{o:Nat}:∀(n:Nat) {H:ae} {b:Nat} {c:List af} (h:nu H b c .no) (l:List (Nat×Nat)) (tk:Tk) (d:∀n,H.length<=n->tk.cl n=tk) (r:l≠[]) (B:l.length<=n) (i:o8 c l) (s:∀e∈l,e.1<4294967296) (f:1<=o/\o<=c.length) (u:c.length+6*l.length<=4096),
  SF G 426 [.ptr b 0,.vs (EL l) tk,.int .i64 o] H (.int .i64 (bV n c l o).2) (dJ H b (bV n c l o).1)
 | 0,H,b,c,h,l,tk,d,r,B,i,s,f,u=>absurd (aat.1 an) r
 | n+1,H,b,c,h,l,tk,d,r,B,i,s,f,u=>by
  have W:0<l.length:=abb.2 r
  have C:∀c',ak H.length (dJ H b c')=dJ H b c':=λc'=>by have:=(yk (b:=b) h.shut c').self;rwa[rf] at this
  have X:=h.lb;have Y:=d H.length (aaj _);refine j_ fw.aeI (aab rfl) ?_
  by_cases D:l.length=1
  .obtain⟨e,rfl⟩:=List.length_eq_one_iff.1 D
   have v:bV (n+1) c [e] o=(ib c 21 e.1 e.2 o,(ib c 21 e.1 e.2 o).length):=by unfold bV;rfl
   rw[v];have w:=IM (G:=G) h 21 e.1 e.2 o (.inl rfl) (i e ir) f (by simp at u;omega);simp[EL];refine cN w ?_;simp[C]
  .have Q:((l.length:Int)==1)=false:=by simp;omega
   obtain⟨a,j⟩:=ax (l.length/2)
   have q1:gH .i64 (l.length:Int) 2=(a:Int):=by unfold gH;have R:((l.length:Int).tdiv 2)=((l.length/2:Nat):Int):=rfl;rw[R,<-j];exact IntWalk.i64_in _ ⟨an,an⟩
   have E:(l.take a).length=a:=by rw[aaC];omega
   have F:(l.drop a).length=l.length-a:=by rw[aaV]
   have n1:l.take a≠[]:=by intro e;rw[e] at E;simp at E;omega
   have I:l.drop a≠[]:=by intro e;rw[e] at F;simp at F;omega
   have m:o8 c (l.take a):=λe g=>i e (aas g);have p:o8 c (l.drop a):=λe g=>i e (aam g);have J:∀e∈l.take a,e.1<4294967296:=λe g=>s e (aas g);have K:∀e∈l.drop a,e.1<4294967296:=λe g=>s e (aam g);have t:=KS n (c:=c) (l:=l.take a) n1 an m J f;have Z:=t.grown.len;have L:=KS n (c:=(bV n c (l.take a) o).1) (l:=l.drop a) I an (p.grown t.grown) K ⟨f.1,an⟩
   have g2:=L.grown.len;have x:=t.nA;have y:=L.nA;obtain⟨k,S⟩:=ax (l[a]'(by omega))
   have M:l[a]?=some k:=by rw[aad an,S]
   have T:l.getD a (0,0)=k:=by rw[aau,M];rfl
   have z:=zAD M
   have U:(EL l)[a]'(by simp;omega)=[.int .u32 (k.1:Int),.int .i64 (k.2:Int)]:=by rw[aad (by simp;omega)] at z;exact aa3.inj z
   have V:=λtk d=>ZJ (o:=o) n h (l.take a) tk d n1 an m J f an;have N:=λtk d=>ZJ (o:=o) n (h.set (bV n c (l.take a) o).1) (l.drop a) tk (by rw[rf];exact d) I an (p.grown t.grown) K ⟨f.1,an⟩ an
   have v:bV (n+1) c l o=(ib (bV n (bV n c (l.take a) o).1 (l.drop a) o).1 53 k.1 (bV n (bV n c (l.take a) o).1 (l.drop a) o).2 (bV n c (l.take a) o).2,
    (ib (bV n (bV n c (l.take a) o).1 (l.drop a) o).1 53 k.1 (bV n (bV n c (l.take a) o).1 (l.drop a) o).2 (bV n c (l.take a) o).2).length):=by
    conv=>lhs;unfold bV
    rw[if_neg D,<-j,T]
   rw[v];generalize bV n (bV n c (l.take a) o).1 (l.drop a) o=s2 at *;generalize bV n c (l.take a) o=s1 at *;have w:=IM (G:=G) ((h.set s1.1).set s2.1) 53 k.1 s2.2 s1.2 (.inr (.inr rfl)) y ⟨x.1,an⟩ an;simp only[Cs] at N w;have O:(a<=l.length)=True:=af8;have b2:((0:Int)<=(a:Int))=True:=af8;have gA:(EL l).take l.length=EL l:=aan ir
   have q:∀(P:Prop) [Decidable P] n,(if P then Tk.full else Tk.no).cl n=if P then Tk.full else Tk.no:=λP _ n=>by split<;>rfl
   have A:(l.drop a).take (l.length-a)=l.drop a:=aan an;simp(disch:=omega)[Q,q1,SH,zxu,O];refine cN (V _ (λn _=>q _ n)) ?_;simp(disch:=omega)[SH,zxu,zEZ,O,A];refine cN (N _ (λn _=>q _ n)) ?_;simp(disch:=omega)[z];refine cN w ?_;simp[C]
end
end Go.Ev
