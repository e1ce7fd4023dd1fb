/- Words for plain data, and what simp zc0 of them. -/
import Derived.Test.YtogjnjnabikdpaaGreatDoorEvNW
import Derived.OpenShut
import Derived.ChangeShapes
import Derived.WideShapes
import Derived.Carry
import Derived.LaidMore
import Derived.Stop.Joined
set_option linter.unusedSimpArgs false
set_option linter.unusedVariables false
namespace Go.Ev
open Go Go.RowKit
def lenV(st:Bool)(v:V)(H:Heap):Option (V×Heap):=match st,v with
  | false,.vs es _=>some (.int .i64 es.length,H)
  | false,.rs _ _ n _=>some (.int .i64 n,H)
  | true,.str s=>some (.int .i64 s.length,H)
  | _,_=>none
theorem zuh(base:Nat)(e:Env)(H:Heap)(st:Bool)(x:X):ev1 base e H (.len st x)=lenV st (x.ev e) H:=rfl
def zsD(k:Nat)(neg:Bool)(v:V)(H:Heap):Option (V×Heap):=match k,v with
  | 0,.fn _ _=>some (.bool neg,H)
  | 0,.nilf=>some (.bool !neg,H)
  | 1,.ptr _ _=>some (.bool neg,H)
  | 1,.cptr _=>some (.bool neg,H)
  | 1,.nilp=>some (.bool !neg,H)
  | 2,.mp _=>some (.bool neg,H)
  | 2,.nilm=>some (.bool !neg,H)
  | _,_=>none
theorem zrm(base:Nat)(e:Env)(H:Heap)(k:Nat)(neg:Bool)(x:X):ev1 base e H (.nileq k neg x)=zsD k neg (x.ev e) H:=rfl
theorem zrn(es:List (List V)):(V.vs es .no).pure=true:=rfl
theorem zoV(es:List (List V)):(V.vs es .full).pure=true:=rfl
attribute [simp] List.getElem?_cons_zero List.getElem?_cons_succ
attribute [simp] X.ev Ws ev1.eq_1 ev1.eq_2 ev1.eq_3 ev1.eq_4 ev1.eq_5 ev1.eq_6 ev1.eq_7 ev1.eq_8 ev1.eq_9 ev1.eq_10 ev1.eq_11 ev1.eq_12 ev1.eq_13 ev1.eq_14 ev1.eq_15 ev1.eq_16 ev1.eq_17 ev1.eq_18 ev1.eq_19 zuh lenV ev1.eq_24 ev1.eq_25 ev1.eq_26 ev1.eq_27 ev1.eq_28 zrm zsD ev1.eq_37 ev1.eq_39 ev1.eq_40 ev1.eq_41 ev1.eq_42 ev1.eq_43 ev1.eq_44 ev1.eq_45 ev1.eq_46 ev1.eq_47 ev1.eq_48 ev1.eq_49 ev1.eq_50 ev1.eq_51 ev1.eq_52 ev1.eq_53 ev1.eq_54 ev1.eq_55 ev1.eq_56 ev1.eq_57 ev1.eq_58 loadAt V.ptrId? storeAt V.elems? eqks eqk zbd zbx mmGo mmI zeN zn2 zhF frzL V.cells? zay mk zq9 evUn ze2 zn3 zb2 zct frz frz1 V.cl clL Tk.cl.eq_1 Tk.cl.eq_2 Tk.cl.eq_3 Blk.cl intOf? zbC za6 zgM V.pure.eq_1 V.pure.eq_2 V.pure.eq_3 V.pure.eq_4 V.pure.eq_5 V.pure.eq_6 V.pure.eq_7 V.pure.eq_8 zrn zoV V.pure.eq_10 V.nf1 V.nf2 V.nf V.out outL
def ints(k:IntKind)(l:List Int):List (List V):=l.map fun x=>[.int k x]
@[simp] theorem zxX (k:IntKind) (l:List Int):(ints k l).length=l.length:=by simp[ints]
@[simp] theorem zBQ (k:IntKind) (l:List Int) (i:Nat):(ints k l)[i]?=(l[i]?).map fun x=>[.int k x]:=by simp[ints]
@[simp] theorem zui (k:IntKind):ints k []=[]:=rfl
theorem zgb(k:IntKind)(l:List Int):ints k l=[]↔l=[]:=by simp[ints]
theorem zgc(k:IntKind)(l m:List Int):ints k l++ints k m=ints k (l++m):=by simp[ints]
@[simp] theorem zBx (k:IntKind) (l:List Int) (x:Int):ints k l++[[.int k x]]=ints k (l++[x]):=by simp[ints]
theorem zhL(k:IntKind)(l:List Int)(n:Nat):(ints k l).drop n=ints k (l.drop n):=by simp[ints]
theorem zhM(k:IntKind)(l:List Int)(n:Nat):(ints k l).take n=ints k (l.take n):=by simp[ints]
@[simp] theorem zv8 (k:IntKind) (l:List Int):(∀ f∈ints k l,f.length=1)=True:=by
 simp only[eq_iff_iff,iff_true]
 intro f hf
 simp only[ints,List.mem_map] at hf
 obtain⟨x,_,rfl⟩:=hf
 rfl
def za7(k:IntKind)(l:List Int):List V:=l.map fun x=>.int k x
@[simp] theorem zxq (k:IntKind) (l:List Int):(za7 k l).length=l.length:=by simp[za7]
@[simp] theorem zBR (n:Nat) (k:IntKind) (l:List Int):clL n (za7 k l)=za7 k l:=by
 rw[zan]; simp[za7,Function.comp_def]
theorem zl8(k:IntKind)(l:List Int)(n:Nat):(za7 k l).drop n=za7 k (l.drop n):=by simp[za7]
theorem zro(k:IntKind)(l:List Int)(n:Nat):(za7 k l).take n=za7 k (l.take n):=by simp[za7]
@[simp] theorem zA1 (k:IntKind) (l:List Int):(za7 k l).all V.pure=true:=by simp[za7]
theorem zsE(k:IntKind)(l:List Int)(i:Nat)(x:Int)(h:i<l.length):(za7 k l).take i++[.int k x]++(za7 k l).drop (i+1)=za7 k (l.set i x):=by
 rw[zro,zl8,List.set_eq_take_append_cons_drop,if_pos h]
 simp[za7]
@[simp] theorem zBy (n:Nat):zac n []=[]:=by simp[zac]
def nats(k:IntKind)(l:List Nat):List (List V):=l.map fun(x:Nat)=>[V.int k (x:Int)]
theorem zjY(k:IntKind)(l:List Nat):nats k l=ints k (l.map Int.ofNat):=by simp[nats,ints,Function.comp_def]
@[simp] theorem zxY (k:IntKind) (l:List Nat):(nats k l).length=l.length:=by simp[nats]
@[simp] theorem zBS (k:IntKind) (l:List Nat) (i:Nat):(nats k l)[i]?=(l[i]?).map fun(x:Nat)=>[V.int k (x:Int)]:=by simp[nats]
@[simp] theorem zxr (k:IntKind) (l:List Nat) (i:Nat) (h:i<(nats k l).length):(nats k l)[i]=[V.int k ((l[i]'(by simpa using h):Nat):Int)]:=by simp[nats]
@[simp] theorem zxs (k:IntKind) (l:List Int) (i:Nat) (h:i<(ints k l).length):(ints k l)[i]=[V.int k (l[i]'(by simpa using h))]:=by simp[ints]
@[simp] theorem zBT (k:IntKind):nats k []=[]:=rfl
@[simp] theorem zeR (k:IntKind) (l:List Nat) (x:Nat):nats k l++[[.int k (x:Int)]]=nats k (l++[x]):=by simp[nats]
@[simp] theorem zB0 (k:IntKind) (l:List Nat):(∀ f∈nats k l,f.length=1)=True:=by rw[zjY]; exact zv8 k _
def zad(k:IntKind)(l:List Nat):List V:=l.map fun(x:Nat)=>.int k x
@[simp] theorem zxt (k:IntKind) (l:List Nat):(zad k l).length=l.length:=by simp[zad]
@[simp] theorem zoW (n:Nat) (k:IntKind) (l:List Nat):clL n (zad k l)=zad k l:=by
 rw[zan]; simp[zad,Function.comp_def]
theorem zaU(k:IntKind)(l:List Nat)(i:Nat)(h:i<l.length):((zad k l).drop i).take 1=[.int k (l[i]:Nat)]:=by
 rw[zad,←List.map_drop,List.drop_eq_getElem_cons h]
 rfl
theorem zbs(k:IntKind)(l:List Nat)(i x:Nat)(h:i<l.length):(zad k l).take i++(V.int k (x:Int)::(zad k l).drop (i+1))=zad k (l.set i x):=by
 rw[zad,←List.map_drop,←List.map_take,List.set_eq_take_append_cons_drop,if_pos h]
 simp[zad]
@[simp] theorem zA2 (k:IntKind) (l:List Nat):(zad k l).all V.pure=true:=by simp[zad]
@[simp] theorem zBz (k:IntKind) (l:List Nat):(zad k l).map V.nf1=zad k l:=by simp[zad,Function.comp_def]
def zae(n:Nat):List Nat:=List.replicate n 0
@[simp] theorem zjZ (n:Nat):(zae n).length=n:=by simp[zae]
@[simp] theorem zBU (k:IntKind) (n:Nat):rep n (V.int k 0)=zad k (zae n):=by simp[rep,zad,zae]
@[simp high] theorem zBA (base:Nat) (e:Env) (H:Heap) (s bytes:Nat) (k:IntKind) (n:X):ev1 base e H (.mksl s bytes [.int k 0] n)=(match n.ev e with
  | .int _ m=>if zay H (base+s)=true∧0≤m∧m.toNat*bytes≤140737488355328 then some (.rs (base+s) 0 m.toNat 1,H.set (base+s) (some (.cells (zad k (zae m.toNat))))) else none
  | _=>none):=by
 have h:∀ m:Nat,(List.replicate m [V.int k 0]).flatten=zad k (zae m):=fun m=>by
  induction m with
  | zero=>rfl
  | succ m ih=>rw[List.replicate_succ,List.flatten_cons,ih]; simp[zad,zae,List.replicate_succ]
 rw[ev1.eq_27]
 cases n.ev e<;>simp only[h,List.length_singleton]
theorem zaj{k:IntKind}{l:List Nat}{n:Nat}(h:l.length=n):(zad k l).take n=zad k l:=by rw[List.take_of_length_le]; simp[h]
@[simp] theorem zA3 (k:IntKind) (n:Nat):(zad k (zae n)).take n=zad k (zae n):=zaj (zjZ n)
theorem zhN{k:IntKind}{l:List Nat}{n:Nat}(h:l.length=n):(zad k l).drop n=[]:=by rw[List.drop_eq_nil_of_le]; simp[h]
@[simp] theorem zA4 (k:IntKind) (n:Nat):(zad k (zae n)).drop n=[]:=zhN (zjZ n)
theorem zj0(k:IntKind):∀ l:List Nat,zbb 1 l.length (zad k l)=l.map fun(x:Nat)=>[V.int k (x:Int)]
 | []=>rfl
 | x::l=>by
  have:=zj0 k l
  simp only[zad] at this
  simp[zbb,zad,this]
theorem za0(w n:Nat):BitVec.ofInt w (n:Int)=BitVec.ofNat w n:=by simp
theorem zcY{n:Nat}(h:n<2^63):IntKind.i64.wrap (n:Int)=n:=by
 refine IntWalk.i64_in _ ⟨by omega,?_⟩
 have:n<9223372036854775808:=h
 omega
theorem zaT{n:Nat}(h:n<2^32):IntKind.u32.wrap (n:Int)=n:=by
 refine IntWalk.u32_in _ ⟨by omega,?_⟩
 have:n<4294967296:=h
 omega
theorem zA5{a b:Nat}(ha:a<2^63)(hb:b<2^63):xorI .i64 (a:Int) (b:Int)=((a ^^^ b:Nat):Int):=by
 unfold xorI
 rw[za0,za0,BitVec.toNat_xor,BitVec.toNat_ofNat,BitVec.toNat_ofNat,Nat.mod_eq_of_lt (Nat.lt_trans ha (by decide)),Nat.mod_eq_of_lt (Nat.lt_trans hb (by decide))]
 exact zcY (Nat.xor_lt_two_pow ha hb)
theorem zA6{a b:Nat}(ha:a<2^63)(hb:b<2^63):andI .i64 (a:Int) (b:Int)=((a &&& b:Nat):Int):=by
 unfold andI
 rw[za0,za0,BitVec.toNat_and,BitVec.toNat_ofNat,BitVec.toNat_ofNat,Nat.mod_eq_of_lt (Nat.lt_trans ha (by decide)),Nat.mod_eq_of_lt (Nat.lt_trans hb (by decide))]
 exact zcY (Nat.lt_of_le_of_lt Nat.and_le_left ha)
theorem or64{a b:Nat}(ha:a<2^63)(hb:b<2^63):orI .i64 (a:Int) (b:Int)=((a ||| b:Nat):Int):=by
 unfold orI
 rw[za0,za0,BitVec.toNat_or,BitVec.toNat_ofNat,BitVec.toNat_ofNat,Nat.mod_eq_of_lt (Nat.lt_trans ha (by decide)),Nat.mod_eq_of_lt (Nat.lt_trans hb (by decide))]
 exact zcY (Nat.or_lt_two_pow ha hb)
theorem zA7{a b:Nat}(ha:a<2^32)(hb:b<2^32):xorI .u32 (a:Int) (b:Int)=((a ^^^ b:Nat):Int):=by
 unfold xorI
 rw[za0,za0,BitVec.toNat_xor,BitVec.toNat_ofNat,BitVec.toNat_ofNat]
 simp only[IntKind.bits]
 rw[Nat.mod_eq_of_lt ha,Nat.mod_eq_of_lt hb]
 exact zaT (Nat.xor_lt_two_pow ha hb)
theorem zn7{a b:Nat}(ha:a<2^32)(hb:b<2^32):andI .u32 (a:Int) (b:Int)=((a &&& b:Nat):Int):=by
 unfold andI
 rw[za0,za0,BitVec.toNat_and,BitVec.toNat_ofNat,BitVec.toNat_ofNat]
 simp only[IntKind.bits]
 rw[Nat.mod_eq_of_lt ha,Nat.mod_eq_of_lt hb]
 exact zaT (Nat.lt_of_le_of_lt Nat.and_le_left ha)
theorem or32{a b:Nat}(ha:a<2^32)(hb:b<2^32):orI .u32 (a:Int) (b:Int)=((a ||| b:Nat):Int):=by
 unfold orI
 rw[za0,za0,BitVec.toNat_or,BitVec.toNat_ofNat,BitVec.toNat_ofNat]
 simp only[IntKind.bits]
 rw[Nat.mod_eq_of_lt ha,Nat.mod_eq_of_lt hb]
 exact zaT (Nat.or_lt_two_pow ha hb)
theorem zrp{a j:Nat}(h:a*2^j<2^63)(hj:j≤64):shlI .i64 (a:Int) (j:Int)=((a*2^j:Nat):Int):=by
 unfold shlI
 have:min ((j:Int)).toNat IntKind.i64.bits=j:=by simp only[Int.toNat_natCast,IntKind.bits]; omega
 rw[this]
 have:=zcY h
 rwa[Int.natCast_mul,Int.natCast_pow] at this ⊢
theorem zej{a j:Nat}(hj:j≤64):shrI .i64 (a:Int) (j:Int)=((a/2^j:Nat):Int):=by
 unfold shrI
 have:min ((j:Int)).toNat IntKind.i64.bits=j:=by simp only[Int.toNat_natCast,IntKind.bits]; omega
 rw[this,Int.fdiv_eq_ediv_of_nonneg _ (by have:(0:Int)<2^j:=Int.pow_pos (by decide); omega),Int.natCast_ediv,Int.natCast_pow]
 rfl
theorem zi5{a j:Nat}(hj:j≤32):shrI .u32 (a:Int) (j:Int)=((a/2^j:Nat):Int):=by
 unfold shrI
 have:min ((j:Int)).toNat IntKind.u32.bits=j:=by simp only[Int.toNat_natCast,IntKind.bits]; omega
 rw[this,Int.fdiv_eq_ediv_of_nonneg _ (by have:(0:Int)<2^j:=Int.pow_pos (by decide); omega),Int.natCast_ediv,Int.natCast_pow]
 rfl
theorem zav{a b:Int}(h0:-9223372036854775808≤a+b)(h1:a+b≤9223372036854775807):addI .i64 a b=a+b:=IntWalk.i64_in _ ⟨h0,h1⟩
theorem zaK{a b:Int}(h0:-9223372036854775808≤a-b)(h1:a-b≤9223372036854775807):subI .i64 a b=a-b:=IntWalk.i64_in _ ⟨h0,h1⟩
theorem add1{n m:Nat}(h:n<m)(hm:m≤9223372036854775807):addI .i64 (n:Int) 1=((n+1:Nat):Int):=by rw[zav (by omega) (by omega)]; omega
end Go.Ev
/- Counting loops, and small words. -/
namespace Go.Ev
open Go Go.RowKit
variable {G:Tbl} {K:List Kt} {e:Env} {H:Heap} {Q:Ex→Env→Heap→Prop}
def QU(G:Tbl)(K:List Kt)(Q:Ex→Env→Heap→Prop)(l:List Nat)(k N:Nat)(E:Nat→List (Nat×V))(B:Nat→Heap)(P:Nat→Prop)(n:Nat)(x:Ex)(e1:Env)(H1:Heap):Prop :=
 match x with
 | .nx=>n<N∧P (n+1)∧(zbR l e1).cl k=mkE (E (n+1))∧zac k H1=B (n+1)
 | x=>Wr G x K e1 H1 Q
section
variable {l:List Nat} {k N:Nat} {E:Nat→List (Nat×V)} {B:Nat→Heap} {P:Nat→Prop} {n:Nat}
@[simp] theorem QU_nx:QU G K Q l k N E B P n .nx e H=(n<N∧P (n+1)∧(zbR l e).cl k=mkE (E (n+1))∧zac k H=B (n+1)):=rfl
@[simp] theorem zB1 (i:Nat):QU G K Q l k N E B P n (.exit i) e H=Wr G (.exit i) K e H Q:=rfl
@[simp] theorem QU_ret:QU G K Q l k N E B P n .ret e H=Wr G .ret K e H Q:=rfl
end
theorem W_up{l:List Nat}{c:SCode}(N:Nat)(E:Nat→List (Nat×V))(B:Nat→Heap)(P:Nat→Prop)
  (h0:P 0∧(zbR l e).cl H.length=mkE (E 0)∧zac H.length H=B 0)
  (hr:∀ n,n≤N→P n→W G c [] (mkE (E n)) (B n) (QU G K Q l H.length N E B P n)):W G (.loop l c) K e H Q:=by
 refine zsB (fun k e H=>∃ n,n≤N∧k=N-n∧P n∧e=mkE (E n)∧H=B n) N ⟨0,by omega,by omega,h0.1,h0.2.1,h0.2.2⟩ ?_
 rintro k e' H' ⟨n,hn,rfl,hp,rfl,rfl⟩
 obtain⟨x,e1,H1,hb,hq⟩:=hr n hn hp
 refine⟨x,e1,H1,hb,?_⟩
 cases x with
 | nx=>obtain⟨h1,h2,h3,h4⟩:=hq; exact⟨N-(n+1),by omega,n+1,h1,rfl,h2,h3,h4⟩
 | exit id=>exact hq
 | ret=>exact hq
def Nx{S:Type}(m:S→Nat)(E:S→List (Nat×V))(B:S→Heap)(P:S→Prop)(l:List Nat)(k:Nat)(s:S)(e1:Env)(H1:Heap):Prop :=
 ∃ s',m s'<m s∧P s'∧(zbR l e1).cl k=mkE (E s')∧zac k H1=B s'
def QS{S:Type}(G:Tbl)(K:List Kt)(Q:Ex→Env→Heap→Prop)(l:List Nat)(k:Nat)(m:S→Nat)(E:S→List (Nat×V))(B:S→Heap)(P:S→Prop)(s:S)(x:Ex)(e1:Env)(H1:Heap):Prop :=
 match x with
 | .nx=>Nx m E B P l k s e1 H1
 | x=>Wr G x K e1 H1 Q
section
variable {l:List Nat} {k:Nat} {S:Type} {m:S→Nat} {E:S→List (Nat×V)} {B:S→Heap} {P:S→Prop} {s:S}
@[simp] theorem QS_nx:QS G K Q l k m E B P s .nx e H=Nx m E B P l k s e H:=rfl
@[simp] theorem zB2 (i:Nat):QS G K Q l k m E B P s (.exit i) e H=Wr G (.exit i) K e H Q:=rfl
@[simp] theorem QS_ret:QS G K Q l k m E B P s .ret e H=Wr G .ret K e H Q:=rfl
end
theorem zfZ{l:List Nat}{c:SCode}{S:Type}(m:S→Nat)(E:S→List (Nat×V))(B:S→Heap)(P:S→Prop)(s0:S)
  (h0:P s0∧(zbR l e).cl H.length=mkE (E s0)∧zac H.length H=B s0)
  (hr:∀ s,P s→W G c [] (mkE (E s)) (B s) (QS G K Q l H.length m E B P s)):W G (.loop l c) K e H Q:=by
 refine zsB (fun k e H=>∃ s,k=m s∧P s∧e=mkE (E s)∧H=B s) (m s0) ⟨s0,rfl,h0.1,h0.2.1,h0.2.2⟩ ?_
 rintro k e' H' ⟨s,rfl,hp,rfl,rfl⟩
 obtain⟨x,e1,H1,hb,hq⟩:=hr s hp
 refine⟨x,e1,H1,hb,?_⟩
 cases x with
 | nx=>obtain⟨s',h1,h2,h3,h4⟩:=hq; exact⟨m s',h1,s',rfl,h2,h3,h4⟩
 | exit id=>exact hq
 | ret=>exact hq
theorem zj1{f nt:Nat}{body:SCode}{res:List ResV}{args:List V}{R:V→Prop}(hg:G f=some ⟨nt,body,res⟩)(hl:args.length≤nt)
  (h:W G body [] (mkE (idxE 0 args)) [] (QF res R)):∃ r,FP G f args r∧R r:=by
 obtain⟨x,e1,H1,hb,hx,vs,hv,hr⟩:=h
 exact⟨_,zak hg hl ⟨x,e1,H1,hb,hx,vs,hv,rfl⟩,hr⟩
theorem shl1{j:Nat}(h:j<63):shlI .i64 1 (j:Int)=((2^j:Nat):Int):=by
 have hp:2^j<2^63:=Nat.pow_lt_pow_right (by decide) h
 have:=zrp (a:=1) (j:=j) (by omega) (by omega)
 simpa using this
theorem addN{a b:Nat}(h:a+b≤9223372036854775807):addI .i64 (a:Int) (b:Int)=((a+b:Nat):Int):=by rw[zav (by omega) (by omega)]; omega
theorem zbP(k:IntKind)(x:Int)(l:List Int):ints k (x::l)=[.int k x]::ints k l:=rfl
theorem zns(k:IntKind)(x:Nat)(l:List Nat):nats k (x::l)=[.int k (x:Int)]::nats k l:=rfl
/-! Comparisons that omega decides: for simp with (disch := omega). -/
theorem ltT{a b:Int}(h:a<b):(a<b)=True:=eq_true h
theorem ltF{a b:Int}(h:¬a<b):(a<b)=False:=eq_false h
theorem leT{a b:Int}(h:a≤b):(a≤b)=True:=eq_true h
theorem leF{a b:Int}(h:¬a≤b):(a≤b)=False:=eq_false h
theorem eqT{a b:Int}(h:a=b):(a=b)=True:=eq_true h
theorem eqF{a b:Int}(h:¬a=b):(a=b)=False:=eq_false h
theorem addL{a n:Nat}(h:a+n≤9223372036854775807):addI .i64 (a:Int) (@OfNat.ofNat Int (no_index n) instOfNat)=((a+n:Nat):Int):=by
 have h1:(@OfNat.ofNat Int n instOfNat:Int)=(n:Int):=rfl
 rw[h1,zav]<;>omega
theorem zag{a:Nat}(h:a+1≤9223372036854775807):addI .i64 (a:Int) 1=((a+1:Nat):Int):=by rw[zav]<;>omega
theorem zn8{a:Nat}(h:a+1≤9223372036854775807):addI .i64 (a:Int) 1=((a+1:Nat):Int):=zag h
theorem zl9{a:Nat}(h:0<a∧a≤9223372036854775807):subI .i64 (a:Int) 1=((a-1:Nat):Int):=by rw[zaK]<;>omega
@[simp] theorem natInj {a b:Nat}:((a:Int)=(b:Int))=(a=b):=propext Int.ofNat_inj
theorem zn9{a j:Nat}(hj:j≤32):shlI .u32 (a:Int) (j:Int)=((a*2^j%4294967296:Nat):Int):=by
 unfold shlI
 have:min ((j:Int)).toNat IntKind.u32.bits=j:=by simp only[Int.toNat_natCast,IntKind.bits]; omega
 rw[this]
 show(((a:Int)*2^j)%4294967296:Int)=_
 rw[Int.natCast_emod,Int.natCast_mul,Int.natCast_pow]
 rfl
theorem zrq{a b:Nat}(ha:a<4294967296)(hb:b≠0):quoI .u32 (a:Int) (b:Int)=((a/b:Nat):Int):=by
 unfold quoI
 rw[Int.tdiv_eq_ediv_of_nonneg (by omega)]
 have h:((a:Int)/(b:Int))=((a/b:Nat):Int):=by rw[Int.natCast_ediv]
 rw[h]
 exact zaT (Nat.lt_of_le_of_lt (Nat.div_le_self a b) ha)
theorem zA8{a b:Nat}(ha:a<9223372036854775808):quoI .i64 (a:Int) (b:Int)=((a/b:Nat):Int):=by
 unfold quoI
 rw[Int.tdiv_eq_ediv_of_nonneg (by omega)]
 have h:((a:Int)/(b:Int))=((a/b:Nat):Int):=by rw[Int.natCast_ediv]
 rw[h]
 exact zcY (Nat.lt_of_le_of_lt (Nat.div_le_self a b) ha)
theorem zkB{a b:Nat}:remI (a:Int) (b:Int)=((a%b:Nat):Int):=by
 unfold remI
 rw[Int.tmod_eq_emod_of_nonneg (by omega),Int.natCast_emod]
theorem zvl{b:Nat}(hb:b<4294967296):andI .u32 (b:Int) 31=((b%32:Nat):Int):=by
 have:=zn7 (a:=b) (b:=31) hb (by decide)
 rw[show((31:Nat):Int)=31 from rfl] at this
 rw[this,show(31:Nat)=2^5-1 from rfl,Nat.and_two_pow_sub_one_eq_mod]
@[simp] theorem zwQ (k:IntKind) (l:List Int):(ints k l).take l.length=ints k l:=by rw[List.take_of_length_le]; simp
@[simp] theorem zwR (k:IntKind) (l:List Nat):(nats k l).take l.length=nats k l:=by rw[List.take_of_length_le]; simp
theorem eqTn{a b:Nat}(h:a=b):(a=b)=True:=eq_true h
theorem eqFn{a b:Nat}(h:¬a=b):(a=b)=False:=eq_false h
theorem ltTn{a b:Nat}(h:a<b):(a<b)=True:=eq_true h
theorem ltFn{a b:Nat}(h:¬a<b):(a<b)=False:=eq_false h
theorem bneT{a b:Int}(h:¬a=b):(a !=b)=true:=by simp[h]
theorem bneF{a b:Int}(h:a=b):(a !=b)=false:=by simp[h]
theorem beqT{a b:Int}(h:a=b):(a==b)=true:=by simp[h]
theorem beqF{a b:Int}(h:¬a=b):(a==b)=false:=by simp[h]
theorem leTn{a b:Nat}(h:a≤b):(a≤b)=True:=eq_true h
theorem leFn{a b:Nat}(h:¬a≤b):(a≤b)=False:=eq_false h
theorem beqI(a b:Int):(a==b)=decide (a=b):=by rw[Bool.eq_iff_iff]; simp
theorem zal{α:Type}{l:List α}{i:Nat}(h:i<l.length):l[i]?=some l[i]:=List.getElem?_eq_getElem h
end Go.Ev
/- A law's row: arguments that read as data are canonical, and read behind the call as they read before. -/
namespace Go.Ev
open Go Go.RowKit Go.ChangeShapes Go.WideShapes
variable {P:Program} {fm:Fm} {w:World} {Hh:Type} {enc:TypeId×Value→Hh}
def zkC:Ty→V→Prop
 | .agg fs,v=>∃ cs,v=.agg cs∧zaB (.agg fs) cs
 | .arr n e,v=>∃ cs,v=.agg cs∧zaB (.arr n e) cs
 | t,v=>zaB t [v]
def zg4:List Ty→List V→Prop
 | [],vs=>vs=[]
 | t::ts,vs=>∃ v r,vs=v::r∧zkC t v∧zg4 ts r
theorem zi6{v:Value}{c:V}(h:EncL (M0 fm) w [c] v.cells.toList)(hv:∀ cs,v≠.agg cs)(ht:∀ cs,v≠.tuple cs):Enc (M0 fm) w c v:=by
 simp only[EncL] at h
 obtain⟨x,xs',hx,h1,h2⟩:=h
 subst h2
 have:v.cells=#[v]:=by cases v<;>first|rfl|(exact absurd rfl (hv _))|(exact absurd rfl (ht _))
 rw[this] at hx
 simp at hx
 subst hx
 exact h1
theorem zuj{b0:Nat}{ty:Ty}{t:TypeId}{v:Value}{d:DataW Hh}{ps:List MemPlace}(ht:tyIs P t ty=true)(hv:Value.okWide P w .any b0 t v)(hd:DataW.Trod enc P w 0 (fun _=>true) true t v d ps) :
  ∃ c,zkC ty c∧Enc (M0 fm) w c v:=by
 obtain⟨fuel,hd⟩:=hd
 obtain⟨cs,hc,he⟩:=zkz (fm:=fm) ht hd
 cases ty with
 | int k =>
  obtain⟨n,rfl⟩:=okWide_int (ze3 (by simpa only[tyIs] using ht)) hv
  simp only[zaB] at hc
  obtain⟨m,rfl,hw⟩:=hc
  exact⟨_,⟨m,rfl,hw⟩,zi6 he (by simp) (by simp)⟩
 | bool =>
  obtain⟨n,rfl⟩:=okWide_bool (zf8 (by simpa only[tyIs] using ht)) hv
  simp only[zaB] at hc
  obtain⟨m,rfl⟩:=hc
  exact⟨_,⟨m,rfl⟩,zi6 he (by simp) (by simp)⟩
 | str =>
  obtain⟨n,rfl⟩:=okWide_string (zbZ (by simpa only[tyIs] using ht)) hv
  simp only[zaB] at hc
  obtain⟨m,rfl,hw⟩:=hc
  exact⟨_,⟨m,rfl,hw⟩,zi6 he (by simp) (by simp)⟩
 | sl e =>
  simp only[tyIs] at ht
  split at ht
  case h_2=>cases ht
  rename_i el hu
  obtain⟨a,len,cap,rfl⟩:=okWide_slice hu hv
  simp only[zaB] at hc
  obtain⟨es,rfl,h1,h2⟩:=hc
  exact⟨_,⟨es,rfl,h1,h2⟩,zi6 he (by simp) (by simp)⟩
 | agg fs =>
  have hp:∀ c∈cs,c.scal=true:=fun c hx=>V.scal_of_pure (zaB.pure hc c hx)
  simp only[tyIs] at ht
  split at ht
  case h_2=>cases ht
  rename_i gs hu
  unfold Value.okWide at hv
  rw[hu] at hv
  obtain⟨xs,rfl,_,_⟩:=hv
  refine⟨.agg cs,⟨cs,rfl,hc⟩,?_⟩
  simp only[Enc]
  exact⟨hp,xs.toList,by simp,he⟩
 | arr n e =>
  have hp:∀ c∈cs,c.scal=true:=fun c hx=>V.scal_of_pure (zaB.pure hc c hx)
  simp only[tyIs] at ht
  split at ht
  case h_2=>cases ht
  rename_i m el hu
  unfold Value.okWide at hv
  rw[hu] at hv
  obtain⟨xs,rfl,_,_⟩:=hv
  refine⟨.agg cs,⟨cs,rfl,hc⟩,?_⟩
  simp only[Enc]
  exact⟨hp,xs.toList,by simp,he⟩
theorem znt{b0:Nat}:∀{tys:List Ty} {ts:List TypeId} {vs:List Value} {ds:List (DataW Hh)} {ps:List MemPlace},(∀(i:Nat) (ty:Ty) (t:TypeId),tys[i]?=some ty→ts[i]?=some t→tyIs P t ty=true)→tys.length=ts.length →
  (∀(j:Nat) t v,ts[j]?=some t→vs[j]?=some v→Value.okWide P w .any b0 t v)→DataW.TrodAll enc P w 0 (fun _=>true) true ts vs ds ps →
  ∃ cs,zg4 tys cs∧EncL (M0 fm) w cs vs
 | [],[],vs,ds,ps,_,_,_,h=>by
  obtain⟨rfl,rfl,rfl⟩:=trodAll_nil h
  exact⟨[],by simp only[zg4],by simp only[EncL]⟩
 | ty::tys,t::ts,vs,ds,ps,ht,hl,hv,h=>by
  obtain⟨v,vs',d,ds',p,q,rfl,rfl,rfl,h1,h2⟩:=trodAll_cons h
  obtain⟨c,hc,he⟩:=zuj (fm:=fm) (ht 0 ty t rfl rfl) (hv 0 t v rfl rfl) h1
  obtain⟨cs,hcs,hes⟩:=znt (tys:=tys) (fun i a b h3 h4=>ht (i+1) a b (by simpa using h3) (by simpa using h4)) (by simpa using hl) (fun j a b h3 h4=>hv (j+1) a b (by simpa using h3) (by simpa using h4)) h2
  refine⟨c::cs,?_,?_⟩
  ·simp only[zg4]; exact⟨c,cs,rfl,hc,hcs⟩
  ·simp only[EncL]; exact⟨v,vs',rfl,he,hes⟩
 | [],_::_,_,_,_,_,hl,_,_=>by simp at hl
 | _::_,[],_,_,_,_,hl,_,_=>by simp at hl
theorem znu(hl:laidOutB P=true):∀{ts:List TypeId} {vs:List Value} {ds:List (DataW Hh)} {ps:List MemPlace} {W':World},(ts.all fun t=>P.readableRec t&&decide (t<P.types.size))=true→Below w.heap.size w W' →
  DataW.TrodAll enc P w 0 (fun _=>true) true ts vs ds ps→∃ ps',DataW.TrodAll enc P W' 0 (fun b=>decide (b<w.heap.size)) true ts vs ds ps'
 | [],vs,ds,ps,W',_,_,h=>by
  obtain⟨rfl,rfl,rfl⟩:=trodAll_nil h
  exact⟨[],trodAll_mk0⟩
 | t::ts,vs,ds,ps,W',hr,hb,h=>by
  obtain⟨v,vs',d,ds',p,q,rfl,rfl,rfl,h1,h2⟩:=trodAll_cons h
  simp only[List.all_cons,Bool.and_eq_true,decide_eq_true_eq] at hr
  obtain⟨q',h3⟩:=znu hl hr.2 hb h2
  have lt:∀ x∈p,x.block<w.heap.size:=by obtain⟨m,hm⟩:=h1; exact DataW.trod_lt m _ _ _ hm
  exact⟨_,trodAll_cons_mk (Below.trod hl hr.1.1 hr.1.2 h1 hb lt) h3⟩
theorem zuk{v:V}{b:Bool}(h:v.out=.bool b):v=.bool b:=by
 unfold V.out at h
 cases v<;>simp only[V.cl] at h
 case bool=>exact h
 case ptr id off=>rw[if_neg (by omega)] at h; cases h
 case rs id off n sz=>rw[if_neg (by omega)] at h; cases h
 all_goals cases h
theorem zul{H':Heap}{r:V}(h:(frz H' r).out=.bool true):r=.bool true:=by
 have h:=zuk h
 cases r<;>simp only[frz,frz1] at h<;>first|exact h|(cases h; done)|skip
 split at h
 ·split at h<;>cases h
 ·cases h
/-! What rounds are checked by is nothing that the checker looks at. -/
section
variable (c:Nat→SCode→Code→Prop)
theorem zf0:chkX { fm with chk:=c }=chkX fm:=rfl
theorem znv:zby { fm with chk:=c }=zby fm:=by
 funext o
 induction o with
 | nil=>funext x; cases x<;>simp only[zby]
 | cons a o ih=>funext x; cases x<;>simp only[zby,zf0,ih]
theorem zsF:zbj { fm with chk:=c }=zbj fm:=by
 funext o x
 cases o<;>cases x<;>simp only[zbj,zf0]
theorem zoX:zbB { fm with chk:=c }=zbB fm:=by
 funext pl o
 induction o with
 | nil=>funext x; cases x<;>simp only[zbB]
 | cons a o ih=>funext x; cases x<;>simp only[zbB,zf0,ih]
theorem zum:chk1 P { fm with chk:=c }=chk1 P fm:=by
 funext o s
 unfold chk1
 simp only[zf0,znv,zsF,zoX]
theorem zpR:zbn { fm with chk:=c }=zbn fm:=by
 funext o s
 unfold zbn
 simp only[zf0,znv]
theorem zpS:zfU P { fm with chk:=c }=zfU P fm:=by
 funext n ops o s
 unfold zfU
 simp only[zum,zpR]
theorem zoY:za2 P { fm with chk:=c }=za2 P fm:=by
 funext n ops os
 induction os with
 | nil=>funext x; cases x<;>simp only[za2]
 | cons a o ih=>funext x; cases x<;>simp only[za2,zpS,ih]
theorem zoZ(rd:Bool)(n:Nat)(s:SCode)(k:Code):chkC P { fm with chk:=c } rd n s k=chkC P fm rd n s k:=by
 fun_induction chkC P fm rd n s k<;>simp_all [chkC,zf0,zoY]
theorem zsG(fid:FuncId)(fn:SFn):zaf P { fm with chk:=c } fid fn=zaf P fm fid fn:=by
 unfold zaf
 simp only[zoZ]
end
theorem zsH(g:GOk (M0 fm) w){G:Tbl}(hG:∀ f fn,G f=some fn→zaf P fm (fm f) fn=true){f:Nat}{args:List V}(h:FP G f args (.bool true)){vargs:List Value}(he:EncL (M0 fm) w args vargs) :
  Calls P (fm f) vargs.toArray w fun e w'=>e=.returned (.bool true)∧Below w.heap.size w w':=by
 obtain⟨r',H',hb,hr⟩:=h
 have hr:=zul hr
 subst hr
 obtain⟨fm2,hfm2⟩:∃ fm2:Fm,fm2={ fm with chk:=fun n s c=>chkC P fm true n s c=true }:=⟨_,rfl⟩
 have hck:fm2.chk=fun n s c=>chkC P fm2 true n s c=true:=by
  subst hfm2
  funext n s c
  rw[zoZ]
 have hG2:∀ f fn,G f=some fn→zaf P fm2 (fm2 f) fn=true:=by subst hfm2; exact fun f fn h=>(zsG _ _ _).trans (hG f fn h)
 have hfn:∀ f,fm2 f=fm f:=by subst hfm2; exact fun f=>rfl
 have g2:GOk (M0 fm2) w:=by subst hfm2; exact fun g' cs h=>Enc.free (M1:=M0 fm) (M2:=M0 { fm with chk:=fun n s c=>chkC P fm true n s c=true }) (fun _=>rfl) (fun _ _ rd=>rd) (fun _=>rfl) (g g' cs h)
 have he2:EncL (M0 fm2) w args vargs:=EncL.free (M1:=M0 fm) (M2:=M0 fm2) (fun _=>rfl) (fun _ _ rd=>rd) hfn he
 have:=(sound hck hG2 hb).2 (M0 fm2) w vargs rfl (zAP fm2 w g2) he2
 rw[hfn] at this
 refine this.2.mono ?_
 rintro e w' ⟨rv,M',rfl,hrv,hs,_,_⟩
 simp only[Enc] at hrv
 subst hrv
 refine⟨rfl,hs.os,hs.tape,hs.output,hs.size,fun k hk=>hs.same k hk ?_⟩
 rintro⟨id,hid⟩
 simp[blOf] at hid
end Go.Ev
/- Canonical data of some shapes, as lists of numbers. -/
namespace Go.Ev
open Go Go.RowKit
theorem zsI{n:Int}(h:(Lit.int .u32 n).wf=true):0≤n∧n<4294967296:=by
 simp[Lit.wf,IntKind.min,IntKind.max,IntKind.signed,IntKind.bits] at h
 omega
theorem zv9{P:Program}{tys:List Ty}{ts:List TypeId}(h:(tys.zip ts).all (fun x=>tyIs P x.2 x.1)=true):∀(i:Nat) (ty:Ty) (t:TypeId),tys[i]?=some ty→ts[i]?=some t→tyIs P t ty=true:=by
 intro i ty t h1 h2
 have hm:(ty,t)∈tys.zip ts:=List.mem_of_getElem? (i:=i) (by rw[List.getElem?_zip_eq_some]; exact⟨h1,h2⟩)
 exact(List.all_eq_true.1 h) _ hm
end Go.Ev
/- A global variable whose reading is known: its cells. -/
namespace Go.Ev
open Go Go.RowKit
variable {P:Program} {w:World} {fm:Fm}
def canD{H:Type}:Nat→DataW H→Option (List V)
 | _,.lit (.int k n)=>some [.int k n]
 | _,.lit (.bool b)=>some [.bool b]
 | _,.lit (.string s)=>some [.str s]
 | k+1,.agg ds=>(ds.mapM (canD k)).map List.flatten
 | _,_=>none
section
variable {H:Type} {enc:TypeId×Value→H} {sp:Nat→Bool} {hd:Bool}
mutual
theorem zlv:∀{ty:Ty} {fuel k:Nat} {t:TypeId} {cs:List Value} {d:DataW H} {ps:List MemPlace} {vs:List V},tyIs P t ty=true→DataW.trod enc P w 0 sp hd fuel t cs=some (d,ps)→canD k d=some vs →
  EncL (M0 fm) w vs cs
 | ty,0,k,t,cs,d,ps,vs,_,h,_=>by simp[DataW.trod] at h
 | .int kd,fuel+1,k,t,cs,d,ps,vs,ht,h,hc=>by
  simp only[tyIs] at ht
  have hu:=ze3 ht
  unfold DataW.trod at h
  rw[hu] at h
  split at h<;>try (simp_all; done)
  rename_i k0 k' n hk
  cases hk
  split at h
  case isFalse=>cases h
  rename_i hw
  obtain⟨rfl,hw⟩:=hw
  cases h
  simp only[canD,Option.some.injEq] at hc
  subst hc
  simp[EncL,Enc]
 | .bool,fuel+1,k,t,cs,d,ps,vs,ht,h,hc=>by
  simp only[tyIs] at ht
  have hu:=zf8 ht
  unfold DataW.trod at h
  rw[hu] at h
  split at h<;>simp_all
  rename_i b
  obtain⟨rfl,_⟩:=h
  simp only[canD,Option.some.injEq] at hc
  subst hc
  simp[EncL,Enc]
 | .str,fuel+1,k,t,cs,d,ps,vs,ht,h,hc=>by
  simp only[tyIs] at ht
  have hu:=zbZ ht
  unfold DataW.trod at h
  rw[hu] at h
  split at h<;>simp_all
  rename_i s
  obtain⟨_,rfl,_⟩:=h
  simp only[canD,Option.some.injEq] at hc
  subst hc
  simp[EncL,Enc]
 | .sl e,fuel+1,k,t,cs,d,ps,vs,ht,h,hc=>by
  simp only[tyIs] at ht
  split at ht
  case h_2=>cases ht
  rename_i el hu
  unfold DataW.trod at h
  rw[hu] at h
  split at h<;>try (simp_all; done)
  ·cases h; cases k<;>simp[canD] at hc
  ·rename_i el' a len cap hx
   cases hx
   simp only at h
   split at h
   case isFalse=>cases h
   rw[Option.bind_eq_some_iff] at h
   obtain⟨elems,hel,h⟩:=h
   rw[Option.map_eq_some_iff] at h
   obtain⟨r,_,h⟩:=h
   cases h; cases k<;>simp[canD] at hc
 | .agg fs,fuel+1,k,t,cs,d,ps,vs,ht,h,hc=>by
  simp only[tyIs] at ht
  split at ht
  case h_2=>cases ht
  rename_i gs hu
  unfold DataW.trod at h
  rw[hu] at h
  simp only at h
  split at h
  case isFalse=>cases h
  rename_i hlen
  rw[Option.map_eq_some_iff] at h
  obtain⟨xs,hxs,h⟩:=h
  cases h
  cases k with
  | zero=>simp[canD] at hc
  | succ k =>
   simp only[canD] at hc
   rw[Option.map_eq_some_iff] at hc
   obtain⟨es,hes,rfl⟩:=hc
   simpa using znw (off:=0) ht hxs hlen hes
 | .arr n e,fuel+1,k,t,cs,d,ps,vs,ht,h,hc=>by
  simp only[tyIs] at ht
  split at ht
  case h_2=>cases ht
  rename_i m el hu
  simp only[Bool.and_eq_true,beq_iff_eq] at ht
  obtain⟨⟨rfl,hsz⟩,ht⟩:=ht
  unfold DataW.trod at h
  rw[hu] at h
  simp only at h
  split at h
  case isFalse=>cases h
  rename_i hlen
  rw[Option.map_eq_some_iff] at h
  obtain⟨xs,hxs,h⟩:=h
  cases h
  cases k with
  | zero=>simp[canD] at hc
  | succ k =>
   simp only[canD] at hc
   rw[Option.map_eq_some_iff] at hc
   obtain⟨es,hes,rfl⟩:=hc
   have hl1:=mapM_some_length hxs
   have hl2:=mapM_some_length hes
   simp only[List.length_range,List.length_map] at hl1 hl2
   refine zid (c:=P.cellsOf el) (by rw[hlen,hsz]; congr 1; omega) fun i x hx=>?_
   have hi:i<m:=by have:=(List.getElem?_eq_some_iff.1 hx).1; omega
   have h1:=mapM_some_get hxs i i (by rw[List.getElem?_range hi])
   cases he:xs[i]? with
   | none=>rw[List.getElem?_eq_none_iff] at he; omega
   | some p =>
    rw[he] at h1
    obtain⟨d',p'⟩:=p
    have h2:=mapM_some_get hes i d' (by rw[List.getElem?_map,he]; rfl)
    rw[hx] at h2
    exact zlv ht h1 h2
theorem znw:∀{fs:List Ty} {gs:List Field} {all off fuel k:Nat} {cs:List Value} {xs:List (DataW H×List MemPlace)} {es:List (List V)},zbO P all off gs fs=true →
  (gs.mapM fun f=>DataW.trod enc P w 0 sp hd fuel f.type ((cs.drop f.offset).take (P.cellsOf f.type)))=some xs→cs.length=all→(xs.map (·.1)).mapM (canD k)=some es →
  EncL (M0 fm) w es.flatten (cs.drop off)
 | [],[],all,off,fuel,k,cs,xs,es,hf,h,hl,hc=>by
  simp only[zbO,beq_iff_eq] at hf
  simp at h; subst h
  simp at hc; subst hc
  simp only[List.flatten_nil,EncL]; rw[List.drop_eq_nil_iff]; omega
 | [],_::_,_,_,_,_,_,_,_,hf,_,_,_=>by simp[zbO] at hf
 | _::_,[],_,_,_,_,_,_,_,hf,_,_,_=>by simp[zbO] at hf
 | t::ts,g::gs,all,off,fuel,k,cs,xs,es,hf,h,hl,hc=>by
  simp only[zbO,Bool.and_eq_true,beq_iff_eq] at hf
  obtain⟨⟨hoff,hty⟩,hf⟩:=hf
  rw[List.mapM_cons] at h
  simp only[Option.bind_eq_bind,Option.bind_eq_some_iff] at h
  obtain⟨x,hx,ys,hys,h⟩:=h
  simp only[Option.pure_def,Option.some.injEq] at h
  subst h
  rw[List.map_cons,List.mapM_cons] at hc
  simp only[Option.bind_eq_bind,Option.bind_eq_some_iff] at hc
  obtain⟨a,ha,bs,hbs,hc⟩:=hc
  simp only[Option.pure_def,Option.some.injEq] at hc
  subst hc
  obtain⟨d,p⟩:=x
  have h1:=zlv hty hx ha
  have h2:=znw hf hys hl hbs
  rw[hoff] at h1
  rw[←List.drop_drop] at h2
  rw[List.flatten_cons]
  exact zfX (k:=P.cellsOf g.type) h1 h2
end
end
theorem zwa{n:String}{d:DataW Unit}{g0:Nat}{t0:TypeId}{ty:Ty}{cs:List V}(h:laidMetH P [(n,d)] w)(hp:([(n,d)].all fun x=>x.2.handleName?.isNone)=true)(hg0:P.globalNamed n=some g0)(ht0:(P.globals[g0]?).map (·.type)=some t0)
  (hty:tyIs P t0 ty=true) {k:Nat} (hc:canD k d=some cs) (hpu:∀ c∈cs,c.pure=true) (hfm:∀ g c,fm.gl g=some c→g=g0∧c=cs):GOk (M0 fm) w:=by
 rw[MakeChecks.laidMetH_plain _ _ _ hp] at h
 obtain⟨ps,⟨g,t,cs0,fuel,p,q,hg,ht,hv,hd,_,_⟩,_,_⟩:=h
 obtain rfl:=Option.some.inj (hg0.symm.trans hg)
 obtain rfl:=Option.some.inj (ht0.symm.trans ht)
 have he:=zlv (fm:=fm) hty hd hc
 intro g1 c hgc
 obtain⟨e1,rfl⟩:=hfm g1 c hgc
 rw[e1]
 simp only[Enc]
 refine⟨hpu,_,0,rfl,zcP fun i c' hc'=>?_⟩
 obtain⟨x,hx,hex⟩:=zaR he hc'
 have hcell:=World.var?_cell hg0 hv i
 refine⟨x,?_,fun l hl=>by simp[M0] at hl,hex⟩
 rw[Nat.zero_add,hcell]
 simpa using hx
end Go.Ev
