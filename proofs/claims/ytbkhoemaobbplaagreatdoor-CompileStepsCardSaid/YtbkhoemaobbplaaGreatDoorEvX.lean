/- Runs of simplified code that can be computed. -/
import Derived.Test.YtbkhoemaobbplaaGreatDoorEvIW
set_option linter.defProp false
set_option linter.unusedSimpArgs false
set_option linter.unusedVariables false
open Option renaming some→aaa,map_some→aae
open List renaming all_eq_true→aab
open Bool renaming and_eq_true→aac
namespace Go.Ev
open Go Go.RowKit
mutual
def oL:V->V->Bool
 | .undef,.undef=>true
 | .kD,.kD=>true
 | .any,.any=>true
 | .int k a,.int e b=>decide (k=e)&&a==b
 | .bool a,.bool b=>a==b
 | .str a,.str b=>a==b
 | .nilp,.nilp=>true
 | .ptr a b,.ptr c d=>a==c&&b==d
 | .cptr a,.cptr b=>p7 a b
 | .vs a t,.vs b u=>Lo a b&&decide (t=u)
 | .rs a b c d,.rs h i c' d'=>a==h&&b==i&&c==c'&&d==d'
 | .fn f c,.fn g d=>f==g&&p7 c d
 | .nilf,.nilf=>true
 | .agg a,.agg b=>p7 a b
 | .bc a,.bc b=>p7 a b
 | .mp a,.mp b=>a==b
 | .nilm,.nilm=>true
 | .yld a,.yld b=>a==b
 | .gs a n,.gs b m=>a==b&&n==m
 | _,_=>false
def p7:List V->List V->Bool
 | [],[]=>true
 | a::as,b::c=>oL a b&&p7 as c
 | _,_=>false
def Lo:List (List V)->List (List V)->Bool
 | [],[]=>true
 | a::as,b::c=>p7 a b&&Lo as c
 | _,_=>false
end
mutual
def Lp:∀{a b:V},oL a b=true->a=b
 | .undef,b,h=>by cases b<;>simp[oL] at h;rfl
 | .kD,b,h=>by cases b<;>simp[oL] at h;rfl
 | .any,b,h=>by cases b<;>simp[oL] at h;rfl
 | .int _ _,b,h=>by cases b<;>simp[oL] at h;rw[h.1,h.2]
 | .bool _,b,h=>by cases b<;>simp[oL] at h;rw[h]
 | .str _,b,h=>by cases b<;>simp[oL] at h;rw[h]
 | .nilp,b,h=>by cases b<;>simp[oL] at h;rfl
 | .ptr _ _,b,h=>by cases b<;>simp[oL] at h;rw[h.1,h.2]
 | .cptr _,b,h=>by cases b<;>simp[oL] at h;rw[DU h]
 | .vs _ _,b,h=>by cases b<;>simp[oL] at h;rw[zta h.1,h.2]
 | .rs _ _ _ _,b,h=>by cases b<;>simp[oL] at h;rw[h.1.1.1,h.1.1.2,h.1.2,h.2]
 | .fn _ _,b,h=>by cases b<;>simp[oL] at h;rw[h.1,DU h.2]
 | .nilf,b,h=>by cases b<;>simp[oL] at h;rfl
 | .agg _,b,h=>by cases b<;>simp[oL] at h;rw[DU h]
 | .bc _,b,h=>by cases b<;>simp[oL] at h;rw[DU h]
 | .mp _,b,h=>by cases b<;>simp[oL] at h;rw[h]
 | .nilm,b,h=>by cases b<;>simp[oL] at h;rfl
 | .yld _,b,h=>by cases b<;>simp[oL] at h;rw[h]
 | .gs _ _,b,h=>by cases b<;>simp[oL] at h;rw[h.1,h.2]
def DU:∀{a b:List V},p7 a b=true->a=b
 | [],b,h=>by cases b<;>simp[p7] at h;rfl
 | _::_,b,h=>by cases b<;>simp[p7] at h;rw[Lp h.1,DU h.2]
def zta:∀{a b:List (List V)},Lo a b=true->a=b
 | [],b,h=>by cases b<;>simp[Lo] at h;rfl
 | _::_,b,h=>by cases b<;>simp[Lo] at h;rw[DU h.1,zta h.2]
end
def IQ:List (V×V)->List (V×V)->Bool
 | [],[]=>true
 | a::as,b::c=>oL a.1 b.1&&oL a.2 b.2&&IQ as c
 | _,_=>false
def zxO:∀{a b:List (V×V)},IQ a b=true->a=b
 | [],b,h=>by cases b<;>simp[IQ] at h;rfl
 | (c,d)::as,b,h=>by
  cases b with
  | nil=>simp[IQ] at h
  | cons b e =>
   obtain⟨f,g⟩:=b;simp[IQ] at h;rw[Lp h.1.1,Lp h.1.2,zxO h.2]
def vm:Option aw->Option aw->Bool
 | none,none=>true
 | some (.cells a),some (.cells b)=>p7 a b
 | some (.zone a),some (.zone b)=>a==b
 | some (.iJ a),some (.iJ b)=>p7 a b
 | some (.map a),some (.map b)=>IQ a b
 | some (.dg a i),some (.dg b j)=>a==b&&i==j
 | _,_=>false
def Vf{a b:Option aw}(h:vm a b=true):a=b:=by
 cases a with
 | none=>cases b<;>simp[vm] at h;rfl
 | some a =>
  cases b with
  | none=>cases a<;>simp[vm] at h
  | some b =>
   cases a<;>cases b<;>simp[vm] at h
   ·rw[DU h]
   ·rw[h]
   ·rw[DU h]
   ·rw[zxO h]
   ·rw[h.1,h.2]
def xK:ae->ae->Bool
 | [],[]=>true
 | a::as,b::c=>vm a b&&xK as c
 | _,_=>false
def Vg:∀{a b:ae},xK a b=true->a=b
 | [],b,h=>by cases b<;>simp[xK] at h;rfl
 | _::_,b,h=>by cases b<;>simp[xK] at h;rw[Vf h.1,Vg h.2]
inductive In where
 | F (f:Nat) (args:List V) (H:ae)
 | S (base:Nat) (o:aC) (e:Env) (H:ae)
 | O (base:Nat) (os:List aC) (e:Env) (H:ae)
 | C (c:aY) (e:Env) (H:ae)
 | L (n:Nat) (l:List Nat) (c:aY) (e:Env) (H:ae)
inductive Out where
 | F (r:V) (H:ae)
 | E (e:Env) (H:ae)
 | C (x:Ex) (e:Env) (H:ae)
def AU(G:aN):In->Out->Prop
 | .F f b H,.F r H'=>bp G (.F f b H r H')
 | .S a o e H,.E e' H'=>bp G (.S a o e H e' H')
 | .O a d e H,.E e' H'=>bp G (.O a d e H e' H')
 | .C c e H,.C x e' H'=>bp G (.C c e H x e' H')
 | .L n l c e H,.C x e' H'=>bp G (.L n l c e H x e' H')
 | _,_=>False
def Lq:Option (Option aw)->Option (Option aw)->Bool
 | some a,some b=>vm a b
 | none,none=>true
 | _,_=>false
def zuZ(e:Env)(rs:List Nat)(H H1:ae):Bool:=rs.all fun r=>match(e r).ptrId? with|some id=>Lq H1[id]? H[id]?|none=>true
def zwk{e:Env}{rs:List Nat}{H H1:ae}(h:zuZ e rs H H1=true):Ie e rs H H1:=by
 intro r f id g;have:=aab.1 h r f;simp only[g] at this;unfold Lq at this;split at this
 ·rename_i a b c d;rw[c,d,Vf this]
 ·rename_i c d;rw[c,d]
 ·cases this
def zR(n:Nat):List (Nat×V)->Bool
 | []=>true
 | (_,v)::l=>oL (v.cl n) v&&zR n l
def Vh(n:Nat):∀{l:List (Nat×V)},zR n l=true->l.map (fun p=>(p.1,p.2.cl n))=l
 | [],_=>rfl
 | (i,v)::l,h=>by
  simp only[zR,aac] at h;simp only[List.map_cons,Lp h.1,Vh n h.2]
def Vi(n:Nat):Option aw->Bool
 | some (.loop e _ _ _ .ready)=>zR n e
 | some (.loop e _ _ _ .busy)=>zR n e
 | b=>vm (b.map (aw.cl n)) b
def zDO(n:Nat){b:Option aw}(h:Vi n b=true):b.map (aw.cl n)=b:=by
 unfold Vi at h;split at h
 ·simp only[aae,aw.cl,Vh n h]
 ·simp only[aae,aw.cl,Vh n h]
 ·exact Vf h
def Vj(base:Nat)(args:List V)(H H':ae):Bool:=args.all (fun v=>oL (v.cl base) v)&&H.all (Vi base)&&xK (H'.drop base) (H.drop base)
def zxP{base:Nat}{args:List V}{H H':ae}(h:Vj base args H H'=true):Ks base args H H':=by
 simp only[Vj,aac,aab] at h;refine⟨fun v a=>Lp (h.1.1 v a),?_,Vg h.2⟩
 conv=>rhs;rw[<-List.map_id H]
 exact List.map_congr_left fun b c=>zDO base (h.1.2 b c)
def Lr:List (V×V)->Option (List (List UInt8×Int))
 | []=>some []
 | (.str s,.int .u32 n)::l=>(Lr l).map ((s,n)::·)
 | _=>none
def Gg:Nat->List V->ae->Option V
 | 0,[.mp id,.int .u32 n],H=>match H[id]? with
  | some (some (.map a))=>match Lr a with
   | some l=>if(l.map (·.2)).Nodup then some (.str (((l.find? fun p=>p.2==n).map (·.1)).getD [])) else none
   | none=>none
  | _=>none
 | 0,[.nilm,.int .u32 _],_=>some (.str [])
 | _,_,_=>none
def zrh:∀{es:List (V×V)} {l:List (List UInt8×Int)},Lr es=some l->es=l.map fun p=>(V.str p.1,V.int .u32 p.2)
 | [],l,h=>by simp only[Lr,aaa.injEq] at h;subst h;rfl
 | (k,v)::es,l,h=>by
  unfold Lr at h;split at h
  ·rename_i a;cases a
  ·rename_i s n c a;cases a;rw[Option.map_eq_some_iff] at h;obtain⟨d,b,rfl⟩:=h;rw[zrh b];rfl
  ·cases h
def zB6{k:Nat}{args:List V}{H:ae}{r:V}(h:Gg k args H=some r):xl k args H r H:=by
 unfold Gg at h;split at h
 ·split at h
  ·rename_i a;split at h
   ·rename_i l b;split at h
    ·rename_i c;cases h;rw[zrh b] at a;exact⟨rfl,l,a,c,rfl⟩
    ·cases h
   ·cases h
  ·cases h
 ·cases h;exact⟨rfl,rfl⟩
 ·cases h
def Lt(fn:aJ)(args:List V)(H:ae):Option Out:=match fn.body with
 | .nat k=>match Gg k args H with
  | some r=>some (.F r H)
  | none=>none
 | _=>none
def r7(G:aN)(d:In->Option Out):In->Option Out
 | .F f j H=>match G f with
  | some fn=>if j.length<=fn.nt then
    match d (.C fn.body (Kr j) H) with
    | some (.C x e' H')=>match x with
     | .exit _=>none
     | _=>match tN e' H' fn.res with
      | some vs=>some (.F (tO vs) H')
      | none=>none
    | _=>none
   else Lt fn j H
  | none=>none
 | .S h o e H=>match wanted e o with
  | some true=>match o.op with
   | .pcall f xs=>match d (.F f (xk (xs.map (X.ev e))) []) with
    | some (.F r H1)=>some (.E (e.put o.dst (tM H1 r).out) H)
    | _=>none
   | .scall f xs=>match d (.F f (xs.map (X.ev e)) H) with
    | some (.F r H1)=>some (.E (e.put o.dst (r.cl H.length)) (ai H.length H1))
    | _=>none
   | .scallA rs f xs=>match d (.F f (xs.map (X.ev e)) H) with
    | some (.F r H1)=>if zuZ e rs H (ai H.length H1)=true then some (.E (e.put o.dst (r.cl H.length)) (ai H.length H1)) else none
    | _=>none
   | .scallE f xs=>match d (.F f (xs.map (X.ev e)) H) with
    | some (.F r H1)=>if Vj h (xs.map (X.ev e)) H (ai H.length H1)=true then some (.E (e.put o.dst (r.cl H.length)) (ai H.length H1)) else none
    | _=>none
   | .kcall true _ _=>none
   | .kcall false f xs=>match d (.F f (xs.map (X.ev e)) H) with
    | some (.F r H1)=>some (.E (e.put o.dst r) H1)
    | _=>none
   | .vcall w y xs=>match y.ev e with
    | .fn f k=>match d (.F f (xs.map (X.ev e)++k) H) with
     | some (.F r H1)=>if !w||xK (ai H.length H1) H then some (.E (e.put o.dst (r.cl H.length)) (ai H.length H1)) else none
     | _=>none
    | .yld id=>match w with
     | true=>none
     | false=>match H[id]? with
      | some (some (.loop z p as bo .ready))=>if xs.length=p.length then
        match d (.C as (qJ p (xs.map (X.ev e)) (fU z)) H) with
        | some (.C .nx i H1)=>match H1[id]? with
         | some (some (.loop A B D I .ready))=>match d (.C bo i (H1.set id (some (.loop A B D I .busy)))) with
          | some (.C x P H2)=>match H2[id]? with
           | some (some (.loop J K M N .busy))=>some (.E (e.put o.dst (.bool (decide (x=.nx)))) (ai H.length (H2.set id (some (.loop J K M N (if x=.nx then .ready else .done x))))))
           | _=>none
          | _=>none
         | _=>none
        | _=>none
       else none
      | _=>none
    | _=>none
   | op=>match aU h e H op with
    | some (v,H1)=>some (.E (e.put o.dst v) H1)
    | none=>none
  | some false=>some (.E (e.put o.dst .kD) H)
  | none=>none
 | .O h q e H=>match q with
  | []=>some (.E e H)
  | o::q=>match d (.S h o e H) with
   | some (.E i H1)=>d (.O h q i H1)
   | _=>none
 | .C c e H=>match c with
  | .skip=>some (.C .nx e H)
  | .region m s=>match d (.O H.length s e (H++List.replicate m none)) with
   | some (.E i H1)=>some (.C .nx i H1)
   | _=>none
  | .seq a b=>match d (.C a e H) with
   | some (.C x i H1)=>match x with
    | .nx=>d (.C b i H1)
    | x=>some (.C x i H1)
   | _=>none
  | .cond c a b=>match c.ev e with
   | .bool t=>match t with
    | true=>d (.C a e H)
    | false=>d (.C b e H)
   | _=>none
  | .block id c=>match d (.C c e H) with
   | some (.C x i H1)=>some (.C (if x=.exit id then .nx else x) i H1)
   | _=>none
  | .loop l c=>d (.L H.length l c e H)
  | .exit id=>some (.C (.exit id) e H)
  | .ret=>some (.C .ret e H)
  | .keep l=>some (.C .nx (mX l e) H)
  | .give t u=>match BP e H t u with
   | some (i,H1)=>some (.C .nx i H1)
   | none=>none
  | .freeze t=>match DA e H t with
   | some (i,H1)=>some (.C .nx i H1)
   | none=>none
  | .nat _=>none
  | .ga g l p as bo=>match g.ev e with
   | .fn f k=>match d (.F f (.yld H.length::k) (H++[some (.loop (look e l) p as bo .ready)])) with
    | some (.F _ H1)=>match H1[H.length]? with
     | some (some (.loop _ _ _ _ .ready))=>some (.C .nx e (ai H.length H1))
     | some (some (.loop _ _ _ _ (.done x)))=>match x with
      | .nx=>none
      | x=>some (.C x e (ai H.length H1))
     | _=>none
    | _=>none
   | _=>none
 | .L n l c e H=>match d (.C c ((mX l e).cl n) (ai n H)) with
  | some (.C x i H1)=>match x with
   | .nx=>d (.L n l c i H1)
   | x=>some (.C x i H1)
  | _=>none
def exec(G:aN):Nat->In->Option Out
 | 0,_=>none
 | k+1,i=>r7 G (exec G k) i
def zun{G:aN}{E:In->Option Out}(j:∀ i o,E i=some o->AU G i o):∀ i o,r7 G E i=some o->AU G i o:=by
 intro i o h
 cases i with
 | F f I H =>
  simp only[r7] at h;split at h
  case h_2=>cases h
  rename_i fn w;split at h
  case isFalse =>
   unfold Lt at h;split at h
   ·rename_i k P;split at h
    ·rename_i r Q;cases h;exact bp.nat w P (zB6 Q)
    ·cases h
   ·cases h
  rename_i z;split at h
  case h_2=>cases h
  rename_i x e' H' d;have d:=j _ _ d;simp only[AU] at d;split at h
  ·cases h
  rename_i u;split at h
  case h_2=>cases h
  rename_i vs R;cases h;refine bp.fn w z d ?_ R
  cases x with
  | nx=>exact .inl rfl
  | ret=>exact .inr rfl
  | exit k=>exact absurd rfl (u k)
 | S y o e H =>
  simp only[r7] at h;split at h
  case h_3=>cases h
  ·rename_i s;split at h
   ·rename_i f xs q;split at h
    case h_2=>cases h
    rename_i r H1 d;cases h;exact bp.pcall s q (j _ _ d)
   ·rename_i f xs q;split at h
    case h_2=>cases h
    rename_i r H1 d;cases h;exact bp.scall s q (j _ _ d)
   ·rename_i rs f xs q;split at h
    case h_2=>cases h
    rename_i r H1 d;split at h
    case isFalse=>cases h
    rename_i A;cases h;exact bp.scallA s q (j _ _ d) (zwk A)
   ·rename_i f xs q;split at h
    case h_2=>cases h
    rename_i r H1 d;split at h
    case isFalse=>cases h
    rename_i A;cases h;exact bp.scallE s q (j _ _ d) (zxP A)
   ·cases h
   ·rename_i f xs q;split at h
    case h_2=>cases h
    rename_i r H1 d;cases h;exact bp.kcall s q (j _ _ d) (fun h=>by cases h)
   ·rename_i ro fx xs q;split at h
    case h_3=>cases h
    ·rename_i f B D;split at h
     case h_2=>cases h
     rename_i r H1 d;split at h
     case isFalse=>cases h
     rename_i J;cases h
     exact bp.vcall s q D (j _ _ d) (fun h=>by
      subst h;simp only[Bool.not_true,Bool.false_or] at J
      exact Vg J)
    ·rename_i id D;split at h
     ·cases h
     split at h
     case h_2=>cases h
     rename_i d;split at h
     case isFalse=>cases h
     rename_i z;split at h
     case h_2=>cases h
     rename_i T;split at h
     case h_2=>cases h
     rename_i U;split at h
     case h_2=>cases h
     rename_i V;split at h
     case h_2=>cases h
     rename_i W;cases h;exact bp.ju s q D d z (j _ _ T) U (j _ _ V) W
   ·split at h
    case h_2=>cases h
    rename_i v H1 X;cases h;exact bp.ev s X
  ·rename_i s;cases h
   exact bp.skip s
 | O y os e H =>
  simp only[r7] at h;split at h
  ·cases h;exact bp.nil
  ·split at h
   case h_2=>cases h
   rename_i K H1 d;have p:=j _ _ h
   cases o<;>simp only[AU] at p
   exact bp.cons (j _ _ d) p
 | C c e H =>
  cases c with
  | skip=>simp only[r7,aaa.injEq] at h;subst h;exact bp.za
  | nat k=>simp[r7] at h
  | region m Y =>
   simp only[r7] at h;split at h
   case h_2=>cases h
   rename_i d;cases h;exact bp.region (j _ _ d)
  | seq a b =>
   simp only[r7] at h;split at h
   case h_2=>cases h
   rename_i x K H1 d;split at h
   ·have p:=j _ _ h
    cases o<;>simp only[AU] at p
    exact bp.BQ (j _ _ d) p
   ·rename_i u;cases h
    exact bp.zd (j _ _ d) (fun h=>u h)
  | cond c a b =>
   simp only[r7] at h;split at h
   case h_2=>cases h
   rename_i t M;split at h
   ·have p:=j _ _ h
    cases o<;>simp only[AU] at p
    exact bp.cond M p
   ·have p:=j _ _ h
    cases o<;>simp only[AU] at p
    exact bp.cond M p
  | block id c =>
   simp only[r7] at h;split at h
   case h_2=>cases h
   rename_i d;cases h;exact bp.block (j _ _ d)
  | loop l c =>
   simp only[r7] at h;have p:=j _ _ h
   cases o<;>simp only[AU] at p
   exact bp.loop p
  | exit id=>simp only[r7,aaa.injEq] at h;subst h;exact bp.exit
  | ret=>simp only[r7,aaa.injEq] at h;subst h;exact bp.ret
  | keep l=>simp only[r7,aaa.injEq] at h;subst h;exact bp.keep
  | give t Z =>
   simp only[r7] at h;split at h
   case h_2=>cases h
   rename_i d;cases h;exact bp.give d
  | freeze t =>
   simp only[r7] at h;split at h
   case h_2=>cases h
   rename_i d;cases h;exact bp.freeze d
  | ga g l ps as bo =>
   simp only[r7] at h;split at h
   case h_2=>cases h
   rename_i f B N;split at h
   case h_2=>cases h
   rename_i w;split at h
   case h_3=>cases h
   ·rename_i d;cases h;exact bp.ga N (j _ _ w) d (.inl ⟨rfl,rfl⟩)
   ·rename_i d;split at h
    ·cases h
    ·rename_i u;cases h
     exact bp.ga N (j _ _ w) d (.inr ⟨rfl,fun h=>u h⟩)
 | L n l c e H =>
  simp only[r7] at h;split at h
  case h_2=>cases h
  rename_i x K H1 d;split at h
  ·have p:=j _ _ h
   cases o<;>simp only[AU] at p
   exact bp.round (j _ _ d) p
  ·rename_i u;cases h;exact bp.last (j _ _ d) (fun h=>u h)
def zpv{G:aN}:∀(k:Nat) (i:In) (o:Out),exec G k i=some o->AU G i o
 | 0,_,_,h=>by simp[exec] at h
 | k+1,i,o,h=>zun (zpv k) i o h
def Vk(G:aN)(k f:Nat)(args:List V)(b:Bool):Bool :=
 match exec G k (.F f args []) with
 | some (.F (.bool c) _)=>c==b
 | _=>false
def zDP{G:aN}{k f:Nat}{args:List V}{b:Bool}(h:Vk G k f args b=true):FP G f args (.bool b):=by
 unfold Vk at h;split at h
 ·rename_i c H' a;simp only[beq_iff_eq] at h;subst h;exact⟨_,_,zpv k _ _ a,rfl⟩
 ·cases h
end Go.Ev
