/- Runs of simplified code that can be computed. -/
import Derived.Test.YtbkhoemaobbplaaGreatDoorEvIW
import Derived.Test.YtbkhoemaobbplaaGreatDoorEvWinCW
set_option linter.defProp false
set_option linter.unusedSimpArgs false
set_option linter.unusedVariables false
set_option maxHeartbeats 4000000
set_option maxRecDepth 10000
open Int renaming natCast_add→aaa,natCast_pow→aae,natCast_emod→aaq,natCast_ediv→aau,natCast_mul→aaX,fdiv_eq_ediv_of_nonneg→ab9,not_le→acA,natCast_nonneg→acJ,toNat_natCast→acO
open Nat renaming le_of_ble_eq_true→aab,pow_le_pow_right→aal,lt_of_lt_of_le→aat,lt_of_le_of_lt→aaw,div_le_self→aaE,eq_of_testBit_eq→aaF,mod_eq_of_lt→aaI,testBit_lt_two_pow→aaJ,pow_lt_pow_right→aaL,testBit_two_pow_mul_add→aaM,mod_lt→aa6,pow_succ→aba,xor_lt_two_pow→abd,and_two_pow_sub_one_eq_mod→abe,le_refl→abi,two_pow_add_eq_or_of_lt→abl,two_pow_pos→abB,add_comm→abD,mul_comm→abE,testBit_mod_two_pow→abI,testBit_div_two_pow→abJ,testBit_succ→abP,testBit_eq_decide_div_mod_eq→abQ,min_eq_left→abU,testBit_two_pow→ab3,lt_pow_two_of_testBit→acb,lt_or_ge→acd,and_le_left→acp,div_div_eq_div_mul→acu,mul_le_mul_right→acz,mul_assoc→acC,and_lt_two_pow→acH,eq_or_lt_of_le→acK,or_lt_two_pow→acM,or_comm→acP,div_add_mod→acU,testBit_and→acV,mul_zero→acZ,add_zero→ac0,sub_self→ac1,zero_add→ac2,one_mul→ac3
open List renaming getElem?_eq_getElem→aad,mem_cons→aah,getElem_mem→aam,getD_eq_getElem?_getD→aan,pairwise_cons→aap,length_cons→aav,getElem?_append_left→aax,getElem?_eq_some_iff→aaz,drop_eq_getElem_cons→aaB,replicate→aaD,mem_singleton→aaG,take_add_one→aaK,length_pos_iff→aaQ,range→aaT,not_mem_nil→aaU,getElem?_eq_none→aaV,length_append→aaW,mem_append→aaY,mem_of_mem_drop→aaZ,getElem?_set_ne→aa0,set_append_left→aa2,length_take→aa3,take_of_length_le→aa5,getElem?_append_right→aa7,getElem?_set→aa8,reduceReplicate→aa9,mem_of_mem_take→aa_,range_succ→abh,drop_eq_nil_of_le→abk,getD→abm,mem_iff_getElem→abn,length_drop→abr,take_length→abv,map_cons→abx,pairwise_iff_getElem→abA,getLast?_eq_getElem?→abC,getElem?_cons_succ→abH,ext_getElem?→abK,getElem?_set_self→abO,mem_map→abS,drop_eq_nil_iff→abZ,mem_of_getElem?→ab0,length_set→ab1,replicate_succ→ab4,drop_length_add_append→ab5,length_eraseIdx_of_lt→ab7,cons_append→ace,getElem?_cons_zero→acg,getElem?_replicate→ach,length_eq_zero_iff→aci,length_nil→acj,map_append→ack,pairwise_lt_range→acr,getElem?_eraseIdx→acs,length_replicate→acx,drop_drop→acy,drop_succ_cons→acE,find?_eq_none→acF,filter_append→acI,flatten_cons→acL,append_assoc→acN,all_eq_true→acQ,nil_sublist→acR,any_eq_true→acS,ext_getElem→acT,mem_range→acW,map_drop→acY
open Bool renaming and_eq_true→aay,eq_iff_iff→aaA,false_eq_true→aaH,not_eq_true→abt,true_and→abz,false_and→acv,and_true→acD
open Option renaming some→aaS,map_eq_some_iff→aa4,map_some→abc,getD_some→abq,map→abG,toList→ab_,toList_some→acG
open BitVec renaming ofInt→abb,ofNat→abF,toNat_ofNat→ab6,getLsbD_ofNat→acB
open Function renaming comp_def→aca
open Prod renaming mk→acX
namespace Go.Ev
open Go Go.RowKit
mutual
def pO:V->V->Bool
 | .undef,.undef=>true
 | .mh,.mh=>true
 | .any,.any=>true
 | .int k a,.int e b=>decide (k=e)&&a==b
 | .bool a,.bool b=>a==b
 | .str a,.str b=>a==b
 | .nilp,.nilp=>true
 | .ptr a b,.ptr c d=>a==c&&b==d
 | .cptr a,.cptr b=>rm a b
 | .vs a t,.vs b u=>N5 a b&&decide (t=u)
 | .rs a b c d,.rs h i c' d'=>a==h&&b==i&&c==c'&&d==d'
 | .fn f c,.fn g d=>f==g&&rm c d
 | .nilf,.nilf=>true
 | .agg a,.agg b=>rm a b
 | .a_ a,.a_ b=>rm a b
 | .mp a,.mp b=>a==b
 | .nilm,.nilm=>true
 | .yld a,.yld b=>a==b
 | .gs a n,.gs b m=>a==b&&n==m
 | _,_=>false
def rm:List V->List V->Bool
 | [],[]=>true
 | a::as,b::c=>pO a b&&rm as c
 | _,_=>false
def N5:List (List V)->List (List V)->Bool
 | [],[]=>true
 | a::as,b::c=>rm a b&&N5 as c
 | _,_=>false
end
mutual
def KR:∀{a b:V},pO a b=true->a=b
 | .undef,b,h=>by cases b<;>simp[pO] at h;rfl
 | .mh,b,h=>by cases b<;>simp[pO] at h;rfl
 | .any,b,h=>by cases b<;>simp[pO] at h;rfl
 | .int _ _,b,h=>by cases b<;>simp[pO] at h;rw[h.1,h.2]
 | .bool _,b,h=>by cases b<;>simp[pO] at h;rw[h]
 | .str _,b,h=>by cases b<;>simp[pO] at h;rw[h]
 | .nilp,b,h=>by cases b<;>simp[pO] at h;rfl
 | .ptr _ _,b,h=>by cases b<;>simp[pO] at h;rw[h.1,h.2]
 | .cptr _,b,h=>by cases b<;>simp[pO] at h;rw[F3 h]
 | .vs _ _,b,h=>by cases b<;>simp[pO] at h;rw[zu2 h.1,h.2]
 | .rs _ _ _ _,b,h=>by cases b<;>simp[pO] at h;rw[h.1.1.1,h.1.1.2,h.1.2,h.2]
 | .fn _ _,b,h=>by cases b<;>simp[pO] at h;rw[h.1,F3 h.2]
 | .nilf,b,h=>by cases b<;>simp[pO] at h;rfl
 | .agg _,b,h=>by cases b<;>simp[pO] at h;rw[F3 h]
 | .a_ _,b,h=>by cases b<;>simp[pO] at h;rw[F3 h]
 | .mp _,b,h=>by cases b<;>simp[pO] at h;rw[h]
 | .nilm,b,h=>by cases b<;>simp[pO] at h;rfl
 | .yld _,b,h=>by cases b<;>simp[pO] at h;rw[h]
 | .gs _ _,b,h=>by cases b<;>simp[pO] at h;rw[h.1,h.2]
def F3:∀{a b:List V},rm a b=true->a=b
 | [],b,h=>by cases b<;>simp[rm] at h;rfl
 | _::_,b,h=>by cases b<;>simp[rm] at h;rw[KR h.1,F3 h.2]
def zu2:∀{a b:List (List V)},N5 a b=true->a=b
 | [],b,h=>by cases b<;>simp[N5] at h;rfl
 | _::_,b,h=>by cases b<;>simp[N5] at h;rw[F3 h.1,zu2 h.2]
end
def KS:List (V×V)->List (V×V)->Bool
 | [],[]=>true
 | a::as,b::c=>pO a.1 b.1&&pO a.2 b.2&&KS as c
 | _,_=>false
def zAm:∀{a b:List (V×V)},KS a b=true->a=b
 | [],b,h=>by cases b<;>simp[KS] at h;rfl
 | (c,d)::as,b,h=>by
  cases b with
  | nil=>simp[KS] at h
  | cons b e =>
   obtain⟨f,g⟩:=b;simp[KS] at h;rw[KR h.1.1,KR h.1.2,zAm h.2]
def xb:Option aw->Option aw->Bool
 | none,none=>true
 | some (.cells a),some (.cells b)=>rm a b
 | some (.zone a),some (.zone b)=>a==b
 | some (.jr a),some (.jr b)=>rm a b
 | some (.map a),some (.map b)=>KS a b
 | some (.dE a i),some (.dE b j)=>a==b&&i==j
 | _,_=>false
def Yf{a b:Option aw}(h:xb a b=true):a=b:=by
 cases a with
 | none=>cases b<;>simp[xb] at h;rfl
 | some a =>
  cases b with
  | none=>cases a<;>simp[xb] at h
  | some b =>
   cases a<;>cases b<;>simp[xb] at h
   ·rw[F3 h]
   ·rw[h]
   ·rw[F3 h]
   ·rw[zAm h]
   ·rw[h.1,h.2]
def zo:ae->ae->Bool
 | [],[]=>true
 | a::as,b::c=>xb a b&&zo as c
 | _,_=>false
def Yg:∀{a b:ae},zo a b=true->a=b
 | [],b,h=>by cases b<;>simp[zo] at h;rfl
 | _::_,b,h=>by cases b<;>simp[zo] at h;rw[Yf h.1,Yg h.2]
inductive In where
 | F (f:Nat) (args:List V) (H:ae)
 | S (base:Nat) (o:aD) (e:Env) (H:ae)
 | O (base:Nat) (os:List aD) (e:Env) (H:ae)
 | C (c:bc) (e:Env) (H:ae)
 | L (n:Nat) (l:List Nat) (c:bc) (e:Env) (H:ae)
inductive Out where
 | F (r:V) (H:ae)
 | E (e:Env) (H:ae)
 | C (x:Ex) (e:Env) (H:ae)
def CF(G:aM):In->Out->Prop
 | .F f b H,.F r H'=>bA G (.F f b H r H')
 | .S a o e H,.E e' H'=>bA G (.S a o e H e' H')
 | .O a d e H,.E e' H'=>bA G (.O a d e H e' H')
 | .C c e H,.C x e' H'=>bA G (.C c e H x e' H')
 | .L n l c e H,.C x e' H'=>bA G (.L n l c e H x e' H')
 | _,_=>False
def N6:Option (Option aw)->Option (Option aw)->Bool
 | some a,some b=>xb a b
 | none,none=>true
 | _,_=>false
def zxc(e:Env)(rs:List Nat)(H H1:ae):Bool:=rs.all fun r=>match(e r).ptrId? with|some id=>N6 H1[id]? H[id]?|none=>true
def zyJ{e:Env}{rs:List Nat}{H H1:ae}(h:zxc e rs H H1=true):Kh e rs H H1:=by
 intro r f id g;have:=acQ.1 h r f;simp only[g] at this;unfold N6 at this;split at this
 ·rename_i a b c d;rw[c,d,Yf this]
 ·rename_i c d;rw[c,d]
 ·cases this
def Bs(n:Nat):List (Nat×V)->Bool
 | []=>true
 | (_,v)::l=>pO (v.cl n) v&&Bs n l
def Yh(n:Nat):∀{l:List (Nat×V)},Bs n l=true->l.map (fun p=>(p.1,p.2.cl n))=l
 | [],_=>rfl
 | (i,v)::l,h=>by
  simp only[Bs,aay] at h;simp only[abx,KR h.1,Yh n h.2]
def Yi(n:Nat):Option aw->Bool
 | some (.loop e _ _ _ .ready)=>Bs n e
 | some (.loop e _ _ _ .busy)=>Bs n e
 | b=>xb (b.map (aw.cl n)) b
def zGS(n:Nat){b:Option aw}(h:Yi n b=true):b.map (aw.cl n)=b:=by
 unfold Yi at h;split at h
 ·simp only[abc,aw.cl,Yh n h]
 ·simp only[abc,aw.cl,Yh n h]
 ·exact Yf h
def Yj(base:Nat)(args:List V)(H H':ae):Bool:=args.all (fun v=>pO (v.cl base) v)&&H.all (Yi base)&&zo (H'.drop base) (H.drop base)
def zAn{base:Nat}{args:List V}{H H':ae}(h:Yj base args H H'=true):M6 base args H H':=by
 simp only[Yj,aay,acQ] at h;refine⟨fun v a=>KR (h.1.1 v a),?_,Yg h.2⟩
 conv=>rhs;rw[<-List.map_id H]
 exact List.map_congr_left fun b c=>zGS base (h.1.2 b c)
def N7:List (V×V)->Option (List (List UInt8×Int))
 | []=>some []
 | (.str s,.int .u32 n)::l=>(N7 l).map ((s,n)::·)
 | _=>none
def Ip:Nat->List V->ae->Option V
 | 0,[.mp id,.int .u32 n],H=>match H[id]? with
  | some (some (.map a))=>match N7 a with
   | some l=>if(l.map (·.2)).Nodup then some (.str (((l.find? fun p=>p.2==n).map (·.1)).getD [])) else none
   | none=>none
  | _=>none
 | 0,[.nilm,.int .u32 _],_=>some (.str [])
 | _,_,_=>none
def zs4:∀{es:List (V×V)} {l:List (List UInt8×Int)},N7 es=some l->es=l.map fun p=>(V.str p.1,V.int .u32 p.2)
 | [],l,h=>by simp only[N7,aaS.injEq] at h;subst h;rfl
 | (k,v)::es,l,h=>by
  unfold N7 at h;split at h
  ·rename_i a;cases a
  ·rename_i s n c a;cases a;rw[aa4] at h;obtain⟨d,b,rfl⟩:=h;rw[zs4 b];rfl
  ·cases h
def zFd{k:Nat}{args:List V}{H:ae}{r:V}(h:Ip k args H=some r):y8 k args H r H:=by
 unfold Ip at h;split at h
 ·split at h
  ·rename_i a;split at h
   ·rename_i l b;split at h
    ·rename_i c;cases h;rw[zs4 b] at a;exact⟨rfl,l,a,c,rfl⟩
    ·cases h
   ·cases h
  ·cases h
 ·cases h;exact⟨rfl,rfl⟩
 ·cases h
def N8(fn:aI)(args:List V)(H:ae):Option Out:=match fn.body with
 | .nat k=>match Ip k args H with
  | some r=>some (.F r H)
  | none=>none
 | _=>none
def ue(G:aM)(d:In->Option Out):In->Option Out
 | .F f j H=>match G f with
  | some fn=>if j.length<=fn.nt then
    match d (.C fn.body (M5 j) H) with
    | some (.C x e' H')=>match x with
     | .exit _=>none
     | _=>match vm e' H' fn.res with
      | some vs=>some (.F (vn vs) H')
      | none=>none
    | _=>none
   else N8 fn j H
  | none=>none
 | .S h o e H=>match wanted e o with
  | some true=>match o.op with
   | .pcall f xs=>match d (.F f (y7 (xs.map (X.ev e))) []) with
    | some (.F r H1)=>some (.E (e.put o.dst (uN H1 r).out) H)
    | _=>none
   | .scall f xs=>match d (.F f (xs.map (X.ev e)) H) with
    | some (.F r H1)=>some (.E (e.put o.dst (r.cl H.length)) (aj H.length H1))
    | _=>none
   | .scallA rs f xs=>match d (.F f (xs.map (X.ev e)) H) with
    | some (.F r H1)=>if zxc e rs H (aj H.length H1)=true then some (.E (e.put o.dst (r.cl H.length)) (aj H.length H1)) else none
    | _=>none
   | .scallE f xs=>match d (.F f (xs.map (X.ev e)) H) with
    | some (.F r H1)=>if Yj h (xs.map (X.ev e)) H (aj H.length H1)=true then some (.E (e.put o.dst (r.cl H.length)) (aj H.length H1)) else none
    | _=>none
   | .kcall true _ _=>none
   | .kcall false f xs=>match d (.F f (xs.map (X.ev e)) H) with
    | some (.F r H1)=>some (.E (e.put o.dst r) H1)
    | _=>none
   | .vcall w y xs=>match y.ev e with
    | .fn f k=>match d (.F f (xs.map (X.ev e)++k) H) with
     | some (.F r H1)=>if !w||zo (aj H.length H1) H then some (.E (e.put o.dst (r.cl H.length)) (aj H.length H1)) else none
     | _=>none
    | .yld id=>match w with
     | true=>none
     | false=>match H[id]? with
      | some (some (.loop z p as bo .ready))=>if xs.length=p.length then
        match d (.C as (rZ p (xs.map (X.ev e)) (ib z)) H) with
        | some (.C .nx i H1)=>match H1[id]? with
         | some (some (.loop A B D I .ready))=>match d (.C bo i (H1.set id (some (.loop A B D I .busy)))) with
          | some (.C x P H2)=>match H2[id]? with
           | some (some (.loop J K M N .busy))=>some (.E (e.put o.dst (.bool (decide (x=.nx)))) (aj H.length (H2.set id (some (.loop J K M N (if x=.nx then .ready else .done x))))))
           | _=>none
          | _=>none
         | _=>none
        | _=>none
       else none
      | _=>none
    | _=>none
   | op=>match aV h e H op with
    | some (v,H1)=>some (.E (e.put o.dst v) H1)
    | none=>none
  | some false=>some (.E (e.put o.dst .mh) H)
  | none=>none
 | .O h q e H=>match q with
  | []=>some (.E e H)
  | o::q=>match d (.S h o e H) with
   | some (.E i H1)=>d (.O h q i H1)
   | _=>none
 | .C c e H=>match c with
  | .skip=>some (.C .nx e H)
  | .region m s=>match d (.O H.length s e (H++aaD m none)) with
   | some (.E i H1)=>some (.C .nx i H1)
   | _=>none
  | .seq a b=>match d (.C a e H) with
   | some (.C x i H1)=>match x with
    | .nx=>d (.C b i H1)
    | x=>some (.C x i H1)
   | _=>none
  | .cond c a b=>match c.ev e with
   | .bool t=>match t with
    | true=>d (.C a e H)
    | false=>d (.C b e H)
   | _=>none
  | .block id c=>match d (.C c e H) with
   | some (.C x i H1)=>some (.C (if x=.exit id then .nx else x) i H1)
   | _=>none
  | .loop l c=>d (.L H.length l c e H)
  | .exit id=>some (.C (.exit id) e H)
  | .ret=>some (.C .ret e H)
  | .keep l=>some (.C .nx (oR l e) H)
  | .give t u=>match DE e H t u with
   | some (i,H1)=>some (.C .nx i H1)
   | none=>none
  | .freeze t=>match Fy e H t with
   | some (i,H1)=>some (.C .nx i H1)
   | none=>none
  | .nat _=>none
  | .iu g l p as bo=>match g.ev e with
   | .fn f k=>match d (.F f (.yld H.length::k) (H++[some (.loop (look e l) p as bo .ready)])) with
    | some (.F _ H1)=>match H1[H.length]? with
     | some (some (.loop _ _ _ _ .ready))=>some (.C .nx e (aj H.length H1))
     | some (some (.loop _ _ _ _ (.done x)))=>match x with
      | .nx=>none
      | x=>some (.C x e (aj H.length H1))
     | _=>none
    | _=>none
   | _=>none
 | .L n l c e H=>match d (.C c ((oR l e).cl n) (aj n H)) with
  | some (.C x i H1)=>match x with
   | .nx=>d (.L n l c i H1)
   | x=>some (.C x i H1)
  | _=>none
def exec(G:aM):Nat->In->Option Out
 | 0,_=>none
 | k+1,i=>ue G (exec G k) i
def zwv{G:aM}{E:In->Option Out}(j:∀ i o,E i=some o->CF G i o):∀ i o,ue G E i=some o->CF G i o:=by
 intro i o h
 cases i with
 | F f I H =>
  simp only[ue] at h;split at h
  case h_2=>cases h
  rename_i fn w;split at h
  case isFalse =>
   unfold N8 at h;split at h
   ·rename_i k P;split at h
    ·rename_i r Q;cases h;exact bA.nat w P (zFd Q)
    ·cases h
   ·cases h
  rename_i z;split at h
  case h_2=>cases h
  rename_i x e' H' d;have d:=j _ _ d;simp only[CF] at d;split at h
  ·cases h
  rename_i u;split at h
  case h_2=>cases h
  rename_i vs R;cases h;refine bA.fn w z d ?_ R
  cases x with
  | nx=>exact .inl rfl
  | ret=>exact .inr rfl
  | exit k=>exact absurd rfl (u k)
 | S y o e H =>
  simp only[ue] at h;split at h
  case h_3=>cases h
  ·rename_i s;split at h
   ·rename_i f xs q;split at h
    case h_2=>cases h
    rename_i r H1 d;cases h;exact bA.pcall s q (j _ _ d)
   ·rename_i f xs q;split at h
    case h_2=>cases h
    rename_i r H1 d;cases h;exact bA.scall s q (j _ _ d)
   ·rename_i rs f xs q;split at h
    case h_2=>cases h
    rename_i r H1 d;split at h
    case isFalse=>cases h
    rename_i A;cases h;exact bA.scallA s q (j _ _ d) (zyJ A)
   ·rename_i f xs q;split at h
    case h_2=>cases h
    rename_i r H1 d;split at h
    case isFalse=>cases h
    rename_i A;cases h;exact bA.scallE s q (j _ _ d) (zAn A)
   ·cases h
   ·rename_i f xs q;split at h
    case h_2=>cases h
    rename_i r H1 d;cases h;exact bA.kcall s q (j _ _ d) (fun h=>by cases h)
   ·rename_i ro fx xs q;split at h
    case h_3=>cases h
    ·rename_i f B D;split at h
     case h_2=>cases h
     rename_i r H1 d;split at h
     case isFalse=>cases h
     rename_i J;cases h
     exact bA.vcall s q D (j _ _ d) (fun h=>by
      subst h;simp only[Bool.not_true,Bool.false_or] at J
      exact Yg J)
    ·rename_i id D;split at h
     ·cases h
     split at h
     case h_2=>cases h
     rename_i d;split at h
     case isFalse=>cases h
     rename_i z;split at h
     case h_2=>cases h
     rename_i T;split at h
     case h_2=>cases h
     rename_i U;split at h
     case h_2=>cases h
     rename_i V;split at h
     case h_2=>cases h
     rename_i W;cases h;exact bA.j8 s q D d z (j _ _ T) U (j _ _ V) W
   ·split at h
    case h_2=>cases h
    rename_i v H1 X;cases h;exact bA.ev s X
  ·rename_i s;cases h
   exact bA.skip s
 | O y os e H =>
  simp only[ue] at h;split at h
  ·cases h;exact bA.nil
  ·split at h
   case h_2=>cases h
   rename_i K H1 d;have p:=j _ _ h
   cases o<;>simp only[CF] at p
   exact bA.cons (j _ _ d) p
 | C c e H =>
  cases c with
  | skip=>simp only[ue,aaS.injEq] at h;subst h;exact bA.AM
  | nat k=>simp[ue] at h
  | region m Y =>
   simp only[ue] at h;split at h
   case h_2=>cases h
   rename_i d;cases h;exact bA.region (j _ _ d)
  | seq a b =>
   simp only[ue] at h;split at h
   case h_2=>cases h
   rename_i x K H1 d;split at h
   ·have p:=j _ _ h
    cases o<;>simp only[CF] at p
    exact bA.DF (j _ _ d) p
   ·rename_i u;cases h
    exact bA.AN (j _ _ d) (fun h=>u h)
  | cond c a b =>
   simp only[ue] at h;split at h
   case h_2=>cases h
   rename_i t M;split at h
   ·have p:=j _ _ h
    cases o<;>simp only[CF] at p
    exact bA.cond M p
   ·have p:=j _ _ h
    cases o<;>simp only[CF] at p
    exact bA.cond M p
  | block id c =>
   simp only[ue] at h;split at h
   case h_2=>cases h
   rename_i d;cases h;exact bA.block (j _ _ d)
  | loop l c =>
   simp only[ue] at h;have p:=j _ _ h
   cases o<;>simp only[CF] at p
   exact bA.loop p
  | exit id=>simp only[ue,aaS.injEq] at h;subst h;exact bA.exit
  | ret=>simp only[ue,aaS.injEq] at h;subst h;exact bA.ret
  | keep l=>simp only[ue,aaS.injEq] at h;subst h;exact bA.keep
  | give t Z =>
   simp only[ue] at h;split at h
   case h_2=>cases h
   rename_i d;cases h;exact bA.give d
  | freeze t =>
   simp only[ue] at h;split at h
   case h_2=>cases h
   rename_i d;cases h;exact bA.freeze d
  | iu g l ps as bo =>
   simp only[ue] at h;split at h
   case h_2=>cases h
   rename_i f B N;split at h
   case h_2=>cases h
   rename_i w;split at h
   case h_3=>cases h
   ·rename_i d;cases h;exact bA.iu N (j _ _ w) d (.inl ⟨rfl,rfl⟩)
   ·rename_i d;split at h
    ·cases h
    ·rename_i u;cases h
     exact bA.iu N (j _ _ w) d (.inr ⟨rfl,fun h=>u h⟩)
 | L n l c e H =>
  simp only[ue] at h;split at h
  case h_2=>cases h
  rename_i x K H1 d;split at h
  ·have p:=j _ _ h
   cases o<;>simp only[CF] at p
   exact bA.round (j _ _ d) p
  ·rename_i u;cases h;exact bA.last (j _ _ d) (fun h=>u h)
def zqZ{G:aM}:∀(k:Nat) (i:In) (o:Out),exec G k i=some o->CF G i o
 | 0,_,_,h=>by simp[exec] at h
 | k+1,i,o,h=>zwv (zqZ k) i o h
open Go Go.RowKit
def Yk(G:aM)(k f:Nat)(args:List V)(r:V):Bool :=
 match exec G k (.F f args []) with
 | some (.F a H1)=>pO (uN H1 a).out r
 | _=>false
def zFe{G:aM}{k f:Nat}{args:List V}{r:V}(h:Yk G k f args r=true):FP G f args r:=by
 unfold Yk at h;split at h
 ·rename_i b H1 a;exact⟨_,_,zqZ k _ _ a,KR h⟩
 ·cases h
variable {G:aM}
structure af where
 op:Int
 jt:Int
 jf:Int
 k:Nat
 deriving DecidableEq
def af.cs(x:af):List V:=[.int .i64 x.op,.int .i64 x.jt,.int .i64 x.jf,.int .u32 (x.k:Int)]
def IV(x:af):V:=.agg x.cs
def IL(l:List af):List (List V):=l.map af.cs
def FL(l:List af):V:=.vs (IL l) .no
@[simp] theorem zMj (l:List af):(IL l).length=l.length:=by simp[IL]
@[simp] theorem Ym (l:List af) (i:Nat):(IL l)[i]?=(l[i]?).map af.cs:=by simp[IL]
@[simp] theorem zGT:IL []=[]:=rfl
theorem QR(l:List af):IL l=[]↔l=[]:=by simp[IL]
def zAo(l m:List af):IL l++IL m=IL (l++m):=by simp[IL]
@[simp] theorem Mx (l:List af) (x:af):IL l++[x.cs]=IL (l++[x]):=by simp[IL]
@[simp] theorem ajN (l:List af):(∀ f∈IL l,f.length=4)=True:=by simp only[eq_iff_iff,iff_true];intro f a;simp only[IL,abS] at a;obtain⟨x,_,rfl⟩:=a;rfl
@[simp] theorem zMk (x:af):x.cs.length=4:=rfl
abbrev zp:=Int×List UInt8×Bool×Bool
def qC(r:zp):List V:=[.int .i64 r.1,.str r.2.1,.bool r.2.2.1,.bool r.2.2.2]
def rN(op:Int):Option zp:=v9.find? fun r=>r.1==op
def zxd{α β:Type}(g:α->List β)(k:Nat)(c:∀ a,(g a).length=k):∀(l:List α) (n:Nat) (a:α),l[n]?=some a->(((l.map g).flatten).drop (n*k)).take k=g a
 | [],n,a,h=>by simp at h
 | b::l,0,a,h=>by
  simp at h;subst h
  simp[c]
 | b::l,n+1,a,h=>by
  simp only[abH] at h;rw[abx,acL,Nat.add_mul,ac3,abD,<-c b,ab5];have:=zxd g k c l n a h;rw[c b];exact this
def zAp{n:Nat}{r:zp}(h:v9[n]?=some r):(xL.drop (n*4)).take 4=qC r:=zxd (fun r:zp=>qC r) 4 (fun _=>rfl) v9 n r h
def Sg:xL.length=156:=by decide
def zww:xL.take 156=xL:=by rw[aa5];rw[Sg];exact abi _
def zs5(n:Nat):aX n xL=xL:=by rw[ia];simp[xL,List.map_flatten,aca,V.cl]
def KU(op:Int):V:=match rN op with
 | some r=>.a_ [.agg (qC r),.bool true]
 | none=>.a_ [.agg [.int .i64 0,.str [],.bool false,.bool false],.bool false]
def zAq{α:Type}{p:α->Bool}{l:List α}(h:∀(n:Nat) (a:α),l[n]?=some a->p a=false):l.find? p=none:=by rw[acF];intro a b;obtain⟨n,c⟩:=List.getElem?_of_mem b;simp[h n a c]
def zxe{α:Type}{p:α->Bool}:∀{l:List α} {n:Nat} {a:α},l[n]?=some a->p a=true->(∀(m:Nat) (b:α),m<n->l[m]?=some b->p b=false)->l.find? p=some a
 | [],n,a,h,_,_=>by simp at h
 | b::l,0,a,h,d,_=>by simp at h;subst h;simp[d]
 | b::l,n+1,a,h,d,e=>by
  rw[List.find?_cons];rw[e 0 b an rfl];exact zxe (by simpa using h) d fun m c g f=>e (m+1) c an (by simpa using f)
def zEn(op:Int)(n:Nat):Prop:=∀(m:Nat) (b:zp),m<n->v9[m]?=some b->(b.1==op)=false
def Yn[az G](op:Int):FP G 139 [.int .i64 op] (KU op):=by
 refine bD az.af8 (aab rfl) ?_;simp[Sg,zww]
 refine aQ 39 (fun n=>[(0,.int .i64 op),(2,.ptr 0 0),(6,.agg xL),(7,.int .i64 n)]) (fun _=>[some (.cells [.int .i64 0,.str [],.bool false,.bool false])])
  (fun n=>zEn op n) ?_ ?_
 ·simp[av,aj,zs5];intro m b h;omega
 intro n l c
 by_cases f:n<39
 ·obtain⟨r,d⟩:∃ r,v9[n]?=some r:=⟨_,aad (show n<v9.length from f)⟩;have g:=zAp d
  by_cases e:r.1=op
  ·have:rN op=some r:=zxe d (by simpa using e) c;simp(disch:=omega)[bM,aC,Sg,g,qC,e,this,KU,-aaa]
  ·have i:zEn op (n+1):=fun m b h a=>by
    by_cases j:m=n
    ·subst j;rw[d] at a;cases a;simpa using e
    ·exact c m b an a
   simp(disch:=omega)[bM,aC,Sg,g,qC,aO,bH,f,av,aj,zs5,i,-aaa]
 ·have k:n=39:=an
  subst k;have:rN op=none:=zAq fun m b a=>c m b (by have:=(aaz.1 a).1;exact this) a;simp[this,KU]
def MA{op:Int}{r:zp}(h:rN op=some r):r.1=op/\r∈v9:=by have a:=List.find?_some h;exact⟨by simpa using a,List.mem_of_find?_eq_some h⟩
def Yo{op:Int}(h:rN op=none):∀ r∈v9,r.1≠op:=fun r a=>by
 have:=acF.1 h r a;simpa using this
def bw(op:Int):Int×Bool×Bool :=
 if op∈[4,20,36,52,68,84,100,116,164] then(op,false,true) else if op∈[12,28,44,60,76,92,108,124,172] then(op-8,true,true) else(0,false,false)
def bf(op:Int):Bool:=decide (op∈[21,37,53,69,29,45,61,77])
def gL(op:Int):Bool:=decide (op=6\/op=22)
def zCz{op:Int}(h:rN op=none):bw op=(0,false,false):=by
 have d:∀ p∈[4,20,36,52,68,84,100,116,164,12,28,44,60,76,92,108,124,172],∃ r∈v9,r.1=p:=by decide
 unfold bw;rw[if_neg,if_neg]
 ·intro a;obtain⟨r,b,c⟩:=d op (by simp only[aah,aaU,or_false] at a |-;omega);exact Yo h r b c
 ·intro a;obtain⟨r,b,c⟩:=d op (by simp only[aah,aaU,or_false] at a |-;omega);exact Yo h r b c
def zFf{op:Int}(h:rN op=none):bf op=false:=by
 have a:∀ p∈[21,37,53,69,29,45,61,77],∃ r∈v9,r.1=p:=by decide
 simp only[bf,decide_eq_false_iff_not];intro b;obtain⟨r,c,d⟩:=a op b;exact Yo h r c d
def N_[az G](x:af):FP G 143 [IV x] (.bool (gL x.op)):=by
 refine bD az.agc (aab rfl) ?_;simp[IV,af.cs]
 by_cases h:x.op=6
 ·simp[h,gL]
 ·by_cases a:x.op=22<;>simp[h,a,aO,gL]
def yM[az G](x:af):FP G 142 [IV x] (.bool (bf x.op)):=by
 refine bD az.agb (aab rfl) ?_;simp[IV,af.cs];refine ax (Yn x.op) ?_;unfold KU
 cases h:rN x.op with
 | none=>simp[zFf h]
 | some r =>
  obtain⟨d,e⟩:=MA h
  have a:∀ r∈v9,(decide (iZ .i64 r.1 7=5)&&decide (r.1≠5))=bf r.1:=by decide
  have a:=a r e;rw[d] at a
  by_cases b:iZ .i64 x.op 7=5
  ·by_cases c:x.op=5
   ·simp[c] at a;simp[qC,c];rw[c] at b;simp[b];exact a
   ·simp[b,c] at a;simp[qC,b,c,kO,a]
  ·simp[b] at a;simp[qC,b,aO,a]
def J1[az G](x:af):FP G 141 [IV x] (.a_ [.int .i64 (bw x.op).1,.bool (bw x.op).2.1,.bool (bw x.op).2.2]):=by
 refine bD az.aga (aab rfl) ?_;simp[IV,af.cs];refine ax (Yn x.op) ?_;unfold KU
 cases h:rN x.op with
 | none=>simp[zCz h]
 | some r =>
  obtain⟨d,e⟩:=MA h
  have a:∀ r∈v9,bw r.1=if iZ .i64 r.1 7≠4\/r.1=132 then(0,false,false) else(Kg .i64 r.1 8,decide (iZ .i64 r.1 8>0),true):=by decide
  have a:=a r e;rw[d] at a
  by_cases c:iZ .i64 x.op 7=4
  ·by_cases b:x.op=132
   ·have f:iZ .i64 132 7=4:=by decide
    rw[if_pos (.inr b)] at a;simp[qC,b,f,b▸a]
   ·rw[if_neg (by simp[c,b])] at a;simp[qC,c,b,aO,a]
  ·rw[if_pos (.inl c)] at a;simp[qC,c,kO,a]
def jX(x:af):Bool:=match rN x.op with
 | some r=>(r.2.2.1||decide (x.k=0))&&(if r.2.2.2 then decide (0<=x.jt/\x.jt<=255/\0<=x.jf/\x.jf<=255) else decide (x.jt=0/\x.jf=0))
 | none=>false
def J9[az G](x:af):FP G 140 [IV x] (.bool (jX x)):=by
 refine bD az.af9 (aab rfl) ?_;simp[IV,af.cs];refine ax (Yn x.op) ?_;unfold KU jX
 cases h:rN x.op with
 | none=>simp
 | some r =>
  obtain⟨i,w,e,ways⟩:=r;have ou:∀{H:ae},True:=trivial;cases e
  ·by_cases c:x.k=0
   ·cases ways
    ·by_cases a:x.jt=0
     ·by_cases b:x.jf=0<;>simp[qC,c,a,b,aO]
     ·simp[qC,c,a,aO]
    ·by_cases a:0<=x.jt
     ·by_cases b:x.jt<=255
      ·by_cases d:0<=x.jf
       ·by_cases f:x.jf<=255<;>simp[qC,c,a,b,d,f]
       ·simp[qC,c,a,b,d]
      ·simp[qC,c,a,b]
     ·simp[qC,c,a]
   ·have g:((x.k:Int) !=0)=true:=kO an;simp[qC,c,g]
  ·cases ways
   ·by_cases a:x.jt=0
    ·by_cases b:x.jf=0<;>simp[qC,a,b,aO]
    ·simp[qC,a,aO]
   ·by_cases a:0<=x.jt
    ·by_cases b:x.jt<=255
     ·by_cases d:0<=x.jf
      ·by_cases f:x.jf<=255<;>simp[qC,a,b,d,f]
      ·simp[qC,a,b,d]
     ·simp[qC,a,b]
    ·simp[qC,a]
def zZ(tab:List Nat)(j:Nat):Bool:=(aaT tab.length).any fun n=>tab[n]? !=tab[n ^^^ 2^j]?
def Bt(vars:List Int)(tab:List Nat)(j:Nat):Prop :=
 ∃ v,vars[j]?=some v/\0<=v/\v<34/\(∀ u,0<j->vars[j-1]?=some u->u<v)/\zZ tab j=true
def Right(vars:List Int)(tab:List Nat):Prop:=vars.length<=4/\tab.length=2^vars.length/\∀ j,j<vars.length->Bt vars tab j
open Classical in
noncomputable def uf(vars:List Int)(tab:List Nat):Bool:=decide (Right vars tab)
def F4{vars:List Int}{tab:List Nat}:uf vars tab=true↔Right vars tab:=by simp[uf]
abbrev Up(l:List Int):Prop:=l.Pairwise (·<·)
def zAr:∀{a b:List Int},Up a->Up b->(∀ v,v∈a↔v∈b)->a=b
 | [],[],_,_,_=>rfl
 | [],y::b,_,_,h=>absurd ((h y).2 ir) ir
 | x::a,[],_,_,h=>absurd ((h x).1 ir) ir
 | x::a,y::b,g,i,h=>by
  have d:=aap.1 g;have f:=aap.1 i
  have j:x=y:=by
   rcases aah.1 ((h x).1 ir) with e|e
   ·exact e
   rcases aah.1 ((h y).2 ir) with e'|e'
   ·exact e'.symm
   have:=f.1 x e;have:=d.1 y e';omega
  subst j;rw[zAr d.2 f.2 fun v=>?_];constructor
  ·intro c;have k:=d.1 v c
   rcases aah.1 ((h v).1 (by simp[c])) with e|e
   ·omega
   ·exact e
  ·intro c;have k:=f.1 v c
   rcases aah.1 ((h v).2 (by simp[c])) with e|e
   ·omega
   ·exact e
def Up.nodup{l:List Int}(h:Up l):l.Nodup:=h.imp (fun h e=>by omega)
def zLJ{l:List Int}(h:∀ j,0<j->∀ u v,l[j-1]?=some u->l[j]?=some v->u<v):Up l:=by
 induction l with
 | nil=>simp
 | cons x l c =>
  rw[Up,aap]
  have b:Up l:=c (fun j f u v d a=>by
   refine h (j+1) an u v ?_ (by simpa using a);obtain⟨k,rfl⟩:∃ k,j=k+1:=⟨j-1,an⟩
   simpa using d)
  refine⟨?_,b⟩;intro v a
  cases l with
  | nil=>cases a
  | cons y l =>
   have g:x<y:=h 1 an x y ir ir
   rcases aah.1 a with e|e
   ·omega
   ·have:=(aap.1 b).1 v e;omega
def Right.up{vars:List Int}{tab:List Nat}(h:Right vars tab):Up vars:=zLJ fun j c u v d a=>by
 have e:j<vars.length:=by
  rcases acd j vars.length with h|h
  ·exact h
  ·rw[aaV h] at a;cases a
 obtain⟨w,b,_,_,f,_⟩:=h.2.2 j e;rw[a] at b;cases b;exact f u c d
def Right.mem{vars:List Int}{tab:List Nat}(h:Right vars tab){v:Int}(c:v∈vars):0<=v/\v<34:=by obtain⟨j,a,rfl⟩:=abn.1 c;obtain⟨w,b,d,e,_⟩:=h.2.2 j a;rw[aad a] at b;cases b;exact⟨d,e⟩
def Yp{l:List Int}(h:l.Nodup){i j:Nat}{hi:i<l.length}{b:j<l.length}(e:l[i]=l[j]):i=j:=by
 rcases Nat.lt_trichotomy i j with a|a|a
 ·exact absurd e (abA.1 h _ _ _ _ a)
 ·exact a
 ·exact absurd e.symm (abA.1 h _ _ _ _ a)
def fw:List Int->List Int->List Int
 | [],b=>b
 | a,[]=>a
 | x::a,y::b=>if x<y then x::fw a (y::b) else if y<x then y::fw (x::a) b else x::fw a b
termination_by a b=>a.length+b.length
def zxf(a:List Int):fw a []=a:=by cases a<;>simp[fw]
def Bu{v:Int}(a b:List Int):v∈fw a b↔v∈a\/v∈b:=by
 fun_induction fw a b with
 | case1 b=>simp
 | case2 a h=>simp
 | case3 x a y b h c =>
  simp only[aah,c];constructor
  ·rintro(h|h|h|h)<;>simp[h]
  ·rintro((h|h)|h|h)<;>simp[h]
 | case4 x a y b h d c =>
  simp only[aah,c];constructor
  ·rintro(h|(h|h)|h)<;>simp[h]
  ·rintro((h|h)|h|h)<;>simp[h]
 | case5 x a y b h d c =>
  have:x=y:=an
  subst this;simp[c];constructor
  ·rintro(h|h|h)<;>simp[h]
  ·rintro((h|h)|h|h)<;>simp[h]
def zAs(a b:List Int)(g:Up a)(i:Up b):Up (fw a b):=by
 fun_induction fw a b with
 | case1 b=>exact i
 | case2 a h=>exact g
 | case3 x a y b h j =>
  have d:=aap.1 g;have f:=aap.1 i;refine aap.2 ⟨fun v k=>?_,j d.2 i⟩
  rcases(Bu _ _).1 k with c|c
  ·exact d.1 v c
  ·rcases aah.1 c with e|e
   ·omega
   ·have:=f.1 v e;omega
 | case4 x a y b h l j =>
  have d:=aap.1 g;have f:=aap.1 i;refine aap.2 ⟨fun v k=>?_,j g f.2⟩
  rcases(Bu _ _).1 k with c|c
  ·rcases aah.1 c with e|e
   ·omega
   ·have:=d.1 v e;omega
  ·exact f.1 v c
 | case5 x a y b h l j =>
  have d:=aap.1 g;have f:=aap.1 i;refine aap.2 ⟨fun v k=>?_,j d.2 f.2⟩
  rcases(Bu _ _).1 k with c|c
  ·exact d.1 v c
  ·have:=f.1 v c;omega
def zxg(a b:List Int):(fw a b).length<=a.length+b.length:=by fun_induction fw a b<;>simp_all<;>omega
def KW:∀{a b:List Int},Up a->Up b->(∀ v∈a,v∈b)->a.Sublist b
 | [],_,_,_,_=>acR _
 | x::a,[],_,_,h=>absurd (h x ir) ir
 | x::a,y::b,i,j,h=>by
  have d:=aap.1 i;have f:=aap.1 j
  by_cases e:x=y
  ·subst e;refine List.Sublist.cons_cons _ (KW d.2 f.2 fun v c=>?_)
   rcases aah.1 (h v (by simp[c])) with e|e
   ·have:=d.1 v c;omega
   ·exact e
  ·refine List.Sublist.cons _ (KW i f.2 fun v c=>?_)
   rcases aah.1 (h v c) with e'|e'
   ·subst e'
    rcases aah.1 c with e2|e2
    ·exact absurd e2.symm e
    ·rcases aah.1 (h x ir) with g|g
     ·exact absurd g e
     ·have:=d.1 v e2;have:=f.1 x g;omega
   ·exact e'
termination_by a b=>a.length+b.length
def idx:List Int->(Int->Bool)->Nat
 | [],_=>0
 | v::vs,p=>(p v).toNat+2*idx vs p
def F5:∀(vs:List Int) (p:Int->Bool),idx vs p<2^vs.length
 | [],_=>by simp[idx]
 | v::vs,p=>by
  have:=F5 vs p
  have a:(p v).toNat<=1:=by cases p v<;>simp
  simp only[idx,aav,aba];omega
def Yq(p:Int->Bool):∀(a b:List Int),idx (a++b) p=idx a p+2^a.length*idx b p
 | [],b=>by simp[idx]
 | v::a,b=>by
  simp only[ace,idx,Yq p a b,aav,aba]
  have:2^a.length*2*idx b p=2*(2^a.length*idx b p):=by rw[abE (2^a.length) 2,acC]
  omega
def F6(p:Int->Bool):∀(vs:List Int) (j:Nat),(idx vs p).testBit j=(vs[j]?.map p).getD false
 | [],j=>by simp[idx]
 | v::vs,0=>by
  simp only[idx,Nat.testBit_zero,acg,abc,abq]
  cases p v<;>simp<;>omega
 | v::vs,j+1=>by
  simp only[abH,<-F6 p vs j,idx,abP]
  congr 1
  cases p v<;>simp<;>omega
def Oa{p q:Int->Bool}:∀{vs:List Int},(∀ v∈vs,p v=q v)->idx vs p=idx vs q
 | [],_=>rfl
 | v::vs,h=>by simp only[idx,h v ir,Oa (vs:=vs) (fun u a=>h u (List.mem_cons_of_mem _ a))]
def iX(vs:List Int)(n:Nat):Int->Bool:=fun v=>n.testBit (vs.idxOf v)
def Yr{vs:List Int}(h:vs.Nodup){n:Nat}(a:n<2^vs.length):idx vs (iX vs n)=n:=by
 refine aaF fun j=>?_;rw[F6]
 by_cases b:j<vs.length
 ·rw[aad b];simp only[abc,abq,iX];rw[List.Nodup.idxOf_getElem h]
 ·rw[aaV an];simp only[Option.map_none,Option.getD_none];rw[aaJ (aat a (aal (by decide) an))]
def zxh{vs:List Int}{v:Int}(a:v∈vs)(p:Int->Bool):iX vs (idx vs p) v=p v:=by rw[iX,F6,aad (List.idxOf_lt_length_of_mem a)];simp
def flip(p:Int->Bool)(v:Int):Int->Bool:=fun u=>if u=v then !p u else p u
def zu5{vs:List Int}(h:vs.Nodup)(p:Int->Bool){j:Nat}{v:Int}(a:vs[j]?=some v):idx vs (flip p v)=idx vs p ^^^ 2^j:=by
 have d:j<vs.length:=by
  rcases acd j vs.length with h|h
  ·exact h
  ·rw[aaV h] at a;cases a
 refine aaF fun i=>?_;rw[Nat.testBit_xor,F6,F6,ab3]
 by_cases hi:i<vs.length
 ·rw[aad hi];simp only[abc,abq,flip];rw[aad d] at a;cases a
  by_cases b:i=j
  ·subst b;simp
  ·have:vs[i]≠vs[j]:=fun e=>b (Yp h e);have c:j≠i:=fun e=>b e.symm;simp[this,c]
 ·rw[aaV an]
  have c:j≠i:=an
  simp[c]
def dq(vs:List Int)(tab:List Nat)(p:Int->Bool):Nat:=tab.getD (idx vs p) 0
def zxi{vs:List Int}{tab:List Nat}{p q:Int->Bool}(h:∀ v∈vs,p v=q v):dq vs tab p=dq vs tab q:=by rw[dq,dq,Oa h]
def zFg{vs:List Int}{tab:List Nat}(a:vs.Nodup)(c:tab.length=2^vs.length){n:Nat}(h:n<tab.length):tab[n]=dq vs tab (iX vs n):=by have b:=Yr a (n:=n) an;simp[dq,b,aan,h]
def dep(f:(Int->Bool)->Nat)(v:Int):Prop:=∃ p,f p≠f (flip p v)
def Sh{vs:List Int}{tab:List Nat}(h:vs.Nodup)(d:tab.length=2^vs.length){j:Nat}{v:Int}(b:vs[j]?=some v):zZ tab j=true↔dep (dq vs tab) v:=by
 have get (n:Nat) (a:n<tab.length):tab[n]?=some (tab.getD n 0):=by rw[aad a,aan,aad a];rfl
 have f:j<vs.length:=by
  rcases acd j vs.length with h|h
  ·exact h
  ·rw[aaV h] at b;cases b
 simp only[zZ,acS,acW,bne_iff_ne,ne_eq,dep,dq];constructor
 ·rintro⟨n,a,g⟩;refine⟨iX vs n,fun e=>g ?_⟩;rw[zu5 h _ b,Yr h an] at e;rw[get n a,get _ (by rw[d] at a |-;exact abd a (aaL (by decide) f)),e]
 ·rintro⟨p,i⟩
  have c:idx vs p<tab.length:=by rw[d];exact F5 vs p
  refine⟨idx vs p,c,fun e=>i ?_⟩;rw[zu5 h _ b];rw[get _ c,get _ (by rw[d] at c |-;exact abd c (aaL (by decide) f))] at e;exact aaS.inj e
def Right.Ob{vs:List Int}{tab:List Nat}(h:Right vs tab){v:Int}(b:v∈vs):dep (dq vs tab) v:=by obtain⟨j,a,rfl⟩:=abn.1 b;obtain⟨w,d,_,_,_,c⟩:=h.2.2 j a;exact(Sh h.up.nodup h.2.1 (aad a)).1 c
def Right.of{vs:List Int}{tab:List Nat}(f:vs.length<=4)(b:tab.length=2^vs.length)(c:Up vs)(d:∀ v∈vs,0<=v/\v<34)(hd:∀ v∈vs,dep (dq vs tab) v):Right vs tab:=by refine⟨f,b,fun j a=>⟨vs[j],aad a,(d _ (aam a)).1,(d _ (aam a)).2,?_,(Sh c.nodup b (aad a)).2 (hd _ (aam a))⟩⟩;intro u g e;rw[aad an] at e;cases e;exact abA.1 c _ _ _ _ an
def zxj{vs:List Int}{tab:List Nat}{v:Int}(a:v∉vs):¬dep (dq vs tab) v:=by rintro⟨p,b⟩;refine b ?_;simp only[dq];rw[Oa (p:=p) (q:=flip p v) fun u c=>?_];have:u≠v:=fun e=>a (e▸c);simp[flip,this]
def zEo{vs a:List Int}{tab c:List Nat}(h:Right vs tab)(d:Right a c)(f:∀ p,dq vs tab p=dq a c p):vs=a/\tab=c:=by
 have g:dq vs tab=dq a c:=funext f
 have b:vs=a:=zAr h.up d.up fun v=>by
  constructor
  ·intro b;have:=h.Ob b;rw[g] at this;exact Decidable.byContradiction fun e=>zxj e this
  ·intro b;have:=d.Ob b;rw[<-g] at this;exact Decidable.byContradiction fun e=>zxj e this
 subst b;refine⟨rfl,acT (by rw[h.2.1,d.2.1]) fun n i j=>?_⟩;have:=f (iX vs n);simp only[dq] at this;rw[Yr h.up.nodup (by rw[<-h.2.1];exact i)] at this;simpa[aan,aad i,aad j] using this
def qh(tab:List Nat)(j:Nat):List Nat:=((aaT tab.length).filter fun n=>!n.testBit j).map fun n=>tab.getD n 0
def ins(j m:Nat):Nat:=2^(j+1)*(m/2^j)+m%2^j
def Si(j m i:Nat):(ins j m).testBit i=if i<j then m.testBit i else if i=j then false else m.testBit (i-1):=by
 have b:m%2^j<2^(j+1):=aat (aa6 _ (abB j)) (aal (by decide) an);rw[ins,aaM _ b]
 by_cases h:i<j
 ·rw[if_pos an,if_pos h,abI];simp[h]
 ·rw[if_neg h]
  by_cases a:i=j
  ·subst a;rw[if_pos an,if_pos rfl,abI];simp
  ·rw[if_neg an,if_neg a,abJ]
   congr 1;omega
def zGU{j k m:Nat}(b:j<=k)(a:m<2^k):ins j m<2^(k+1):=by
 refine acb _ fun i hi=>?_;rw[Si,if_neg an];split
 ·rfl
 ·exact aaJ (aat a (aal (by decide) an))
def zCA{j a b:Nat}(h:a<b):ins j a<ins j b:=by
 have f:a/2^j<=b/2^j:=Nat.div_le_div_right (Nat.le_of_lt h);have d:=acU a (2^j);have g:=acU b (2^j);have i:=aa6 a (abB j);have k:=aa6 b (abB j);simp only[ins,aba]
 rcases acd (a/2^j) (b/2^j) with c|c
 ·have:2^j*(a/2^j+1)<=2^j*(b/2^j):=Nat.mul_le_mul_left _ c
  have l:2^j*2*(a/2^j)=2*(2^j*(a/2^j)):=by rw[abE (2^j) 2,acC]
  have m:2^j*2*(b/2^j)=2*(2^j*(b/2^j)):=by rw[abE (2^j) 2,acC]
  rw[Nat.mul_add] at this;omega
 ·have e:a/2^j=b/2^j:=an
  rw[e] at d |-;omega
def zCB{j n:Nat}(h:n.testBit j=false):∃ m,ins j m=n/\(∀ k,j<=k->n<2^(k+1)->m<2^k):=by
 refine⟨2^j*(n/2^(j+1))+n%2^j,?_,?_⟩
 ·refine aaF fun i=>?_;have a:n%2^j<2^j:=aa6 _ (abB j);rw[Si,aaM _ a,aaM _ a]
  by_cases b:i<j
  ·rw[if_pos b,if_pos b,abI];simp[b]
  ·rw[if_neg b]
   by_cases c:i=j
   ·subst c;simp[h]
   ·rw[if_neg c,if_neg an,abJ]
    congr 1;omega
 ·intro k e d;have a:n%2^j<2^j:=aa6 _ (abB j);refine acb _ fun i hi=>?_;rw[aaM _ a,if_neg an,abJ];exact aaJ (aat d (aal (by decide) an))
def zAt:∀{a b:List Nat},a.Pairwise (·<·)->b.Pairwise (·<·)->(∀ v,v∈a↔v∈b)->a=b
 | [],[],_,_,_=>rfl
 | [],y::b,_,_,h=>absurd ((h y).2 ir) ir
 | x::a,[],_,_,h=>absurd ((h x).1 ir) ir
 | x::a,y::b,g,i,h=>by
  have d:=aap.1 g;have f:=aap.1 i
  have j:x=y:=by
   rcases aah.1 ((h x).1 ir) with e|e
   ·exact e
   rcases aah.1 ((h y).2 ir) with e'|e'
   ·exact e'.symm
   have:=f.1 x e;have:=d.1 y e';omega
  subst j;rw[zAt d.2 f.2 fun v=>?_];constructor
  ·intro c;have k:=d.1 v c
   rcases aah.1 ((h v).1 (by simp[c])) with e|e
   ·omega
   ·exact e
  ·intro c;have k:=f.1 v c
   rcases aah.1 ((h v).2 (by simp[c])) with e|e
   ·omega
   ·exact e
def zAu{k j:Nat}(b:j<=k):((aaT (2^(k+1))).filter fun n=>!n.testBit j)=(aaT (2^k)).map (ins j):=by
 refine zAt (List.Pairwise.filter _ acr) ?_ fun n=>?_
 ·rw[List.pairwise_map];exact acr.imp fun h=>zCA h
 ·simp only[List.mem_filter,acW,abS,Bool.not_eq_true'];constructor
  ·rintro⟨c,d⟩;obtain⟨m,a,e⟩:=zCB d;exact⟨m,e k b c,a⟩
  ·rintro⟨m,a,rfl⟩;refine⟨zGU b a,?_⟩;rw[Si,if_neg an,if_pos rfl]
def zCC{tab:List Nat}{k j:Nat}(a:tab.length=2^(k+1))(b:j<=k):(qh tab j).length=2^k:=by rw[qh,a,zAu b];simp
def zCD{tab:List Nat}{k j m:Nat}(a:tab.length=2^(k+1))(b:j<=k)(c:m<2^k):(qh tab j).getD m 0=tab.getD (ins j m) 0:=by rw[qh,a,zAu b];simp[aan,c]
def zFh{vs:List Int}{tab:List Nat}(h:vs.Nodup)(d:tab.length=2^vs.length){j:Nat}(f:j<vs.length)(g:zZ tab j=false)(p:Int->Bool) :
  dq (vs.eraseIdx j) (qh tab j) p=dq vs tab p:=by
 obtain⟨k,o⟩:∃ k,vs.length=k+1:=⟨vs.length-1,an⟩
 have a:(vs.eraseIdx j).length=k:=by rw[ab7 f];omega
 have r:idx (vs.eraseIdx j) p<2^k:=by have:=F5 (vs.eraseIdx j) p;rwa[a] at this
 have l:vs[j]?=some vs[j]:=aad f
 have s:¬dep (dq vs tab) vs[j]:=fun hd=>by rw[(Sh h d l).2 hd] at g;cases g
 have b:ins j (idx (vs.eraseIdx j) p)=idx vs (fun u=>if u=vs[j] then false else p u):=by
  refine aaF fun i=>?_;rw[Si,F6,F6,F6,acs,acs]
  by_cases c:i<j
  ·rw[if_pos c,if_pos c];rw[aad an]
   have:vs[i]≠vs[j]:=fun e=>by have:=Yp h e;omega
   simp[this]
  ·rw[if_neg c]
   by_cases m:i=j
   ·subst m;rw[if_pos rfl,l];simp
   ·rw[if_neg m,if_neg an,show i-1+1=i by omega]
    by_cases t:i<vs.length
    ·rw[aad t]
     have:vs[i]≠vs[j]:=fun e=>by have:=Yp h e;omega
     simp[this]
    ·rw[aaV an];simp
 simp only[dq];rw[zCD (by rw[d,o]) an r,b];show dq vs tab _=dq vs tab p
 by_cases n:p vs[j]=false
 ·simp only[dq];rw[Oa (q:=p)];intro u _
  by_cases e:u=vs[j]
  ·simp[e,n]
  ·simp[e]
 ·have:dq vs tab p=dq vs tab (flip p vs[j]):=Decidable.byContradiction fun e=>s ⟨p,e⟩;rw[this];simp only[dq];rw[Oa (q:=flip p vs[j])];intro u _
  by_cases e:u=vs[j]
  ·simp only[flip,e,if_true];cases v:p vs[j]
   ·exact absurd v n
   ·rfl
  ·simp[flip,e]
def gW(f:Nat->Bool):Nat->Nat
 | 0=>0
 | k+1=>gW f k+2^k*(f k).toNat
def wv(f:Nat->Bool):∀ k,gW f k<2^k
 | 0=>by simp[gW]
 | k+1=>by
  have:=wv f k;simp only[gW,aba]
  cases f k<;>simp<;>omega
def Bv(f:Nat->Bool)(i:Nat):∀ k,(gW f k).testBit i=(decide (i<k)&&f i)
 | 0=>by simp[gW]
 | k+1=>by
  rw[gW,abD,aaM _ (wv f k)]
  by_cases h:i<k
  ·rw[if_pos h,Bv f i k];simp[h,show i<k+1 by omega]
  ·rw[if_neg h]
   by_cases a:i=k
   ·subst a;simp
    cases f i<;>simp
   ·have b:¬i<k+1:=an
    simp only[b,decide_false,acv];have:(f k).toNat<2^(i-k):=aat (by cases f k<;>simp:(f k).toNat<2^1) (aal (by decide) an);exact aaJ this
def Ys{f g:Nat->Bool}:∀{k:Nat},(∀ i,i<k->f i=g i)->gW f k=gW g k
 | 0,_=>rfl
 | k+1,h=>by rw[gW,gW,Ys fun i hi=>h i an,h k an]
def Yt{w:Nat}(h:w<2^32):gW w.testBit 32=w:=by
 refine aaF fun i=>?_;rw[Bv]
 by_cases hi:i<32
 ·simp[hi]
 ·simp only[hi,decide_false,acv];exact(aaJ (aat h (aal (by decide) an))).symm
def val(vs:List Int)(tab:List Nat)(r:Int->Nat):Nat:=gW (fun i=>(dq vs tab fun v=>(r v).testBit i).testBit i) 32
def CG(k:Nat):Nat:=if k<16 then 2^(k+2) else 0
def zu6[dg G](k:Nat):FP G 166 [.int .u32 (k:Int)] (.int .u32 (CG k:Nat)):=by
 refine bD dg.agA (aab rfl) ?_;simp
 by_cases h:16<=k
 ·simp[show(16:Int)<=(k:Int) from an,CG,show¬k<16 from an]
 ·have b:k<16:=an
  have c:jc .u32 4 (k:Int)=((4*2^k%4294967296:Nat):Int):=Mi (a:=4) an
  have d:4*2^k%4294967296=2^(k+2):=by
   rw[aaI]
   ·rw[Nat.pow_add,abE]
   ·have:2^k<=2^15:=aal (by decide) an;omega
  simp(disch:=omega)[FZ,kQ,c,d,CG,b,-aae]
def ug(op:Int):Bool:=(bw op).2.1||decide (op∈[29,45,61,77])
def KY{op:Int}(h:(bw op).2.2=true):op∈[4,20,36,52,68,84,100,116,164,12,28,44,60,76,92,108,124,172]:=by
 unfold bw at h;split at h
 ·rename_i a;simp only[aah,aaU,or_false] at a |-;omega
 ·split at h
  ·rename_i a;simp only[aah,aaU,or_false] at a |-;omega
  ·cases h
def zGV[az G][dg G](x:af):FP G 167 [IV x] (.bool (ug x.op)):=by
 refine bD dg.agB (aab rfl) ?_;have c:=J1 (G:=G) x;simp[IV,af.cs] at c |-;refine ax c ?_;unfold ug;cases h:(bw x.op).2.2
 ·have f:(bw x.op).2.1=false:=by
   unfold bw at h |-;split at h
   ·cases h
   ·split at h
    ·cases h
    ·rename_i a b;rw[if_neg a,if_neg b]
  simp[f]
  by_cases a:x.op=29
  ·simp[a]
  by_cases b:x.op=45
  ·simp[b]
  by_cases d:x.op=61
  ·simp[d]
  by_cases e:x.op=77
  ·simp[e]
  simp[a,b,d,e,aO]
 ·have a:=KY h
  have b:∀ p∈[4,20,36,52,68,84,100,116,164,12,28,44,60,76,92,108,124,172],decide (p∈[29,45,61,(77:Int)])=false:=by decide
  simp;have:=b _ a;simp at this;simp[this]
def kV(x:af)(part:Nat):Bool :=
 if part=0 then(bw x.op).2.2||bf x.op||decide (x.op∈[2,7,132,22])
 else if part=1 then ug x.op||decide (x.op∈[3,135])
 else decide ((x.op=96\/x.op=97)/\x.k+2=part)
def ma(x:af)(part:Nat):Bool :=
 if part=0 then(bw x.op).2.2||decide (x.op∈[0,32,96,135,132])
 else if part=1 then decide (x.op∈[1,97,7])
 else decide ((x.op=2\/x.op=3)/\x.k+2=part)
def F7(x:af):Nat:=gW (kV x) 18
def D4(x:af):Nat:=gW (ma x) 18
def zxk{f:Nat->Bool}{m:Nat}(h:∀ i,i<18->m.testBit i=f i)(a:m<2^18):gW f 18=m:=by
 refine aaF fun i=>?_;rw[Bv]
 by_cases hi:i<18
 ·simp[hi,h i hi]
 ·simp only[hi,decide_false,acv];exact(aaJ (aat a (aal (by decide) an))).symm
def zCE(k:Nat):CG k<2^18:=by
 unfold CG;split
 ·have:2^(k+2)<=2^17:=aal (by decide) an;omega
 ·decide
def zAv(k i:Nat)(hi:i<18):(CG k).testBit i=decide (k+2=i):=by
 unfold CG;split
 ·rw[ab3]
 ·simp;omega
def Yu(m i:Nat)(a:m<4):m.testBit i=if i=0 then decide (m%2=1) else if i=1 then decide (2<=m) else false:=by
 match m,a with
 | 0,_=>simp
 | 1,_ => 
  match i with
  | 0=>rfl
  | i+1=>simp[abP]
 | 2,_ =>
  match i with
  | 0=>rfl
  | 1=>rfl
  | i+2=>simp[abP]
 | 3,_ =>
  match i with
  | 0=>rfl
  | 1=>rfl
  | i+2=>simp[abP]
def Iq{f:Nat->Bool}{m:Nat}(c:m<4)(d:f 0=decide (m%2=1))(e:f 1=decide (2<=m))(g:∀ i,2<=i->i<18->f i=false):gW f 18=m:=by
 refine zxk (fun i hi=>?_) an;rw[Yu m i c]
 by_cases a:i=0
 ·subst a;simp[d]
 ·by_cases b:i=1
  ·subst b;simp[e]
  ·simp[a,b,g i an hi]
def zs6{f:Nat->Bool}{k:Nat}(c:f 0=false)(d:f 1=false)(e:∀ i,2<=i->i<18->f i=decide (k+2=i)):gW f 18=CG k:=by
 refine zxk (fun i hi=>?_) (zCE k);rw[zAv k i hi]
 by_cases a:i=0
 ·subst a;simp[c]
 ·by_cases b:i=1
  ·subst b;simp[d]
  ·rw[e i an hi]
def zLK{op:Int}(h:(bw op).2.1=true):(bw op).2.2=true:=by
 unfold bw at h |-;split
 ·rfl
 ·split
  ·rfl
  ·rename_i a b;rw[if_neg a,if_neg b] at h;cases h
def zFi[az G][dg G](x:af):FP G 168 [IV x] (.int .u32 (F7 x:Nat)):=by
 refine bD dg.agC (aab rfl) ?_;have r:=J1 (G:=G) x;have s:=zGV (G:=G) x;have t:=yM (G:=G) x;simp[IV,af.cs] at r s t |-;refine ax r ?_
 have q:(x.op=96\/x.op=97)->(bw x.op).2.2=false/\ug x.op=false/\bf x.op=false:=by rintro(h|h)<;>rw[h]<;>decide
 have z:(x.op=3\/x.op=135)->(bw x.op).2.2=false/\ug x.op=false/\bf x.op=false:=by rintro(h|h)<;>rw[h]<;>decide
 by_cases d:x.op=96\/x.op=97
 ·have a:=q d
  have f:F7 x=CG x.k:=zs6
   (by rcases d with h|h<;>(have a:=a;rw[h] at a;simp[kV,a.1,a.2.2,h])) (by rcases d with h|h<;>(have a:=a;rw[h] at a;simp[kV,a.2.1,h]))
   (fun i l A=>by simp[kV,show¬i=0 from an,show¬i=1 from an,d])
  rcases d with h|h<;>simp[h,aO]<;>refine ax (zu6 x.k) ?_<;>simp[f]
 have g:¬x.op=96:=fun h=>d (.inl h);have j:¬x.op=97:=fun h=>d (.inr h)
 have hi:∀ i,2<=i->i<18->kV x i=false:=fun i l A=>by simp[kV,show¬i=0 from an,show¬i=1 from an,g,j]
 by_cases e:x.op=3\/x.op=135
 ·have a:=z e;have f:F7 x=2:=Iq (by decide) (by rcases e with h|h<;>(have a:=a;rw[h] at a;simp[kV,a.1,a.2.2,h])) (by rcases e with h|h<;>simp[kV,h]) hi
  rcases e with h|h<;>simp[h,aO,f]
 have u:¬x.op=3:=fun h=>e (.inl h);have v:¬x.op=135:=fun h=>e (.inr h);simp[g,j,u,v,aO];refine ax s ?_;cases hb:ug x.op
 case true =>
  have m:kV x 0=true:=by
   simp only[ug,Bool.or_eq_true,decide_eq_true_eq] at hb
   rcases hb with hb|hb
   ·simp[kV,zLK hb]
   ·have:bf x.op=true:=by simp only[bf,decide_eq_true_eq];simp only[aah,aaU,or_false] at hb |-;omega
    simp[kV,this]
  have f:F7 x=3:=Iq (by decide) (by rw[m];rfl) (by simp[kV,hb]) hi;simp[f]
 have l:kV x 1=false:=by simp[kV,hb,u,v]
 have c:∀ b:Bool,kV x 0=b->F7 x=b.toNat:=by
  intro b m;cases b
  ·exact Iq (by decide) (by rw[m];rfl) (by rw[l];rfl) hi
  ·exact Iq (by decide) (by rw[m];rfl) (by rw[l];rfl) hi
 cases w:(bw x.op).2.2
 case true=>simp[c true (by simp[kV,w])]
 simp;refine ax t ?_;cases y:bf x.op
 case true=>simp[c true (by simp[kV,y])]
 by_cases n:x.op=2
 ·simp[n,c true (by simp[kV,n])]
 by_cases o:x.op=7
 ·simp[o,c true (by simp[kV,o])]
 by_cases p:x.op=132
 ·simp[p,c true (by simp[kV,p])]
 by_cases CH:x.op=22
 ·simp[CH,c true (by simp[kV,CH])]
 simp[n,o,p,CH,aO,c false (by simp[kV,w,y,n,o,p,CH])]
def zFj[az G][dg G](x:af):FP G 169 [IV x] (.int .u32 (D4 x:Nat)):=by
 refine bD dg.agD (aab rfl) ?_;have z:=J1 (G:=G) x;simp[IV,af.cs] at z |-;refine ax z ?_
 have l:∀(j:ma x 0=true) (c:ma x 1=false) (d:¬x.op=2) (e:¬x.op=3),D4 x=1:=fun j c d e =>
  Iq (by decide) (by rw[j];rfl) (by rw[c];rfl) fun i a b=>by simp[ma,show¬i=0 from an,show¬i=1 from an,d,e]
 cases w:(bw x.op).2.2
 case true =>
  have A:=KY w
  have f:∀ p∈[4,20,36,52,68,84,100,116,164,12,28,44,60,76,92,108,124,(172:Int)],decide (p∈[1,97,(7:Int)])=false/\¬p=2/\¬p=3:=by decide
  have k:=f _ A;have:D4 x=1:=l (by simp[ma,w]) (by simp only[ma];simp;simpa using k.1) k.2.1 k.2.2;simp[this]
 simp
 have CI:∀ p∈[0,32,96,135,(132:Int)],x.op=p->D4 x=1:=by
  intro p m B
  have f:∀ p∈[0,32,96,135,(132:Int)],decide (p∈[1,97,(7:Int)])=false/\¬p=2/\¬p=3:=by decide
  have k:=f p m;rw[<-B] at k m;exact l (by simp only[ma];simp at m |-;simp[m]) (by simp only[ma];simp;simpa using k.1) k.2.1 k.2.2
 by_cases n:x.op=0
 ·simp[n,CI 0 (by decide) n]
 by_cases o:x.op=32
 ·simp[o,CI 32 (by decide) o]
 by_cases q:x.op=96
 ·simp[q,CI 96 (by decide) q]
 by_cases r:x.op=135
 ·simp[r,CI 135 (by decide) r]
 by_cases s:x.op=132
 ·simp[s,CI 132 (by decide) s]
 have j:ma x 0=false:=by simp[ma,w,n,o,q,r,s]
 have two:∀(c:ma x 1=true) (d:¬x.op=2) (e:¬x.op=3),D4 x=2:=fun c d e =>
  Iq (by decide) (by rw[j];rfl) (by rw[c];rfl) fun i a b=>by simp[ma,show¬i=0 from an,show¬i=1 from an,d,e]
 by_cases t:x.op=1
 ·simp[t,aO,two (by simp[ma,t]) an an]
 by_cases u:x.op=97
 ·simp[u,aO,two (by simp[ma,u]) an an]
 by_cases v:x.op=7
 ·simp[v,aO,two (by simp[ma,v]) an an]
 have c:ma x 1=false:=by simp[ma,t,u,v]
 by_cases g:x.op=2\/x.op=3
 ·have y:D4 x=CG x.k:=zs6 j c (fun i a b=>by simp[ma,show¬i=0 from an,show¬i=1 from an,g])
  rcases g with h|h<;>simp[h,aO]<;>refine ax (zu6 x.k) ?_<;>simp[y]
 ·have d:¬x.op=2:=fun h=>g (.inl h);have e:¬x.op=3:=fun h=>g (.inr h)
  have y:D4 x=0:=Iq (by decide) (by rw[j];rfl) (by rw[c];rfl) fun i a b=>by simp[ma,show¬i=0 from an,show¬i=1 from an,d,e]
  simp[n,o,q,r,s,t,u,v,d,e,aO,y]
def FV(vars:List Int)(tab:List Nat):V:=.agg [.vs (ints .i64 vars) .no,.vs (ak .u32 tab) .no]
def Yw(h:bG G)(vars:List Int)(tab:List Nat)(j:Nat)(s:j<10)(d:tab.length<=100)(c:∀ n,n<tab.length->n ^^^ 2^j<tab.length) :
  FP G 100 [FV vars tab,.int .i64 j] (.bool (zZ tab j)):=by
 refine bD h.adK (aab rfl) ?_;simp[FV]
 refine aQ tab.length (fun n=>[(1,.int .i64 j),(2,.ptr 0 0),(8,.int .i64 tab.length),(9,.int .i64 n)])
  (fun _=>[some (.cells [.vs (ints .i64 vars) .no,.vs (ak .u32 tab) .no])]) (fun n=>∀ m,m<n->tab[m]?=tab[m ^^^ 2^j]?) ?_ ?_
 ·simp[av,aj]
 intro n t e
 by_cases a:n<tab.length
 ·have f:tab[n]?=some tab[n]:=aad a;have g:tab[n ^^^ 2^j]?=some (tab[n ^^^ 2^j]'(c n a)):=aad (c n a);have i:2^j<2^63:=aaL (by decide) an;have k:jc .i64 1 (j:Int)=((2^j:Nat):Int):=vE an;have l:vl .i64 (n:Int) ((2^j:Nat):Int)=((n ^^^ 2^j:Nat):Int):=zLG an i
  have o:¬(j:Int)<0:=an
  have p:aE .i64 (n:Int) 1=((n+1:Nat):Int):=X_ a an;simp[a,k,l,o,c n a,-aae,-aaa];rw[XO];split
  ·rename_i b;simp at b;simp only[zLt,zCs,zLA,Ws];simp[zZ];exact⟨n,a,by rw[f,g];simpa using b⟩
  ·rename_i b;simp at b;simp[a,p,av,aj,-aaa];intro m u
   by_cases q:m=n
   ·subst q;rw[f,g,b]
   ·exact e m an
 ·have r:n=tab.length:=an
  subst r;simp[zZ];exact e
def Yx{vars:List Int}{tab:List Nat}(h:vars.length<=4)(b:tab.length=2^vars.length){j:Nat}(c:j<vars.length):∀ n,n<tab.length->n ^^^ 2^j<tab.length:=by intro n a;rw[b] at a |-;exact abd a (aaL (by decide) c)
def Ch{vars:List Int}{tab:List Nat}(h:vars.length<=4)(a:tab.length=2^vars.length):tab.length<=16:=by rw[a];exact aal (by decide) h
def ym(l:bG G)(vars:List Int)(tab:List Nat)(a:vars.length<=9223372036854775807)(A:tab.length<=9223372036854775807):FP G 101 [FV vars tab] (.bool (uf vars tab)):=by
 refine bD l.adL (aab rfl) ?_;simp[FV]
 by_cases e:vars.length<=4
 ·by_cases b:tab.length=2^vars.length
  ·have B:=Ch e b;simp(disch:=omega)[kQ,vE,b,-aae]
   refine aQ vars.length (fun n=>[(1,.ptr 0 0),(20,.vs (ints .i64 vars) .no),(21,.int .i64 vars.length),(22,.int .i64 n)])
    (fun _=>[some (.cells [.vs (ints .i64 vars) .no,.vs (ak .u32 tab) .no])]) (fun n=>∀ m,m<n->Bt vars tab m) ?_ ?_
   ·simp[av,aj]
   intro n C o
   by_cases c:n<vars.length
   ·have f:¬Bt vars tab n->uf vars tab=false:=fun h=>by simp only[uf,decide_eq_false_iff_not];exact fun s=>h (s.2.2 n c)
    have t:Bt vars tab n->∀ m,m<n+1->Bt vars tab m:=fun h m D=>by
     by_cases w:m=n
     ·subst w;exact h
     ·exact o m an
    have g:vars[n]?=some vars[n]:=aad c
    by_cases E:vars[n]<0
    ·simp(disch:=omega)[pa,bM];exact f (by rintro⟨v,a,k,_⟩;rw[g] at a;cases a;omega)
    by_cases p:vars[n]<34
    ·by_cases hd:0<n
     ·have q:vars[n-1]?=some vars[n-1]:=aad an
      by_cases r:vars[n-1]<vars[n]
      ·simp(disch:=omega)[pa,FZ,bM,kQ,gO,Yc,-aaa];refine ax (Yw l vars tab n an an (Yx e b c)) ?_
       cases i:zZ tab n<;>simp(disch:=omega)[c,av,aj,bH,-aaa]
       ·exact f (by rintro⟨v,a,k,_,_,j⟩;rw[i] at j;cases j)
       ·exact t ⟨_,g,an,p,fun u _ d=>by rw[q] at d;cases d;exact r,i⟩
      ·simp(disch:=omega)[pa,FZ,bM,kQ,gO,Yc,-aaa];exact f (by rintro⟨v,a,k,_,d,_⟩;rw[g] at a;cases a;exact r (d _ hd q))
     ·have x:n=0:=an
      subst x;simp(disch:=omega)[FZ,kQ,gO,-aaa];refine ax (Yw l vars tab 0 an an (Yx e b c)) ?_
      cases i:zZ tab 0<;>simp(disch:=omega)[c,av,aj,ey]
      ·exact f (by rintro⟨v,a,k,_,_,j⟩;rw[i] at j;cases j)
      ·exact⟨_,g,an,p,fun u d=>absurd d an,i⟩
    ·simp(disch:=omega)[pa,bM,kQ];exact f (by rintro⟨v,a,k,_⟩;rw[g] at a;cases a;omega)
   ·have y:n=vars.length:=an
    subst y
    have:uf vars tab=true:=by simp only[uf,decide_eq_true_eq];exact⟨e,b,o⟩
    simp[this]
  ·have z:¬((tab.length:Int)=((2^vars.length:Nat):Int)):=by simp only[Int.ofNat_inj];exact b
   simp(disch:=omega)[kQ,vE,kO z,-aae];simp[uf,Right,b]
 ·simp(disch:=omega)[bM];simp[uf,Right,e]
def dm(kind:Int)(a b:Nat):Nat×Bool :=
 if kind=4 then((a+b)%4294967296,true) else if kind=20 then((a+4294967296-b)%4294967296,true) else if kind=36 then(a*b%4294967296,true)
 else if kind=52 then(if b=0 then(0,false) else(a/b,true)) else if kind=68 then(a ||| b,true) else if kind=84 then(a &&& b,true)
 else if kind=100 then(a*2^(b%32)%4294967296,true) else if kind=116 then(a/2^(b%32),true) else if kind=164 then(a ^^^ b,true) else(0,false)
def F8(n:Int):IntKind.u32.wrap n=n%4294967296:=rfl
def KZ(g:dR G)(kind:Int)(a b:Nat)(d:a<4294967296)(c:b<4294967296) :
  FP G 107 [.int .i64 kind,.int .u32 a,.int .u32 b] (.a_ [.int .u32 ((dm kind a b).1:Nat),.bool (dm kind a b).2]):=by
 refine bD g.adJ (aab rfl) ?_;simp
 by_cases h:kind=4
 ·subst h;simp[dm];simp[aE,F8]
 by_cases h:kind=20
 ·subst h;simp[dm];simp[c_,F8];omega
 by_cases h:kind=36
 ·subst h;simp[dm];simp[eO,F8]
 by_cases h:kind=52
 ·subst h
  by_cases e:b=0
  ·subst e;simp[dm]
  ·simp(disch:=omega)[dm,e,aO];simp[Ye d e]
 by_cases h:kind=68
 ·subst h;simp[dm];exact yW d c
 by_cases h:kind=84
 ·subst h;simp[dm];exact Io d c
 by_cases h:kind=100
 ·subst h
  have f:b%32<=32:=an
  simp(disch:=omega)[dm,zEm c,Mi f,kQ,-aaq]
 by_cases h:kind=116
 ·subst h
  have f:b%32<=32:=an
  simp(disch:=omega)[dm,zEm c,Ae f,kQ,-aaq]
 by_cases h:kind=164
 ·subst h;simp[dm];exact X9 d c
 simp(disch:=omega)[dm,aO, *]
def zu8(a:bG G)(c:Nat):FP G 102 [.int .u32 (c:Int)] (FV [] [c]):=by refine bD a.adM (aab rfl) ?_;simp[FV,ak]
def zGW(a:bG G)(i:Int):FP G 103 [.int .i64 i] (if 0<=i/\i<34 then .a_ [FV [i] [0,4294967295],.int .i64 0] else .a_ [FV [] [],.int .i64 1]):=by
 refine bD a.adN (aab rfl) ?_
 by_cases b:i<0
 ·simp(disch:=omega)[FV,ak,ints,FZ,bM]
 ·by_cases c:i<34
  ·simp(disch:=omega)[FV,ak,ints,pa,FZ,bM,kQ]
  ·simp(disch:=omega)[FV,ak,ints,pa,kQ]
def Of(h:bG G)(a b:List Int)(i:a.length+b.length<=1000) :
  FP G 104 [.vs (ints .i64 a) .no,.vs (ints .i64 b) .no] (.vs (ints .i64 (fw a b)) .no):=by
 refine bD h.adO (aab rfl) ?_;simp
 refine wu (fun s:List Int×List Int×List Int=>s.2.1.length+s.2.2.length)
  (fun s=>[(0,.vs (ints .i64 s.2.1) .no),(1,.vs (ints .i64 s.2.2) .no),(5,.vs (ints .i64 s.1) (.own 0))]) (fun s=>[some (.zone s.1.length)])
  (fun s=>s.1++fw s.2.1 s.2.2=fw a b/\s.1.length+s.2.1.length+s.2.2.length<=1000) ([],a,b) ?_ ?_
 ·simp[av,aj,i]
 rintro⟨d,x,y⟩ ⟨c,e⟩;simp only at c e
 cases x with
 | nil =>
  cases y with
  | nil=>simp[fw] at c;simp[ey,c]
  | cons v y =>
   simp only[aav,acj] at e;simp(disch:=omega)[ey,bM,aC,DX,aO,sR,pa];refine⟨(d++[v],[],y),?_⟩;simp[fw] at c;simp[c,av,aj,fw]
   omega
 | cons u x =>
  cases y with
  | nil =>
   simp only[aav,acj] at e;simp(disch:=omega)[ey,bM,aC,DX,sR,pa];refine⟨(d++[u],x,[]),?_⟩;simp[zxf] at c;simp[c,av,aj,zxf]
   omega
  | cons v y =>
   simp only[aav] at e;rw[fw] at c
   by_cases f:u<v
   ·simp(disch:=omega)[ey,bM,aC,DX,aO,sR,pa];refine⟨(d++[u],x,v::y),?_⟩;simp[f] at c;simp[c,av,aj,DX];omega
   ·by_cases g:v<u
    ·simp(disch:=omega)[ey,bM,kQ,aC,DX,aO,sR,pa];refine⟨(d++[v],u::x,y),?_⟩;simp[f,g] at c;simp[c,av,aj,DX];omega
    ·simp(disch:=omega)[ey,bM,kQ,aC,DX,aO,sR,pa];refine⟨(d++[u],x,y),?_⟩;simp[f,g] at c;simp[c,av,aj];omega
def zAw{k j b:Nat}(a:k<2^j)(c:b<=1):k ||| b*2^j=k+2^j*b:=by rw[abE b,acP,<-abl a];omega
def yo(n i:Nat):n/2^i%2=(n.testBit i).toNat:=by
 rw[abQ]
 rcases Nat.mod_two_eq_zero_or_one (n/2^i) with h|h<;>simp[h]
def rn{b:Nat}(c:b<9223372036854775808):iZ .i64 (b:Int) 1=((b%2:Nat):Int):=by have:=zLH (a:=b) (b:=1) c (by decide);rw[show((1:Nat):Int)=1 from rfl] at this;rw[this,show(1:Nat)=2^1-1 from rfl,abe]
def Sj(l:bG G)(fv:List Int)(tab:List Nat)(vs:List Int)(n:Nat)(w:tab.length=2^fv.length)(g:fv.Sublist vs)(m:vs.Nodup)(x:vs.length<=30)(y:n<2^31) :
  FP G 105 [FV fv tab,.vs (ints .i64 vs) .no,.int .i64 n] (.int .u32 (dq fv tab (iX vs n):Nat)):=by
 have z:=g.length_le;refine bD l.adP (aab rfl) ?_;simp[FV]
 refine wu (fun s:Nat×Nat=>vs.length-s.1)
  (fun s=>[(2,.int .i64 n),(3,.ptr 0 0),(7,.int .i64 (idx (fv.take s.2) (iX vs n):Nat)),(8,.int .i64 s.2),(11,.vs (ints .i64 vs) .no),(12,.int .i64 vs.length),(13,.int .i64 s.1)])
  (fun _=>[some (.cells [.vs (ints .i64 fv) .no,.vs (ak .u32 tab) .no])]) (fun s=>s.1<=vs.length/\s.2<=fv.length/\(fv.drop s.2).Sublist (vs.drop s.1)) (0,0) ?_ ?_
 ·simp[av,aj,g,idx]
 rintro⟨i,j⟩ ⟨hi,e,a⟩;simp only at hi e a
 by_cases o:i<vs.length
 ·have b:vs.drop i=vs[i]::vs.drop (i+1):=aaB o
  by_cases d:j<fv.length
  ·have f:fv.drop j=fv[j]::fv.drop (j+1):=aaB d
   by_cases c:fv[j]=vs[i]
   ·have p:idx (fv.take j) (iX vs n)<2^j:=by have:=F5 (fv.take j) (iX vs n);rwa[aa3,abU e] at this
    have q:2^j<=2^30:=aal (by decide) an;have t:n/2^i<9223372036854775808:=aaw (aaE _ _) an
    have k:n/2^i%2<=1:=an
    have A:n/2^i%2*2^j<=1*2^j:=acz _ k
    have u:idx (fv.take (j+1)) (iX vs n)=idx (fv.take j) (iX vs n) ||| n/2^i%2*2^j:=by rw[zAw p k,aaK,Yq,aad d,aa3,abU e,yo];simp only[acG,idx,iX,c,List.Nodup.idxOf_getElem m,acZ,ac0]
    simp(disch:=omega)[bM,c,zW,rn t,Sc,DB,bH,kQ,-aaa,-aaX,-aae,-aaq,-aau];refine⟨(i+1,j+1),?_⟩;simp[av,aj,u,-aaa]
    and_intros<;>first|omega|skip
    rw[f,b,c] at a;exact List.cons_sublist_cons.1 a
   ·simp(disch:=omega)[bM,bH,aO c,-aaa];refine⟨(i+1,j),?_⟩;simp[av,aj,-aaa]
    and_intros<;>first|omega|skip
    rw[f,b] at a;rw[f]
    rcases List.sublist_cons_iff.1 a with h|⟨r,v,_⟩
    ·exact h
    ·exact absurd (List.cons.inj v).1 c
  ·simp(disch:=omega)[bM,kQ,bH,-aaa];refine⟨(i+1,j),?_⟩;simp[av,aj,-aaa]
   and_intros<;>first|omega|skip
   rw[abk (as:=fv) an];exact acR _
 ·have d:j=fv.length:=by rw[abk (as:=vs) an] at a;have:=abZ.1 (List.sublist_nil.1 a);omega
  subst d;have:=F5 fv (iX vs n);simp(disch:=omega)[kQ,dq,aan]
def im(H:ae):Prop:=∀ m,H.length<=m->H.map (abG (aw.cl m))=H
def MR{H:ae}(h:im H)(r:ae)(n:Nat):aj (H.length+n) (H++r)=H++(r.take n).map (abG (aw.cl (H.length+n))):=by
 unfold aj;rw[List.take_append,ack]
 congr 1
 ·rw[aa5 an];exact h _ an
 ·congr 2;omega
def vb{ro:Bool}{f:Nat}{args:List V}{r:V}{H H1:ae}{K:List Kt}{e:Env}{Q:Ex->Env->ae->Prop}{base:Nat}{d:Option Nat}{os:List aD}(h:bA G (.F f args H r H1))(a:ro=true->base<=H.length/\H1.take H.length=H)
  (b:WO G base os K (e.put d r) H1 Q):zEj G ro f args base d os K e H Q:=⟨r,H1,h,a,b⟩
def sh(a:Nat):Nat:=(4294967296-a)%4294967296
def Sl(kind:Int){a b:Nat}(d:a<4294967296)(c:b<4294967296):(dm kind a b).1<4294967296:=by
 have e:=acM (n:=32) d c;have f:=acH (n:=32) a c;have g:=abd (n:=32) d c;have h:a/b<=a:=aaE _ _;have i:a/2^(b%32)<=a:=aaE _ _;unfold dm
 repeat' split
 all_goals first
  | (simp only;omega)
  | (simp only;exact aa6 _ (by decide))
def nS(l:List Bool):List (List V):=l.map fun b=>[.bool b]
@[simp] theorem zGX (l:List Bool):(nS l).length=l.length:=by simp[nS]
@[simp] theorem zMl (l:List Bool) (i:Nat):(nS l)[i]?=(l[i]?).map fun b=>[.bool b]:=by simp[nS]
@[simp] theorem zMm:nS []=[]:=rfl
@[simp] theorem zLL (l:List Bool) (x:Bool):nS l++[[.bool x]]=nS (l++[x]):=by simp[nS]
@[simp] theorem zME (l:List Bool):(∀ f∈nS l,f.length=1)=True:=by simp only[eq_iff_iff,iff_true];intro f a;simp only[nS,abS] at a;obtain⟨x,_,rfl⟩:=a;rfl
def jU(tab:List Nat)(j n:Nat):List Nat:=((aaT n).filter fun n=>!n.testBit j).map fun n=>tab.getD n 0
def Sm(tab:List Nat)(j n:Nat):(jU tab j n).length<=n:=by have:=List.length_filter_le (fun n=>!n.testBit j) (aaT n);simp[jU] at this |-;exact this
def So{tab:List Nat}{j n:Nat}(h:n.testBit j=false):jU tab j (n+1)=jU tab j n++[tab.getD n 0]:=by simp[jU,abh,acI,h]
def Sp{tab:List Nat}{j n:Nat}(h:n.testBit j=true):jU tab j (n+1)=jU tab j n:=by simp[jU,abh,acI,h]
def zCF(P:bG G)(vs:List Int)(tab:List Nat)(U:tab.length=2^vs.length)(h4:vs.length<=4)(z:vs.Nodup) :
  ∃ c g,FP G 106 [FV vs tab] (FV c g)/\c.Sublist vs/\g.length=2^c.length/\(∀ p,dq c g p=dq vs tab p)/\∀ v∈c,dep (dq c g) v:=by
 suffices h:∃ r,FP G 106 [FV vs tab] r/\∃ c g,r=FV c g/\c.Sublist vs/\g.length=2^c.length/\(∀ p,dq c g p=dq vs tab p)/\∀ v∈c,dep (dq c g) v by
  obtain⟨r,W,c,g,rfl,A⟩:=h;exact⟨c,g,W,A⟩
 refine KO P.adQ (aab rfl) ?_;simp[FV]
 refine wu (fun s:List Int×Tk×List Nat×Nat=>s.1.length*100+(50-s.2.2.2))
  (fun s=>[(1,.ptr 0 0),(2,.ptr 1 0),(3,.int .i64 s.2.2.2)])
  (fun s=>[some (.cells [.vs (ints .i64 s.1) s.2.1,.vs (ak .u32 s.2.2.1) .no]),some (.cells [.vs [] .full,.vs [] .full])])
  (fun s=>s.1.Sublist vs/\(s.2.1=.no\/s.2.1=.full)/\s.2.2.1.length=2^s.1.length/\(∀ p,dq s.1 s.2.2.1 p=dq vs tab p)/\s.2.2.2<=s.1.length/\∀ m,m<s.2.2.2->zZ s.2.2.1 m=true)
  (vs,.no,tab,0) ?_ ?_
 ·simp[av,aj,U]
 rintro⟨a,tk,tb,j⟩ ⟨y,B,q,D,X,L⟩;simp only at y B q D X L;have ye:=y.length_le;have Q:a.Nodup:=z.sublist y
 have h2:tb.length<=16:=by rw[q,show 16=2^4 from rfl];exact aal (by decide) an
 by_cases E:j<a.length
 ·simp(disch:=omega)[bM]
  have mu:V.nf (V.cl 0 (.agg [.vs (ints .i64 a) tk,.vs (ak .u32 tb) .no]))=FV a tb:=by rcases B with rfl|rfl<;>simp[FV]
  refine ax (Yw P a tb j an an (Yx an q E)) ?_;cases R:zZ tb j
  case true =>
   simp(disch:=omega)[bH,-aaa];refine⟨(a,tk,tb,j+1),?_⟩
   have Y:∀ m,m<j+1->zZ tb m=true:=fun m hm=>by
    by_cases e:m=j
    ·subst e;exact R
    ·exact L m an
   rcases B with rfl|rfl<;>(simp[av,aj,y,q,D,-aaa];exact⟨an,an,Y⟩)
  case false =>
   have f:∀ n,Tk.cl n tk=tk:=fun n=>by rcases B with rfl|rfl<;>rfl
   have Z:a≠[]:=fun e=>by simp[e] at E
   have S:(a.drop (j+1)).take (a.length-(j+1))=a.drop (j+1):=by rw[aa5];simp
   have t:a.eraseIdx j=a.take j++a.drop (j+1):=List.eraseIdx_eq_take_drop_succ a j;obtain⟨k,hk⟩:∃ k,a.length=k+1:=⟨a.length-1,an⟩
   have ha:(a.take j++a.drop (j+1)).length=k:=by rw[<-t,ab7 E];omega
   have F:(qh tb j).length=2^k:=zCC (by rw[q,hk]) an
   have H:∀ p,dq (a.take j++a.drop (j+1)) (qh tb j) p=dq vs tab p:=fun p=>by rw[<-t,zFh Q q E R,D]
   have I:(a.take j++a.drop (j+1)).Sublist vs:=by rw[<-t];exact(List.eraseIdx_sublist a j).trans y
   have J:min j a.length+(a.length-(j+1))=k:=an
   have K:jU tb j tb.length=qh tb j:=rfl
   by_cases T:j=0
   ·have C:a.take j=[]:=by rw[T];rfl
    by_cases yQ:a.length=j+1
    ·have o:a.drop (j+1)=[]:=abk an;simp(disch:=omega)[sR,pa,Se,aC,Sa,DY,o,-aaa]
     refine aQ tb.length (fun n=>[(1,.ptr 0 0),(2,.ptr 1 0),(3,.int .i64 j),(4,.ptr 2 0),(32,.int .i64 tb.length),(33,.int .i64 n)])
      (fun n=>[some (.cells [.vs (ints .i64 a) tk,.vs (ak .u32 tb) .no]),some (.cells [.vs [] .full,.vs [] .full]),some (.cells [.vs (ints .i64 (a.take j++a.drop (j+1))) .full,.vs (ak .u32 (jU tb j n)) (.own 5)]),none,none,some (.zone (jU tb j n).length)])
      (fun _=>True) ?_ ?_
     ·simp[av,aj,jU,f,C,o]
     intro n z _
     by_cases d:n<tb.length
     ·have M:=Sm tb j n;have l:n/2^j<9223372036854775808:=aaw (aaE _ _) an;cases b:n.testBit j
      ·have u:n/2^j%2=0:=by rw[yo,b];rfl
       have N:tb.getD n 0=tb[n]:=by simp[aan,d]
       simp(disch:=omega)[bM,kQ,zW,rn l,u,aC,bH,av,aj,d,So b,f,-aaa,-aau,-aaq]
      ·have w:n/2^j%2=1:=by rw[yo,b];rfl
       simp(disch:=omega)[bM,kQ,zW,rn l,w,bH,av,aj,d,Sp b,f,-aaa,-aau,-aaq]
     ·have x:n=tb.length:=an
      subst x;simp(disch:=omega)[ey];refine⟨(a.eraseIdx j,.full,qh tb j,0),?_⟩;simp[av,aj,t,K,F,H,I,J];omega
    ·have o:a.drop (j+1)≠[]:=fun e=>by have:=abZ.1 e;omega
     simp(disch:=omega)[sR,pa,Se,aC,X7,Sa,X6,DY,S,o,-aaa]
     refine aQ tb.length (fun n=>[(1,.ptr 0 0),(2,.ptr 1 0),(3,.int .i64 j),(4,.ptr 2 0),(32,.int .i64 tb.length),(33,.int .i64 n)])
      (fun n=>[some (.cells [.vs (ints .i64 a) tk,.vs (ak .u32 tb) .no]),some (.cells [.vs [] .full,.vs [] .full]),some (.cells [.vs (ints .i64 (a.take j++a.drop (j+1))) (.own 4),.vs (ak .u32 (jU tb j n)) (.own 5)]),none,some (.zone (a.length-(j+1))),some (.zone (jU tb j n).length)])
      (fun _=>True) ?_ ?_
     ·simp[av,aj,jU,f,C]
     intro n z _
     by_cases d:n<tb.length
     ·have M:=Sm tb j n;have l:n/2^j<9223372036854775808:=aaw (aaE _ _) an;cases b:n.testBit j
      ·have u:n/2^j%2=0:=by rw[yo,b];rfl
       have N:tb.getD n 0=tb[n]:=by simp[aan,d]
       simp(disch:=omega)[bM,kQ,zW,rn l,u,aC,bH,av,aj,d,So b,f,-aaa,-aau,-aaq]
      ·have w:n/2^j%2=1:=by rw[yo,b];rfl
       simp(disch:=omega)[bM,kQ,zW,rn l,w,bH,av,aj,d,Sp b,f,-aaa,-aau,-aaq]
     ·have x:n=tb.length:=an
      subst x;simp(disch:=omega)[ey];refine⟨(a.eraseIdx j,.no,qh tb j,0),?_⟩;simp[av,aj,t,K,F,H,I,J];omega
   ·have C:a.take j≠[]:=fun e=>by rcases List.take_eq_nil_iff.1 e with h|h;exact T h;exact Z h
    by_cases yQ:a.length=j+1
    ·have o:a.drop (j+1)=[]:=abk an;simp(disch:=omega)[sR,pa,Se,aC,X7,Sa,X6,DY,C,o,-aaa]
     refine aQ tb.length (fun n=>[(1,.ptr 0 0),(2,.ptr 1 0),(3,.int .i64 j),(4,.ptr 2 0),(32,.int .i64 tb.length),(33,.int .i64 n)])
      (fun n=>[some (.cells [.vs (ints .i64 a) tk,.vs (ak .u32 tb) .no]),some (.cells [.vs [] .full,.vs [] .full]),some (.cells [.vs (ints .i64 (a.take j++a.drop (j+1))) (.own 3),.vs (ak .u32 (jU tb j n)) (.own 5)]),some (.zone j),none,some (.zone (jU tb j n).length)])
      (fun _=>True) ?_ ?_
     ·simp[av,aj,jU,f,o]
     intro n z _
     by_cases d:n<tb.length
     ·have M:=Sm tb j n;have l:n/2^j<9223372036854775808:=aaw (aaE _ _) an;cases b:n.testBit j
      ·have u:n/2^j%2=0:=by rw[yo,b];rfl
       have N:tb.getD n 0=tb[n]:=by simp[aan,d]
       simp(disch:=omega)[bM,kQ,zW,rn l,u,aC,bH,av,aj,d,So b,f,-aaa,-aau,-aaq]
      ·have w:n/2^j%2=1:=by rw[yo,b];rfl
       simp(disch:=omega)[bM,kQ,zW,rn l,w,bH,av,aj,d,Sp b,f,-aaa,-aau,-aaq]
     ·have x:n=tb.length:=an
      subst x;simp(disch:=omega)[ey];refine⟨(a.eraseIdx j,.no,qh tb j,0),?_⟩;simp[av,aj,t,K,F,H,I,J];omega
    ·have o:a.drop (j+1)≠[]:=fun e=>by have:=abZ.1 e;omega
     simp(disch:=omega)[sR,pa,Se,aC,X7,Sa,X6,zwr,DY,S,C,o,-aaa]
     refine aQ tb.length (fun n=>[(1,.ptr 0 0),(2,.ptr 1 0),(3,.int .i64 j),(4,.ptr 2 0),(32,.int .i64 tb.length),(33,.int .i64 n)])
      (fun n=>[some (.cells [.vs (ints .i64 a) tk,.vs (ak .u32 tb) .no]),some (.cells [.vs [] .full,.vs [] .full]),some (.cells [.vs (ints .i64 (a.take j++a.drop (j+1))) (.own 3),.vs (ak .u32 (jU tb j n)) (.own 5)]),some (.zone (j+(a.length-(j+1)))),none,some (.zone (jU tb j n).length)])
      (fun _=>True) ?_ ?_
     ·simp[av,aj,jU,f]
     intro n z _
     by_cases d:n<tb.length
     ·have M:=Sm tb j n;have l:n/2^j<9223372036854775808:=aaw (aaE _ _) an;cases b:n.testBit j
      ·have u:n/2^j%2=0:=by rw[yo,b];rfl
       have N:tb.getD n 0=tb[n]:=by simp[aan,d]
       simp(disch:=omega)[bM,kQ,zW,rn l,u,aC,bH,av,aj,d,So b,f,-aaa,-aau,-aaq]
      ·have w:n/2^j%2=1:=by rw[yo,b];rfl
       simp(disch:=omega)[bM,kQ,zW,rn l,w,bH,av,aj,d,Sp b,f,-aaa,-aau,-aaq]
     ·have x:n=tb.length:=an
      subst x;simp(disch:=omega)[ey];refine⟨(a.eraseIdx j,.no,qh tb j,0),?_⟩;simp[av,aj,t,K,F,H,I,J];omega
 ·have O:j=a.length:=an
  subst O;simp(disch:=omega);refine⟨a,tb,?_⟩
  have hd:∀ v∈a,dep (dq a tb) v:=fun v hv=>by
   obtain⟨i,hi,rfl⟩:=abn.1 hv;exact(Sh Q q (aad hi)).1 (L i hi)
  rcases B with rfl|rfl<;>simp[y,q,D]<;>exact hd
def Sq{vs:List Int}{tab:List Nat}(h:∀ w∈tab,w<4294967296)(p:Int->Bool):dq vs tab p<4294967296:=by
 simp only[dq,aan]
 cases a:tab[idx vs p]? with
 | none=>simp
 | some w=>exact h w (ab0 a)
def YA(a:bG G)(kind:Int)(fv gv vs:List Int)(ft gt:List Nat)(e f g:Option aw)(x:V)(n:Nat)
  (h:ft.length=2^fv.length) (i:gt.length=2^gv.length) (j:∀ w∈ft,w<4294967296) (k:∀ w∈gt,w<4294967296)
  (l:fv.Sublist vs) (m:gv.Sublist vs) (b:vs.Nodup) (c:vs.length<=30) (d:n<2^31)
  (H:ae) (o:H=[some (.cells [.int .i64 kind]),some (.cells [.vs (ints .i64 fv) .no,.vs (ak .u32 ft) .no]),some (.cells [.vs (ints .i64 gv) .no,.vs (ak .u32 gt) .no]),e,some (.cells [.vs (ints .i64 vs) .no,x]),f,g]) :
  bA G (.F 108 [.int .i64 n,.ptr 0 0,.ptr 1 0,.ptr 4 0,.ptr 2 0] H (.int .u32 ((dm kind (dq fv ft (iX vs n)) (dq gv gt (iX vs n))).1:Nat)) H):=by
 subst o;refine ee a.adR (aab rfl) ?_;simp;refine ax (Sj a fv ft vs n h l b c d) ?_;simp;refine ax (Sj a gv gt vs n i m b c d) ?_;simp;refine ax (KZ a.todR kind _ _ (Sq j _) (Sq k _)) ?_;simp
def pb(kind:Int)(fv gv:List Int)(ft gt:List Nat):Prop:=(kind=68\/kind=84\/kind=164)/\Right fv ft/\Right gv gt/\(fw fv gv).length<=4
def zGY{kind:Int}{a b:Nat}(h:kind=68\/kind=84\/kind=164)(d:a<4294967296)(c:b<4294967296):(dm kind a b).1<4294967296:=by
 rcases h with rfl|rfl|rfl<;>simp[dm]
 ·exact acM (n:=32) d c
 ·exact acH (n:=32) _ c
 ·exact abd (n:=32) d c
def zEp(a:bG G)(kind:Int)(fv gv:List Int)(ft gt:List Nat)(q:fv.length<=9223372036854775807)(u:gv.length<=9223372036854775807)(s:ft.length<=9223372036854775807)(x:gt.length<=9223372036854775807)
  (B:∀ w∈ft,w<4294967296) (C:∀ w∈gt,w<4294967296) :
  ∃ r,FP G 109 [.int .i64 kind,FV fv ft,FV gv gt] r /\
   ((¬pb kind fv gv ft gt/\r=.a_ [FV [] [],.bool false]) \/
    (pb kind fv gv ft gt/\∃ vs tab,r=.a_ [FV vs tab,.bool true]/\Right vs tab/\(∀ w∈tab,w<4294967296)/\∀ p,dq vs tab p=(dm kind (dq fv ft p) (dq gv gt p)).1)):=by
 refine KO a.adS (aab rfl) ?_;simp[FV]
 by_cases c:kind=68\/kind=84\/kind=164
 case neg =>
  have P:kind≠68:=fun e=>c (.inl e);have Q:kind≠84:=fun e=>c (.inr (.inl e));have R:kind≠164:=fun e=>c (.inr (.inr e));simp[P,Q,R,kO,pb]
 have S:∀ b:Bool,uf fv ft=b->True:=fun _ _=>trivial;cases d:uf fv ft
 ·have I:¬Right fv ft:=fun h=>by rw[F4.2 h] at d;cases d
  rcases c with rfl|rfl|rfl<;>(simp;refine ax (ym a fv ft q s) ?_;simp[d,pb,I])
 cases g:uf gv gt
 ·have I:¬Right gv gt:=fun h=>by rw[F4.2 h] at g;cases g
  rcases c with rfl|rfl|rfl<;>(simp;refine ax (ym a fv ft q s) ?_;simp[d];refine ax (ym a gv gt u x) ?_;simp[g,pb,I])
 have i:=F4.1 d;have j:=F4.1 g;have tH:=zxg fv gv;have T:=i.1;have U:=j.1
 by_cases y:(fw fv gv).length<=4
 case neg =>
  rcases c with rfl|rfl|rfl<;>(simp;refine ax (ym a fv ft q s) ?_;simp[d];refine ax (ym a gv gt u x) ?_;simp[g];refine ax (Of a fv gv an) ?_;simp(disch:=omega)[bM,pb,y])
 have D:=zAs fv gv i.up j.up;have E:=D.nodup;have J:fv.Sublist (fw fv gv):=KW i.up D fun v f=>(Bu _ _).2 (.inl f);have K:gv.Sublist (fw fv gv):=KW j.up D fun v f=>(Bu _ _).2 (.inr f);have W:pb kind fv gv ft gt:=⟨c,i,j,y⟩
 have F_:2^(fw fv gv).length<=16:=by rw[show 16=2^4 from rfl];exact aal (by decide) y
 obtain⟨k,l,L,M,N,X,Y⟩:=zCF a (fw fv gv) ((aaT (2^(fw fv gv).length)).map fun n=>(dm kind (dq fv ft (iX (fw fv gv) n)) (dq gv gt (iX (fw fv gv) n))).1) ir y E
 have z:∀ p,dq k l p=(dm kind (dq fv ft p) (dq gv gt p)).1:=fun p=>by
  rw[X];have m:=F5 (fw fv gv) p;have Z:dq fv ft (iX (fw fv gv) (idx (fw fv gv) p))=dq fv ft p:=zxi fun v f=>zxh ((Bu _ _).2 (.inl f)) p;have e2:dq gv gt (iX (fw fv gv) (idx (fw fv gv) p))=dq gv gt p:=zxi fun v f=>zxh ((Bu _ _).2 (.inr f)) p;rw[dq];simp[aan,m,Z,e2]
 have O:Up k:=D.sublist M
 have F:Right k l:=by
  refine Right.of (Nat.le_trans M.length_le y) N O (fun v f=>?_) Y
  rcases(Bu _ _).1 (M.subset f) with h|h
  ·exact i.mem h
  ·exact j.mem h
 have t:∀ w∈l,w<4294967296:=fun w t=>by
  obtain⟨n,H,rfl⟩:=abn.1 t;rw[zFg O.nodup N H,z];exact zGY c (Sq B _) (Sq C _)
 have o:pb kind fv gv ft gt/\∃ vs tab,V.a_ [FV k l,.bool true]=.a_ [FV vs tab,.bool true]/\Right vs tab/\(∀ w∈tab,w<4294967296)/\∀ p,dq vs tab p=(dm kind (dq fv ft p) (dq gv gt p)).1 :=
  ⟨W,k,l,rfl,F,t,z⟩
 rcases c with rfl|rfl|rfl
 ·simp;refine ax (ym a fv ft q s) ?_;simp[d];refine ax (ym a gv gt u x) ?_;simp[g];refine ax (Of a fv gv an) ?_;simp(disch:=omega)[kQ,vE,-aae]
  refine aQ (2^(fw fv gv).length) (fun n=>[(6,.ptr 3 0),(8,.ptr 4 0),(9,.fn 108 [.ptr 0 0,.ptr 1 0,.ptr 4 0,.ptr 2 0]),(47,.int .i64 (2^(fw fv gv).length:Nat)),(48,.int .i64 n)])
   (fun n=>[some (.cells [.int .i64 68]),some (.cells [.vs (ints .i64 fv) .no,.vs (ak .u32 ft) .no]),some (.cells [.vs (ints .i64 gv) .no,.vs (ak .u32 gt) .no]),some (.cells [.vs [] .full,.vs [] .full]),
    some (.cells [.vs (ints .i64 (fw fv gv)) .no,.vs (ak .u32 ((aaT n).map fun n=>(dm 68 (dq fv ft (iX (fw fv gv) n)) (dq gv gt (iX (fw fv gv) n))).1)) (.own 5)]),some (.zone n)])
   (fun _=>True) ?_ ?_
  ·simp[av,aj,-aae]
  intro n H _
  by_cases m:n<2^(fw fv gv).length
  ·simp(disch:=omega)[bM,-aae,-aaa];refine kj (YA a 68 fv gv (fw fv gv) ft gt _ _ _ _ n i.2.1 j.2.1 B C J K E an an _ rfl) (by simp[aj]) ?_;simp(disch:=omega)[aC,bH,aj,av,m,abh,-aae,-aaa]
  ·have A:n=2^(fw fv gv).length:=an
   subst A;simp(disch:=omega)[-aae];refine ax L ?_;simp[FV];exact⟨o.1,k,l,⟨rfl,rfl⟩,F,t,z⟩
 ·simp;refine ax (ym a fv ft q s) ?_;simp[d];refine ax (ym a gv gt u x) ?_;simp[g];refine ax (Of a fv gv an) ?_;simp(disch:=omega)[kQ,vE,-aae]
  refine aQ (2^(fw fv gv).length) (fun n=>[(6,.ptr 3 0),(8,.ptr 4 0),(9,.fn 108 [.ptr 0 0,.ptr 1 0,.ptr 4 0,.ptr 2 0]),(47,.int .i64 (2^(fw fv gv).length:Nat)),(48,.int .i64 n)])
   (fun n=>[some (.cells [.int .i64 84]),some (.cells [.vs (ints .i64 fv) .no,.vs (ak .u32 ft) .no]),some (.cells [.vs (ints .i64 gv) .no,.vs (ak .u32 gt) .no]),some (.cells [.vs [] .full,.vs [] .full]),
    some (.cells [.vs (ints .i64 (fw fv gv)) .no,.vs (ak .u32 ((aaT n).map fun n=>(dm 84 (dq fv ft (iX (fw fv gv) n)) (dq gv gt (iX (fw fv gv) n))).1)) (.own 5)]),some (.zone n)])
   (fun _=>True) ?_ ?_
  ·simp[av,aj,-aae]
  intro n H _
  by_cases m:n<2^(fw fv gv).length
  ·simp(disch:=omega)[bM,-aae,-aaa];refine kj (YA a 84 fv gv (fw fv gv) ft gt _ _ _ _ n i.2.1 j.2.1 B C J K E an an _ rfl) (by simp[aj]) ?_;simp(disch:=omega)[aC,bH,aj,av,m,abh,-aae,-aaa]
  ·have A:n=2^(fw fv gv).length:=an
   subst A;simp(disch:=omega)[-aae];refine ax L ?_;simp[FV];exact⟨o.1,k,l,⟨rfl,rfl⟩,F,t,z⟩
 ·simp;refine ax (ym a fv ft q s) ?_;simp[d];refine ax (ym a gv gt u x) ?_;simp[g];refine ax (Of a fv gv an) ?_;simp(disch:=omega)[kQ,vE,-aae]
  refine aQ (2^(fw fv gv).length) (fun n=>[(6,.ptr 3 0),(8,.ptr 4 0),(9,.fn 108 [.ptr 0 0,.ptr 1 0,.ptr 4 0,.ptr 2 0]),(47,.int .i64 (2^(fw fv gv).length:Nat)),(48,.int .i64 n)])
   (fun n=>[some (.cells [.int .i64 164]),some (.cells [.vs (ints .i64 fv) .no,.vs (ak .u32 ft) .no]),some (.cells [.vs (ints .i64 gv) .no,.vs (ak .u32 gt) .no]),some (.cells [.vs [] .full,.vs [] .full]),
    some (.cells [.vs (ints .i64 (fw fv gv)) .no,.vs (ak .u32 ((aaT n).map fun n=>(dm 164 (dq fv ft (iX (fw fv gv) n)) (dq gv gt (iX (fw fv gv) n))).1)) (.own 5)]),some (.zone n)])
   (fun _=>True) ?_ ?_
  ·simp[av,aj,-aae]
  intro n H _
  by_cases m:n<2^(fw fv gv).length
  ·simp(disch:=omega)[bM,-aae,-aaa];refine kj (YA a 164 fv gv (fw fv gv) ft gt _ _ _ _ n i.2.1 j.2.1 B C J K E an an _ rfl) (by simp[aj]) ?_;simp(disch:=omega)[aC,bH,aj,av,m,abh,-aae,-aaa]
  ·have A:n=2^(fw fv gv).length:=an
   subst A;simp(disch:=omega)[-aae];refine ax L ?_;simp[FV];exact⟨o.1,k,l,⟨rfl,rfl⟩,F,t,z⟩
def pQ(r:List Nat):Int->Nat:=fun v=>r.getD v.toNat 0
def zFk(w i:Nat):w &&& 2^i=2^i*(w.testBit i).toNat:=by
 refine aaF fun j=>?_;rw[acV,ab3,Nat.testBit_two_pow_mul]
 by_cases h:i=j
 ·subst h;cases w.testBit i<;>simp
 ·by_cases a:i<=j
  ·have:(w.testBit i).toNat<2^(j-i):=aat (by cases w.testBit i<;>simp:(w.testBit i).toNat<2^1) (aal (by decide) an);rw[aaJ this];simp[h]
  ·simp[h,a]
def zEq{b:Nat}(c:b<4294967296):iZ .u32 (b:Int) 1=((b%2:Nat):Int):=by have:=Io (a:=b) (b:=1) c (by decide);rw[show((1:Nat):Int)=1 from rfl] at this;rw[this,show(1:Nat)=2^1-1 from rfl,abe]
def zGZ{b:Nat}(a:b<9223372036854775808):fV .i64 (b:Int)=(b:Int):=Im a
def zLM{i:Nat}(hi:i<32):jc .u32 1 (i:Int)=((2^i:Nat):Int):=by have:=Mi (a:=1) (j:=i) an;rw[ac3,aaI (show 2^i<4294967296 from aaL (a:=2) (n:=32) (by decide) hi)] at this;exact this
def zwx{f:Nat->Bool}{i:Nat}(w:Nat)(h:f i=w.testBit i):gW f i ||| (w &&& 2^i)=gW f (i+1):=by rw[zFk,gW,h,acP,<-abl (wv f i)];omega
def zFl(k:ja G)(vs:List Int)(tab:List Nat)(r:List Nat)(m:vs.length<=9223372036854775807)(o:tab.length<=9223372036854775807)
  (p:∀ w∈tab,w<4294967296) (D:r.length=34) (q:∀ w∈r,w<4294967296) :
  FP G 110 [FV vs tab,.agg (au .u32 r)] (.a_ [.int .u32 (if uf vs tab then(val vs tab (pQ r):Nat) else(0:Nat)),.bool (uf vs tab)]):=by
 have s:bG G:=k.tobG;refine bD k.adT (aab rfl) ?_;simp[FV];refine ax (ym s vs tab m o) ?_;cases t:uf vs tab
 ·simp
 have R:=F4.1 t;have E:=R.1;simp
 refine aQ 32 (fun i=>[(2,.ptr 0 0),(3,.ptr 1 0),(6,.int .u32 (gW (fun i=>(dq vs tab fun v=>(pQ r v).testBit i).testBit i) i:Nat)),(14,.int .i64 i)])
  (fun _=>[some (.cells [.vs (ints .i64 vs) .no,.vs (ak .u32 tab) .no]),some (.cells (au .u32 r))]) (fun _=>True) ?_ ?_
 ·simp[av,aj,gW]
 intro i hi _
 by_cases c:i<32
 ·simp(disch:=omega)[bM,-aaa]
  refine aQ vs.length (fun j=>[(2,.ptr 0 0),(3,.ptr 1 0),(6,.int .u32 (gW (fun i=>(dq vs tab fun v=>(pQ r v).testBit i).testBit i) i:Nat)),(7,.int .i64 i),(8,.int .i64 (idx (vs.take j) (fun v=>(pQ r v).testBit i):Nat)),(14,.int .i64 i),(18,.vs (ints .i64 vs) .no),(19,.int .i64 vs.length),(20,.int .i64 j)])
   (fun _=>[some (.cells [.vs (ints .i64 vs) .no,.vs (ak .u32 tab) .no]),some (.cells (au .u32 r))]) (fun _=>True) ?_ ?_
  ·simp[av,aj,idx]
  intro j F _
  by_cases d:j<vs.length
  ·have H:=R.mem (aam d)
   have e:vs[j].toNat<r.length:=an
   have u:=sI .u32 r vs[j].toNat e;have g:=q _ (aam e);have hd:r[vs[j].toNat]/2^i<4294967296:=aaw (aaE _ _) g
   have b:idx (vs.take j) (fun v=>(pQ r v).testBit i)<2^j:=by have:=F5 (vs.take j) (fun v=>(pQ r v).testBit i);rwa[aa3,abU an] at this
   have x:2^j<=2^30:=aal (by decide) an
   have l:r[vs[j].toNat]/2^i%2<=1:=an
   have I:r[vs[j].toNat]/2^i%2*2^j<=1*2^j:=acz _ l
   have y:idx (vs.take (j+1)) (fun v=>(pQ r v).testBit i)=idx (vs.take j) (fun v=>(pQ r v).testBit i) ||| r[vs[j].toNat]/2^i%2*2^j:=by
    rw[zAw b l,aaK,Yq,aad d,aa3,abU an,yo]
    have:pQ r vs[j]=r[vs[j].toNat]:=by simp[pQ,aan,e]
    simp only[acG,idx,this,acZ,ac0]
   simp(disch:=omega)[bM,kQ,pa,aC,u,Ae,zEq hd,zGZ,Sc,DB,bH,av,aj,d,y,-aaa,-aaX,-aae,-aaq,-aau,-List.getElem?_drop]
  ·have h:j=vs.length:=an
   subst h;have b:=F5 vs (fun v=>(pQ r v).testBit i);rw[<-R.2.1] at b;have z:=p _ (aam b);have A:2^i<4294967296:=aaL (a:=2) (n:=32) (by decide) c;have J:gW (fun i=>(dq vs tab fun v=>(pQ r v).testBit i).testBit i) i<4294967296:=Nat.lt_trans (wv _ i) A;have K:tab[idx vs (fun v=>(pQ r v).testBit i)] &&& 2^i<4294967296:=aaw acp z
   have B:dq vs tab (fun v=>(pQ r v).testBit i)=tab[idx vs (fun v=>(pQ r v).testBit i)]:=by simp[dq,aan,b]
   have C:=zwx (f:=fun i=>(dq vs tab fun v=>(pQ r v).testBit i).testBit i) (i:=i) (tab[idx vs (fun v=>(pQ r v).testBit i)]) (by simp only[B]);simp(disch:=omega)[kQ,pa,zLM c,Io,yW,C,bH,av,aj,c,-aaa,-aae]
 ·have h:i=32:=an
  subst h;simp[val]
def jb(vs:List Int)(p:Int->Bool):List Nat:=(aaT 34).map fun(i:Nat)=>if(i:Int)∈vs/\p (i:Int)=true then 4294967295 else 0
def zCG(p:Int->Bool):jb [] p=aP 34:=by simp[jb,aP];rfl
def zAx{vs:List Int}(f:vs.Nodup)(p:Int->Bool){j:Nat}(c:j<vs.length)(g:0<=vs[j]) :
  jb (vs.take (j+1)) p=(jb (vs.take j) p).set vs[j].toNat (if p vs[j] then 4294967295 else 0):=by
 refine acT (by simp[jb]) fun i h k=>?_;simp only[jb,List.getElem_map,List.getElem_range,List.getElem_set]
 have d:vs.take (j+1)=vs.take j++[vs[j]]:=by rw[aaK,aad c];rfl
 have a:((i:Int)∈vs.take (j+1))↔((i:Int)∈vs.take j\/(i:Int)=vs[j]):=by rw[d];simp only[aaY,aaG]
 by_cases e:vs[j].toNat=i
 ·rw[if_pos e]
  have:(i:Int)=vs[j]:=an
  have b:=a.2 (.inr this);rw[this] at b;simp only[this,b,true_and]
 ·rw[if_neg e]
  have:¬(i:Int)=vs[j]:=an
  simp only[a,this,or_false]
def Oh(fv gv:List Int)(ft gt:List Nat):Option Nat:=(aaT (2^(fw fv gv).length)).find? fun n=>dq fv ft (iX (fw fv gv) n) !=dq gv gt (iX (fw fv gv) n)
noncomputable def xP(fv gv:List Int)(ft gt:List Nat):List Nat×Bool :=
 if uf fv ft=true/\uf gv gt=true then(match Oh fv gv ft gt with
  | some n=>(jb (fw fv gv) (iX (fw fv gv) n),true)
  | none=>(aP 34,false)) else(aP 34,false)
def zu9(C:dS G)(fv gv:List Int)(ft gt:List Nat)(J:fv.length<=9223372036854775807)(K:gv.length<=9223372036854775807)(L:ft.length<=9223372036854775807)(N:gt.length<=9223372036854775807)
  (X:∀ w∈ft,w<4294967296) (Y:∀ w∈gt,w<4294967296) :
  FP G 112 [FV fv ft,FV gv gt] (.a_ [.agg (au .u32 (xP fv gv ft gt).1),.bool (xP fv gv ft gt).2]):=by
 have c:bG G:=C.tobG;refine bD C.adU (aab rfl) ?_;simp[FV];refine ax (ym c fv ft J L) ?_;cases d:uf fv ft
 ·simp[xP,d]
 simp[-aa9];refine ax (ym c gv gt K N) ?_;cases k:uf gv gt
 ·simp[xP,d,k]
 have e:=F4.1 d;have f:=F4.1 k;have Z:=zxg fv gv;have O:=e.1;have P:=f.1;simp[-aa9];refine ax (Of c fv gv an) ?_;have q:=zAs fv gv e.up f.up;have l:=q.nodup;have Q:fv.Sublist (fw fv gv):=KW e.up q fun v g=>(Bu _ _).2 (.inl g);have R:gv.Sublist (fw fv gv):=KW f.up q fun v g=>(Bu _ _).2 (.inr g)
 have S:2^(fw fv gv).length<=256:=by rw[show 256=2^8 from rfl];exact aal (by decide) an
 have T:∀ v∈fw fv gv,0<=v/\v<34:=fun v g=>by
  rcases(Bu _ _).1 g with h|h
  ·exact e.mem h
  ·exact f.mem h
 generalize r:fw fv gv=M at *;simp(disch:=omega)[kQ,vE,-aae]
 refine aQ (2^M.length) (fun n=>[(2,.ptr 0 0),(3,.ptr 1 0),(4,.ptr 2 0),(6,.ptr 3 0),(7,.vs (ints .i64 M) .no),(27,.int .i64 (2^M.length:Nat)),(28,.int .i64 n)])
  (fun n=>[some (.cells [.vs (ints .i64 fv) .no,.vs (ak .u32 ft) .no]),some (.cells [.vs (ints .i64 gv) .no,.vs (ak .u32 gt) .no]),some (.cells (au .u32 (aP 34))),some (.cells (au .u32 (aP 34)))])
  (fun n=>∀ m,m<n->dq fv ft (iX M m)=dq gv gt (iX M m)) ?_ ?_
 ·simp[av,aj,-aae]
 intro n hn s
 by_cases D:n<2^M.length
 ·simp(disch:=omega)[bM,-aae,-aaa];refine ax (Sj c fv ft M n e.2.1 Q l an an) ?_;simp[-aae,-aaa];refine ax (Sj c gv gt M n f.2.1 R l an an) ?_
  by_cases t:dq fv ft (iX M n)=dq gv gt (iX M n)
  ·simp(disch:=omega)[t,bH,av,aj,D,-aae,-aaa];intro m b
   by_cases U:m=n
   ·subst U;exact t
   ·exact s m an
  ·have u:Oh fv gv ft gt=some n:=by rw[Oh,r,List.find?_range_eq_some];exact⟨by simpa using t,by simpa using D,fun m b=>by simpa using s m b⟩
   have x:xP fv gv ft gt=(jb M (iX M n),true):=by simp[xP,d,k,u,r]
   simp(disch:=omega)[aO,-aae,-aaa]
   refine aQ M.length (fun j=>[(4,.ptr 2 0),(6,.ptr 3 0),(8,.int .i64 n),(40,.vs (ints .i64 M) .no),(41,.int .i64 M.length),(42,.int .i64 j)])
    (fun j=>[some (.cells [.vs (ints .i64 fv) .no,.vs (ak .u32 ft) .no]),some (.cells [.vs (ints .i64 gv) .no,.vs (ak .u32 gt) .no]),some (.cells (au .u32 (aP 34))),some (.cells (au .u32 (jb (M.take j) (iX M n))))])
    (fun j=>True) ?_ ?_
   ·simp[av,aj,zCG]
   intro j hj _
   by_cases o:j<M.length
   ·have b:=T _ (aam o)
    have a:(jb (M.take j) (iX M n)).length=34:=by simp[jb]
    have E:=xO .u32 (jb (M.take j) (iX M n)) M[j].toNat;have F:n/2^j<9223372036854775808:=aaw (aaE _ _) an;have i:=zAx l (iX M n) o b.1
    have W:iX M n M[j]=n.testBit j:=by simp only[iX];rw[List.Nodup.idxOf_getElem l]
    rw[W] at i;have p:=yo n j;cases H:n.testBit j
    ·rw[H] at i p;have y:=E 0 an
     have z:eO .u32 4294967295 (fV .u32 0)=0:=by decide
     simp(disch:=omega)[bM,kQ,pa,zW,rn F,p,bH,av,aj,o,i,aC,a,z,-aae,-aaa,-aau,-aaq];have A:aX 4 ((au .u32 (jb (M.take j) (iX M n))).take M[j].toNat++V.int .u32 0::(au .u32 (jb (M.take j) (iX M n))).drop (M[j].toNat+1))=au .u32 ((jb (M.take j) (iX M n)).set M[j].toNat 0):=(congrArg (aX 4) y).trans (zuY 4 _ _);exact A
    ·rw[H] at i p;have y:=E 4294967295 an
     have z:eO .u32 4294967295 (fV .u32 1)=4294967295:=by decide
     simp(disch:=omega)[bM,kQ,pa,zW,rn F,p,bH,av,aj,o,i,aC,a,z,-aae,-aaa,-aau,-aaq];have A:aX 4 ((au .u32 (jb (M.take j) (iX M n))).take M[j].toNat++V.int .u32 4294967295::(au .u32 (jb (M.take j) (iX M n))).drop (M[j].toNat+1))=au .u32 ((jb (M.take j) (iX M n)).set M[j].toNat 4294967295):=(congrArg (aX 4) y).trans (zuY 4 _ _);exact A
   ·have B:j=M.length:=an
    subst B
    have I:(jb M (iX M n)).length=34:=by simp[jb]
    simp(disch:=omega)[x,I,fe I]
 ·have B:n=2^M.length:=an
  subst B
  have u:Oh fv gv ft gt=none:=by
   rw[Oh,r,List.find?_range_eq_none]
   exact fun m b=>by simpa using s m b
  have x:xP fv gv ft gt=(aP 34,false):=by simp[xP,d,k,u]
  simp(disch:=omega)[x,-aae]
def zAy{a b:Nat}(h:a*b<4294967296):eO .u32 (a:Int) (b:Int)=((a*b:Nat):Int):=by unfold eO;rw[<-aaX];exact vY h
structure St where
 a:Nat
 x:Nat
 m:List Nat
 deriving DecidableEq
def St.cs(s:St):List V:=.int .u32 (s.a:Int)::.int .u32 (s.x:Int)::au .u32 s.m
def SV(s:St):V:=.agg s.cs
def St.ok(s:St):Prop:=s.a<4294967296/\s.x<4294967296/\s.m.length=16/\∀ w∈s.m,w<4294967296
structure Da where
 nr:Nat
 aA:Nat
 ip:Nat
 args:List Nat
def Da.cs(d:Da):List V:=.int .u32 (d.nr:Int)::.int .u32 (d.aA:Int)::.int .u64 (d.ip:Int)::au .u64 d.args
def DV(d:Da):V:=.agg d.cs
def Da.ok(d:Da):Prop:=d.nr<4294967296/\d.aA<4294967296/\d.ip<18446744073709551616/\d.args.length=6/\∀ w∈d.args,w<18446744073709551616
def zLN(a b:V)(l:List V)(n:Nat):(a::b::l).take (2+n)=a::b::l.take n:=by rw[abD];rfl
def zEr(a:V)(l:List V)(n:Nat):(a::l).drop (2+n)=l.drop (n+1):=by rw[show 2+n=(n+1)+1 by omega];rfl
def cQ(s:St)(x:af):Bool :=
 let b:=if x.op∈[29,45,61,77] then s.x else x.k
 if x.op=21\/x.op=29 then decide (s.a=b) else if x.op=37\/x.op=45 then decide (b<s.a) else if x.op=53\/x.op=61 then decide (b<=s.a) else if x.op=69\/x.op=77 then decide (s.a &&& b≠0) else false
def zCH[j0 G](s:St)(x:af)(l:s.ok)(q:x.k<4294967296):FP G 165 [SV s,IV x] (.bool (cQ s x)):=by
 refine bD j0.agz (aab rfl) ?_;simp[SV,IV,af.cs,St.cs];have m:=l.1;have r:=l.2.1;have n:∀ a b:Nat,((a:Int)<(b:Int))=(a<b):=fun a b=>propext an;have o:∀ a b:Nat,((a:Int)<=(b:Int))=(a<=b):=fun a b=>propext an
 have p:∀ a:Nat,((a:Int) !=0)=decide (a≠0):=fun a=>by rw[aaA];simp
 by_cases c:x.op=29
 ·simp[c,cQ,sg]
 by_cases d:x.op=45
 ·simp[d,cQ,sg,n]
 by_cases e:x.op=61
 ·simp[e,cQ,sg,o]
 by_cases f:x.op=77
 ·simp[f,cQ,sg,Io m r,p]
 by_cases g:x.op=21
 ·simp[g,cQ,sg]
 by_cases h:x.op=37
 ·simp[h,cQ,sg,n]
 by_cases i:x.op=53
 ·simp[i,cQ,sg,o]
 by_cases j:x.op=69
 ·simp[j,cQ,sg,Io m q,p]
 simp[c,d,e,f,g,h,i,j,aO,cQ]
def Ay{op:Int}(h:bf op=true):op=21\/op=37\/op=53\/op=69\/op=29\/op=45\/op=61\/op=77:=by simpa[bf] using h
def zq1{s:St}{x:af}(h:bf x.op=false):cQ s x=false:=by
 have h:∀ p,bf p=true->x.op≠p:=fun p a e=>by rw[e,a] at h;cases h
 have b:=h 21 rfl;have c:=h 37 rfl;have d:=h 53 rfl;have f:=h 69 rfl;have g:=h 29 rfl;have i:=h 45 rfl;have j:=h 61 rfl;have k:=h 77 rfl;simp[cQ,b,c,d,f,g,i,j,k]
def zFm(m i:Nat):(m/2^i%2==1)=m.testBit i:=by rw[abQ,aaA];simp
def lo(v:Nat):Nat:=v%4294967296
def hi(v:Nat):Nat:=v/4294967296%4294967296
def j_(d:Da):List Nat:=[d.nr,d.aA,lo d.ip,hi d.ip]++d.args.flatMap fun a=>[lo a,hi a]
def zAz(l:List Nat):(l.flatMap fun a=>[lo a,hi a]).length=2*l.length:=by
 induction l with
 | nil=>rfl
 | cons a l b=>simp only[List.flatMap_cons,aaW,b,aav,acj];omega
def zs7:∀(l:List Nat) (i:Nat) (h:i<l.length),(l.flatMap fun a=>[lo a,hi a])[2*i]?=some (lo l[i])/\(l.flatMap fun a=>[lo a,hi a])[2*i+1]?=some (hi l[i])
 | [],i,h=>by simp at h
 | a::l,0,_=>by simp
 | a::l,i+1,h=>by
  have:=zs7 l i (by simpa using h);rw[show 2*(i+1)=2*i+2 by omega,show 2*i+2+1=2*i+1+2 by omega];simpa using this
def Bx{d:Da}(h:d.args.length=6):(j_ d).length=16:=by rw[j_,aaW,zAz,h];rfl
def Oj(v:Nat):lo v<4294967296:=aa6 _ (by decide)
def Ok(v:Nat):hi v<4294967296:=aa6 _ (by decide)
def YG{d:Da}(h:d.ok):∀ w∈j_ d,w<4294967296:=by
 intro w b;simp only[j_,aaY,aah,aaU,or_false,List.mem_flatMap] at b
 rcases b with(rfl|rfl|rfl|rfl)|⟨a,_,rfl|rfl⟩
 ·exact h.1
 ·exact h.2.1
 ·exact Oj _
 ·exact Ok _
 ·exact Oj _
 ·exact Ok _
def zFn(v:Nat):fV .u32 (v:Int)=((lo v:Nat):Int):=rfl
def YH(v:Nat)(h:v<18446744073709551616):jR .u64 (v:Int) 32=((v/4294967296:Nat):Int):=by
 unfold jR
 have:(min (32:Int).toNat IntKind.u64.bits)=32:=by decide
 rw[this];change (v:Int).fdiv 4294967296=_;rw[ab9 _ (by decide)];rfl
def zLO(v:Nat):lo (v/4294967296)=hi v:=rfl
def H4(cs:List V)(l:List Nat)(n:Nat):ae:=[some (.cells cs),some (.cells (au .u32 (aP 16))),some (.cells (au .u32 l)),some (.cells [.int .i64 n])]
def YI[bQ G](cs:List V)(l:List Nat)(n v:Nat)(a:l.length=16)(m:n+1<16)(b:v<18446744073709551616) :
  bA G (.F 159 [.int .u64 v,.ptr 2 0,.ptr 3 0] (H4 cs l n) (.a_ []) (H4 cs ((l.set n (lo v)).set (n+1) (hi v)) (n+2))):=by
 refine ee bQ.agt (aab rfl) ?_;have c:=xO .u32 l n (lo v) an;have d:=xO .u32 (l.set n (lo v)) (n+1) (hi v) (by simp;omega);have e:aE .i64 (n:Int) 1=((n+1:Nat):Int):=bH an;have f:aE .i64 (n:Int) 2=((n+2:Nat):Int):=N4 (n:=2) an;have g:=YH v b;have h:((n:Int)<16)=True:=bM an;have i:(((n+1:Nat):Int)<16)=True:=bM an;have j:(n+1<=16)=True:=aC an
 have o:(n+1+1<=16)=True:=aC an;have k:(n<=14)=True:=aC an;simp[H4,e,f,g,zFn,zLO,a,h,i,j,k,c,d,-aaa,-aau]
def Ol(v:Nat)(h:v<18446744073709551616):fV .u64 (v:Int)=(v:Int):=by unfold fV;exact IntWalk.u64_in _ ⟨an,an⟩
def zAA(a b:Nat)(e:a<4294967296)(f:b<4294967296):uK .u64 (a:Int) (jc .u64 (b:Int) 32)=((a+b*4294967296:Nat):Int):=by
 have c:jc .u64 (b:Int) 32=((b*4294967296:Nat):Int):=by
  unfold jc
  have:(min (32:Int).toNat IntKind.u64.bits)=32:=by decide
  rw[this];rw[show((b:Int)*2^32)=((b*4294967296:Nat):Int) by omega];exact IntWalk.u64_in _ ⟨an,an⟩
 rw[c];change IntKind.u64.wrap ((abb 64 (a:Int) ||| abb 64 ((b*4294967296:Nat):Int)).toNat:Int)=_;rw[qp,qp]
 have d:(abF 64 a ||| abF 64 (b*4294967296)).toNat=a+b*4294967296:=by rw[BitVec.toNat_or,ab6,ab6,aaI an,aaI an];have:=abl (i:=32) (b:=a) an b;rw[acP,abE,show(4294967296:Nat)=2^32 from rfl,<-this];omega
 rw[d];exact IntWalk.u64_in _ ⟨an,an⟩
def z6(d:Da)(i:Nat):List Nat:=(j_ d).take (4+2*i)++aP (12-2*i)
def zs8{d:Da}(h:d.args.length=6){i:Nat}(hi:i<=6):(z6 d i).length=16:=by simp[z6,Bx h];omega
def zs9{d:Da}(h:d.args.length=6){i:Nat}(hi:i<=6)(j:Nat):(z6 d i)[j]?=if j<4+2*i then(j_ d)[j]? else if j<16 then some 0 else none:=by
 have c:=Bx h;rw[z6,List.getElem?_append,aa3,c,List.getElem?_take]
 by_cases a:j<4+2*i
 ·rw[if_pos an,if_pos a,if_pos a]
 ·rw[if_neg an,if_neg a]
  by_cases b:j<16
  ·rw[if_pos b];simp[aP,ach];omega
  ·rw[if_neg b];simp[aP,ach];omega
def zyL{d:Da}(h:d.args.length=6){i:Nat}(m:i<6):((z6 d i).set (4+2*i) (lo d.args[i])).set (4+2*i+1) (hi d.args[i])=z6 d (i+1):=by
 have f:=zs8 h (show i<=6 by omega);have a:=zs7 d.args i an
 have g:(j_ d)[4+2*i]?=some (lo d.args[i]):=by rw[j_,aa7 ir];simpa using a.1
 have k:(j_ d)[4+2*i+1]?=some (hi d.args[i]):=by rw[j_,aa7 (by simp;omega)];simpa[show 4+2*i+1-4=2*i+1 by omega] using a.2
 apply abK;intro j;rw[zs9 h an,aa8,aa8,ab1,f,zs9 h an]
 by_cases b:4+2*i+1=j
 ·subst b;rw[if_pos rfl,if_pos an,if_pos an,k]
 ·rw[if_neg b]
  by_cases c:4+2*i=j
  ·subst c;rw[if_pos rfl,if_pos an,if_pos an,g]
  ·rw[if_neg c]
   by_cases e:j<4+2*i
   ·rw[if_pos e,if_pos an]
   ·rw[if_neg e]
    by_cases l:j<4+2*(i+1)
    ·omega
    ·rw[if_neg l]
def zFo(d:Da)(h:d.args.length=6):((((aP 16).set 0 d.nr).set 1 d.aA).set 2 (lo d.ip)).set 3 (hi d.ip)=z6 d 0:=by have:aP 16=0::0::0::0::aP 12:=rfl;rw[this];simp[z6,j_]
def zFp(d:Da)(h:d.args.length=6):z6 d 6=j_ d:=by simp only[z6,show 12-2*6=0 from rfl,aP,List.replicate_zero,List.append_nil];exact aa5 (by rw[Bx h];exact abi _)
def zvc[bQ G](d:Da)(hd:d.ok):FP G 160 [DV d] (.agg (au .u32 (j_ d))):=by
 obtain⟨e,f,g,a,h⟩:=hd;refine bD bQ.agu (aab rfl) ?_;have o:=zAA d.nr d.aA e f
 have j:lo (d.nr+d.aA*4294967296)=d.nr:=by unfold lo;omega
 have l:hi (d.nr+d.aA*4294967296)=d.aA:=by unfold hi;omega
 have p1:=YI (G:=G) d.cs (aP 16) 0 (d.nr+d.aA*4294967296) ir (by decide) an;have p2:=YI (G:=G) d.cs (((aP 16).set 0 d.nr).set 1 d.aA) 2 d.ip ir (by decide) g;rw[j,l] at p1;have m:=fe (k:=.u64) a;simp[H4,Da.cs,-aaa,-aaX] at p1 p2;simp(disch:=omega)[DV,Da.cs,Ol,o,-aaa,-aaX];refine kj p1 ir ?_;simp[aj];refine kj p2 ir ?_;simp[aj,a,m]
 refine aQ 6 (fun i=>[(2,.ptr 1 0),(3,.ptr 2 0),(5,.fn 159 [.ptr 2 0,.ptr 3 0]),(24,.agg (au .u64 d.args)),(25,.int .i64 i)])
  (fun i=>H4 d.cs (z6 d i) (4+2*i)) (fun _=>True) ?_ ?_
 ·simp[av,aj,H4,Da.cs,zFo d a]
 intro i hi _
 by_cases b:i<6
 ·have p3:=YI (G:=G) d.cs (z6 d i) (4+2*i) d.args[i] (zs8 a hi) an (h _ (aam _));rw[zyL a b] at p3;have n:=sI .u64 d.args i an;simp[H4,Da.cs,-aaa,-aaX] at p3;simp(disch:=omega)[bM,aC,a,n,H4,Da.cs,-aaa,-aaX];refine kj p3 ir ?_;simp(disch:=omega)[aj,bH,b,av,show 4+2*(i+1)=4+2*i+2 from an,-aaa,-aaX]
 ·have p:i=6:=an
  subst p;have c:=Bx a;have q:=fe (k:=.u32) c;simp[H4,zFp d a,c,q]
def ui(d:Da)(a:Nat):Nat×Bool:=if a%4=0/\a<64 then((j_ d).getD (a/4) 0,true) else(0,false)
def zvd[bQ G](n:Nat)(d:n<4294967296):FP G 158 [.int .u32 n] (.bool (decide (n%4=0/\n<64))):=by
 refine bD bQ.ags (aab rfl) ?_;have a:mV (n:Int) 4=((n%4:Nat):Int):=Cl (b:=4)
 by_cases h:n%4=0
 ·have c:((n:Int)<64)=(n<64):=propext an;simp[a,h,c]
 ·have:((n%4:Nat):Int)≠0:=an
  simp[a,h,aO this,-aaq]
def zxl[bQ G](d:Da)(n:Nat)(hd:d.ok)(a:n<4294967296):FP G 161 [DV d,.int .u32 n] (.a_ [.int .u32 ((ui d n).1:Nat),.bool (ui d n).2]):=by
 refine bD bQ.agv (aab rfl) ?_;have e:=zvc (G:=G) d hd;have g:=fe (k:=.u64) hd.2.2.2.1;have f:=hd.2.2.2.1;simp[DV,Da.cs] at e |-;refine ax (zvd n a) ?_
 by_cases h:n%4=0/\n<64
 ·have i:mr .u32 (n:Int) 4=((n/4:Nat):Int):=Ye (b:=4) a (by decide);have j:=Bx f;have c:=sI .u32 (j_ d) (n/4) an
  have l:(j_ d).getD (n/4) 0=(j_ d)[n/4]'(by omega):=by simp[abm,aad (show n/4<(j_ d).length by omega)]
  simp[h,f,g,ui];refine ax e ?_;simp(disch:=omega)[i,bM,aC,j,c,-aau]
 ·simp[h,ui]
def z7(s:St)(k:Nat):Nat:=if k<16 then s.m.getD k 0 else 0
def wy(s:St)(k v:Nat):St:=if k<16 then{ s with m:=s.m.set k v } else s
def kC(s:St)(x:af)(d:Da):St :=
 if x.op=0 then{ s with a:=x.k } else if x.op=1 then{ s with x:=x.k } else if x.op=32 then{ s with a:=(ui d x.k).1 }
 else if x.op=96 then{ s with a:=z7 s x.k } else if x.op=97 then{ s with x:=z7 s x.k } else if x.op=2 then wy s x.k s.a else if x.op=3 then wy s x.k s.x
 else if x.op=7 then{ s with x:=s.a } else if x.op=135 then{ s with a:=s.x } else if x.op=132 then{ s with a:=sh s.a } else s
def kW(s:St)(x:af):Nat:=if(bw x.op).2.1 then s.x else x.k
def ny(s:St)(x:af):Nat×Bool:=dm (bw x.op).1 s.a (kW s x)
def eM(s:St)(x:af)(d:Da):St×Bool :=
 if(bw x.op).2.2 then(if(ny s x).2 then{ s with a:=(ny s x).1 } else s,(ny s x).2) else(kC s x d,true)
def zCI[cT G](s:St)(k:Nat)(a:s.ok)(g:k<4294967296):FP G 162 [SV s,.int .u32 k] (.int .u32 (z7 s k:Nat)):=by
 refine bD cT.agw (aab rfl) ?_;have b:=a.2.2.1
 by_cases h:16<=k
 ·have:(16:Int)<=(k:Int):=an
  simp[SV,St.cs,this,z7,show¬k<16 from an]
 ·have d:k<16:=an
  have c:=sI .u32 s.m k an
  have i:s.m.getD k 0=s.m[k]'(by omega):=by simp[abm,aad (show k<s.m.length by omega)]
  have e:((16:Int)<=(k:Int))=False:=FZ an;have f:((k:Int)<16)=True:=bM an;have j:(2+k+1<=16+1+1)=True:=aC an;simp[SV,St.cs,e,f,b,zEr,c,z7,d,show 2+k<=17 from an]
def zta[cT G](s:St)(k v:Nat)(d:s.ok)(i:k<4294967296):FP G 163 [SV s,.int .u32 k,.int .u32 v] (SV (wy s k v)):=by
 refine bD cT.agx (aab rfl) ?_;have a:=d.2.2.1;have e:=fe (k:=.u32) a
 by_cases b:k<16
 ·have c:=xO .u32 s.m k v an;have f:((k:Int)<16)=True:=bM an;have g:(au .u32 (s.m.set k v)).take 16=au .u32 (s.m.set k v):=fe (by simp[a]);simp[SV,St.cs,f,a,zEr,zLN,c,wy,b,g,show 2+k<=17 from an]
 ·have h:((k:Int)<16)=False:=kQ an;simp[SV,St.cs,h,wy,b,a,e]
def zG0[dx G](a:Nat)(b:a<4294967296):FP G 138 [.int .u32 a] (.int .u32 (sh a:Nat)):=by
 refine bD dx.af7 (aab rfl) ?_
 have:AJ .u32 (a:Int)=((sh a:Nat):Int):=by unfold AJ sh;rw[F8];omega
 simp[this]
def zq5{s:St}(a:s.ok){k v:Nat}(b:v<4294967296):(wy s k v).ok:=by
 unfold wy;split
 ·refine⟨a.1,a.2.1,by simp[a.2.2.1],fun w c=>?_⟩
  rcases List.mem_or_eq_of_mem_set c with h|h
  ·exact a.2.2.2 w h
  ·rw[h];exact b
 ·exact a
def zCJ{s:St}(a:s.ok)(k:Nat):z7 s k<4294967296:=by
 unfold z7;split
 ·rename_i h;rw[abm,aad (show k<s.m.length by rw[a.2.2.1];exact h),abq];exact a.2.2.2 _ (aam _)
 ·decide
def zCK{d:Da}(hd:d.ok)(k:Nat):(ui d k).1<4294967296:=by
 unfold ui;split
 ·rename_i h;have a:=Bx hd.2.2.2.1;simp only[abm,aad (show k/4<(j_ d).length by omega),abq];exact YG hd _ (aam _)
 ·decide
def zxm{s:St}(a:s.ok){x:af}(b:x.k<4294967296):kW s x<4294967296:=by
 unfold kW;split
 ·exact a.2.1
 ·exact b
def zCL{s:St}(i:s.ok){x:af}(g:x.k<4294967296){d:Da}(hd:d.ok):(kC s x d).ok:=by
 obtain⟨f,e,b,c⟩:=i;have j:sh s.a<4294967296:=aa6 _ (by decide);have h:=zCJ ⟨f,e,b,c⟩ x.k;have l:=zCK hd x.k;unfold kC
 repeat' split
 all_goals first
  | exact⟨g,e,b,c⟩
  | exact⟨f,g,b,c⟩
  | exact⟨l,e,b,c⟩
  | exact⟨h,e,b,c⟩
  | exact⟨f,h,b,c⟩
  | exact zq5 ⟨f,e,b,c⟩ f
  | exact zq5 ⟨f,e,b,c⟩ e
  | exact⟨f,f,b,c⟩
  | exact⟨e,e,b,c⟩
  | exact⟨j,e,b,c⟩
  | exact⟨f,e,b,c⟩
def Hk{s:St}(a:s.ok){x:af}(b:x.k<4294967296){d:Da}(hd:d.ok):(eM s x d).1.ok:=by
 unfold eM;split
 ·simp only;split
  ·exact⟨Sl _ a.1 (zxm a b),a.2⟩
  ·exact a
 ·exact zCL a b hd
def zxn[dR G][dx G][az G][bQ G][cT G](s:St)(x:af)(d:Da)(f:s.ok)(g:x.k<4294967296)(hd:d.ok) :
  FP G 164 [SV s,IV x,DV d] (.a_ [SV (eM s x d).1,.bool (eM s x d).2]):=by
 refine bD cT.agy (aab rfl) ?_;have b:=f.2.2.1;have c:=fe (k:=.u32) b;have q:=hd.2.2.2.1;have J:=fe (k:=.u64) q;have r:=J1 (G:=G) x;have l:=KZ (G:=G) inferInstance (bw x.op).1 s.a (kW s x) f.1 (zxm f g);have t:=zxl (G:=G) d x.k hd g;have n:=zCI (G:=G) s x.k f g;have h:=zta (G:=G) s x.k s.a f g;have i:=zta (G:=G) s x.k s.x f g;have K:=zG0 (G:=G) s.a f.1
 have o:∀ v,(wy s x.k v).m.length=16:=fun v=>by unfold wy;split<;>simp[b]
 have j:=fun v=>fe (k:=.u32) (o v);simp[SV,IV,DV,af.cs,St.cs,Da.cs] at r t n h i |-;refine ax r ?_;cases u:(bw x.op).2.2
 case true =>
  simp
  have e:eM s x d=(if(ny s x).2 then{ s with a:=(ny s x).1 } else s,(ny s x).2):=by simp[eM,u]
  cases w:(bw x.op).2.1
  ·have:kW s x=x.k:=by simp[kW,w]
   rw[this] at l;simp;refine ax l ?_
   cases p:(dm (bw x.op).1 s.a x.k).2<;>simp[p,e,ny,this,b,c]
  ·have:kW s x=s.x:=by simp[kW,w]
   rw[this] at l;simp;refine ax l ?_
   cases p:(dm (bw x.op).1 s.a s.x).2<;>simp[p,e,ny,this,b,c]
 simp
 have e:eM s x d=(kC s x d,true):=by simp[eM,u]
 rw[e]
 by_cases y:x.op=0
 ·simp[y,kC,b,c]
 by_cases z:x.op=1
 ·simp[z,aO,kC,b,c]
 by_cases A:x.op=32
 ·simp[A,aO,kC,q,J];refine ax t ?_;simp[b,c]
 by_cases B:x.op=96
 ·simp[B,aO,kC,b,c];refine ax n ?_;simp[b,c]
 by_cases C:x.op=97
 ·simp[C,aO,kC,b,c];refine ax n ?_;simp[b,c]
 by_cases D:x.op=2
 ·simp[D,aO,kC,b,c];refine ax h ?_;simp[b,o,j]
 by_cases E:x.op=3
 ·simp[E,aO,kC,b,c];refine ax i ?_;simp[b,o,j]
 by_cases F:x.op=7
 ·simp[F,aO,kC,b,c]
 by_cases H:x.op=135
 ·simp[H,aO,kC,b,c]
 by_cases I:x.op=132
 ·simp[I,aO,kC];refine ax K ?_;simp[b,c]
 simp[y,z,A,B,C,D,E,F,H,I,aO,kC,b,c]
def nH(x:af):Bool :=
 if x.op=32 then decide (x.k%4=0/\x.k<64) else if x.op=52 then decide (x.k≠0) else if x.op=2\/x.op=3\/x.op=96\/x.op=97 then decide (x.k<16) else if x.op=100\/x.op=116 then decide (x.k<32) else true
def fg(x:af)(left:Nat):Bool:=jX x&&nH x&&(if x.op=5 then decide (x.k<left) else true)&&(if bf x.op then decide (x.jt<left/\x.jf<left) else true)
def jP:List af->Bool
 | []=>true
 | x::f=>fg x f.length&&jP f
def kA(f:List af):Bool:=match f.getLast? with|some x=>gL x.op|none=>false
def dB(f:List af):Bool:=decide (f.length<=4096)&&jP f&&kA f
def zs:List (V×V):=[(.int .i64 32,.fn 152 [.ptr 0 0]),(.int .i64 52,.fn 153 [.ptr 0 0]),(.int .i64 2,.fn 150 [.ptr 0 0]),(.int .i64 3,.fn 150 [.ptr 0 0]),(.int .i64 96,.fn 150 [.ptr 0 0]),(.int .i64 97,.fn 150 [.ptr 0 0]),
 (.int .i64 100,.fn 151 [.ptr 0 0]),(.int .i64 116,.fn 151 [.ptr 0 0])]
def zCM[ay G]:bA G (.F 154 [] [] (.mp 1) [some (.cells [.fn 149 []]),some (.map zs)]):=by refine ee ay.agk (aab rfl) ?_;simp[zs]
def Om[ay G](H:ae)(b:Bool)(n:Int):bA G (.F 149 [.bool b,.int .i64 n] H (.int .i64 (if b then 0 else n)) H):=by
 refine ee ay.age (aab rfl) ?_
 cases b<;>simp
def RH(x:af):ae:=[some (.cells [.fn 149 []]),some (.map zs),some (.cells x.cs)]
def qi(n:Nat)(h:0<n):zs.map (fun p=>(p.1.cl n,p.2.cl n))=zs:=by simp[zs,h]
def On{f:Nat}[ay G](x:af)(e:Int)(h:f=150/\e=(if decide (x.k<16) then 0 else 7)\/f=151/\e=(if decide (x.k<32) then 0 else 1)\/f=152/\e=(if decide (x.k%4=0/\x.k<64) then 0 else 6)\/f=153/\e=(if decide (x.k≠0) then 0 else 8)) :
  bA G (.F f [IV x,.ptr 0 0] (RH x) (.int .i64 e) (RH x++[some (.cells x.cs)])):=by
 have g:mV (x.k:Int) 4=((x.k%4:Nat):Int):=Cl (b:=4);have a:((x.k:Int)<16)=(x.k<16):=propext an;have c:((x.k:Int)<32)=(x.k<32):=propext an;have d:((x.k:Int)<64)=(x.k<64):=propext an
 have j:((x.k:Int) !=0)=decide (x.k≠0):=by rw[aaA];simp
 rcases h with⟨rfl,rfl⟩|⟨rfl,rfl⟩|⟨rfl,rfl⟩|⟨rfl,rfl⟩
 ·refine ee ay.agf (aab rfl) ?_;simp[IV,af.cs,RH,a];refine kj (Om _ _ _) ir ?_;simp[aj,qi]
 ·refine ee ay.agh (aab rfl) ?_;simp[IV,af.cs,RH,c];refine kj (Om _ _ _) ir ?_;simp[aj,qi]
 ·refine ee ay.agi (aab rfl) ?_
  by_cases i:x.k%4=0
  ·simp[IV,af.cs,RH,g,i,d];refine kj (Om _ _ _) ir ?_;simp[aj,qi]
  ·have:((x.k%4:Nat):Int)≠0:=an
   simp[IV,af.cs,RH,g,i,aO this,-aaq];refine kj (Om _ _ _) ir ?_;simp[aj,qi]
 ·refine ee ay.agj (aab rfl) ?_;simp[IV,af.cs,RH,j];refine kj (Om _ _ _) ir ?_;simp[aj,qi]
def ei(x:af)(a:Nat):List Int:=if gL x.op then [] else if x.op=5 then [((a+1+x.k:Nat):Int)] else if bf x.op then [(a:Int)+1+min x.jt x.jf,(a:Int)+1+max x.jt x.jf] else [((a+1:Nat):Int)]
def af.D8(x:af):Prop:=bf x.op=true->0<=x.jt/\x.jt<=255/\0<=x.jf/\x.jf<=255
def zS{x:af}(h:jX x=true):x.D8:=by
 intro b;unfold jX at h;split at h
 ·rename_i r c
  have a:∀ r∈v9,bf r.1=r.2.2.2:=by decide
  obtain⟨d,e⟩:=MA c;have:=a r e;rw[d,b] at this;simp only[<-this,if_true,aay,decide_eq_true_eq] at h;exact h.2
 ·cases h
def E9(n:Nat)(h:n<4294967296):fV .i64 (n:Int)=(n:Int):=by unfold fV;exact IntWalk.i64_in _ ⟨an,an⟩
def ou[az G][ay G](x:af)(c:Nat)(l:x.k<4294967296)(m:x.D8)(v:c<=5000):FP G 155 [IV x,.int .i64 c] (.vs (ints .i64 (ei x c)) .no):=by
 refine bD ay.agl (aab rfl) ?_;have i:=N_ (G:=G) x;have j:=yM (G:=G) x;have n:aE .i64 (c:Int) 1=((c+1:Nat):Int):=bH an;simp[IV,af.cs,n,-aaa] at i j |-;refine ax i ?_;cases d:gL x.op
 ·have w:gL x.op=false:=d;simp
  by_cases e:x.op=5
  ·have y:aE .i64 ((c+1:Nat):Int) (x.k:Int)=((c+1+x.k:Nat):Int):=qM an
   have f:aE .i64 ((c:Int)+1) (x.k:Int)=((c+1+x.k:Nat):Int):=by rw[<-qM (a:=c+1) (b:=x.k) an];rfl
   have g:gL 5=false:=by decide
   simp[e,g,E9 x.k l,f,ei,ints,-aaa]
  ·simp[e,aO];refine ax j ?_;cases h:bf x.op
   ·simp[ei,d,e,h,ints]
   ·obtain⟨z,A,B,C⟩:=m h
    have o:(if x.jf<x.jt then x.jf else x.jt)=min x.jt x.jf:=an
    have p:(if x.jf>x.jt then x.jf else x.jt)=max x.jt x.jf:=an
    have D:aE .i64 ((c+1:Nat):Int) (min x.jt x.jf)=(c:Int)+1+min x.jt x.jf:=by rw[ey]<;>omega
    have E:aE .i64 ((c+1:Nat):Int) (max x.jt x.jf)=(c:Int)+1+max x.jt x.jf:=by rw[ey]<;>omega
    have q:(if x.jt<x.jf then x.jf else x.jt)=max x.jt x.jf:=an
    have r:(if x.jt>x.jf then x.jf else x.jt)=min x.jt x.jf:=an
    have s:(if x.jt<=x.jf then x.jt else x.jf)=min x.jt x.jf:=an
    have t:aE .i64 ((c:Int)+1) (min x.jt x.jf)=(c:Int)+1+min x.jt x.jf:=by rw[ey]<;>omega
    have u:aE .i64 ((c:Int)+1) (max x.jt x.jf)=(c:Int)+1+max x.jt x.jf:=by rw[ey]<;>omega
    simp[o,p,t,u,ei,d,e,h,ints,-aaa]
 ·simp[ei,d]
def xj(op:Int):Option (Nat×Nat) :=
 if op=32 then some (0,152) else if op=52 then some (1,153) else if op=2 then some (2,150) else if op=3 then some (3,150) else if op=96 then some (4,150) else if op=97 then some (5,150) else
 if op=100 then some (6,151) else if op=116 then some (7,151) else none
def zyM(op:Int):j6 (.sc .int) (.int .i64 op) zs 0=some ((xj op).map fun p=>(p.1,.fn p.2 [.ptr 0 0])):=by
 unfold xj zs
 by_cases a:op=32;· subst a;rfl
 by_cases b:op=52;· subst b;rfl
 by_cases c:op=2;· subst c;rfl
 by_cases d:op=3;· subst d;rfl
 by_cases e:op=96;· subst e;rfl
 by_cases f:op=97;· subst f;rfl
 by_cases g:op=100;· subst g;rfl
 by_cases h:op=116;· subst h;rfl
 simp[j6,j7,qx,a,b,c,d,e,f,g,h,aO]
def zFq[ay G](x:af){i f:Nat}(h:xj x.op=some (i,f)):∃ e:Int,bA G (.F f [IV x,.ptr 0 0] (RH x) (.int .i64 e) (RH x++[some (.cells x.cs)]))/\(e=0↔nH x=true):=by
 unfold xj at h
 have r4 (a:Bool) (n:Int) (j:n≠0):((if a=true then 0 else n)=0↔a=true):=by cases a<;>simp[j]
 unfold nH;split at h
 ·rename_i b;cases h;exact⟨_,On x _ (.inr (.inr (.inl ⟨rfl,rfl⟩))),by rw[r4 _ _ (by decide),if_pos b]⟩
 split at h
 ·rename_i d b;cases h;exact⟨_,On x _ (.inr (.inr (.inr ⟨rfl,rfl⟩))),by rw[r4 _ _ (by decide),if_neg d,if_pos b]⟩
 have two:¬x.op=32->¬x.op=52->x.op=2\/x.op=3\/x.op=96\/x.op=97->some (i,f)=some (i,150)->∃ e:Int,bA G (.F f [IV x,.ptr 0 0] (RH x) (.int .i64 e) (RH x++[some (.cells x.cs)])) /\
   (e=0↔(if x.op=32 then decide (x.k%4=0/\x.k<64) else if x.op=52 then decide (x.k≠0) else if x.op=2\/x.op=3\/x.op=96\/x.op=97 then decide (x.k<16) else if x.op=100\/x.op=116 then decide (x.k<32) else true)=true):=by
  intro d b l m;cases m;exact⟨_,On x _ (.inl ⟨rfl,rfl⟩),by rw[r4 _ _ (by decide),if_neg d,if_neg b,if_pos l]⟩
 rename_i n1 c;split at h
 ·rename_i b;cases h;exact two n1 c (.inl b) rfl
 split at h
 ·rename_i b;cases h;exact two n1 c (.inr (.inl b)) rfl
 split at h
 ·rename_i b;cases h;exact two n1 c (.inr (.inr (.inl b))) rfl
 split at h
 ·rename_i b;cases h;exact two n1 c (.inr (.inr (.inr b))) rfl
 rename_i o p q r
 have g:¬(x.op=2\/x.op=3\/x.op=96\/x.op=97):=an
 split at h
 ·rename_i b;cases h;exact⟨_,On x _ (.inr (.inl ⟨rfl,rfl⟩)),by rw[r4 _ _ (by decide),if_neg n1,if_neg c,if_neg g,if_pos (.inl b)]⟩
 split at h
 ·rename_i b;cases h;exact⟨_,On x _ (.inr (.inl ⟨rfl,rfl⟩)),by rw[r4 _ _ (by decide),if_neg n1,if_neg c,if_neg g,if_pos (.inr b)]⟩
 cases h
def zAB{x:af}(h:xj x.op=none):nH x=true:=by
 unfold xj at h;unfold nH
 repeat' split at h
 all_goals first|(cases h;done)|skip
 rw[if_neg an,if_neg an,if_neg an,if_neg an]
def zyN{f:List af}{i:Nat}(h:i<f.length):jP (f.drop i)=(fg f[i] (f.length-1-i)&&jP (f.drop (i+1))):=by
 rw[aaB h];simp only[jP,abr]
 congr 2;omega
def tF{f:List af}{i:Nat}(h:i<f.length):(IL f)[i]?=some f[i].cs:=by simp[aad h]
def Rch(f:List af)(v:V):Prop:=∃ i e:Int,v=.a_ [.int .i64 i,.int .i64 e]/\(e=0↔dB f=true)
def zCN{f:List af}(a:f≠[])(b:f.length<=4096)(c:jP f=true)(d:gL (f[f.length-1]'(by have:=aaQ.2 a;omega)).op=true):dB f=true:=by
 have:f.getLast?=some (f[f.length-1]'(by have:=aaQ.2 a;omega)):=by rw[abC];exact aad _
 simp[dB,kA,b,c,this,d]
def zwy{f:List af}(a:f≠[])(b:gL (f[f.length-1]'(by have:=aaQ.2 a;omega)).op=false):dB f=false:=by
 have:f.getLast?=some (f[f.length-1]'(by have:=aaQ.2 a;omega)):=by rw[abC];exact aad _
 simp[dB,kA,this,b]
def zyO{f:List af}(h:jP f=false):dB f=false:=by simp[dB,h]
def H2:ae:=[some (.cells [.fn 149 []]),some (.map zs)]
def Ga{x:af}{i n:Nat}(h:i<n)(e:(x.op==5||bf x.op)=true) :
  (∀ w∈ei x i,w<(n:Int))↔((if x.op=5 then decide (x.k<n-1-i) else true)&&(if bf x.op then decide (x.jt<(n-1-i:Nat)/\x.jf<(n-1-i:Nat)) else true))=true:=by
 by_cases a:x.op=5
 ·have d:gL x.op=false:=by rw[a];decide
  have f:bf x.op=false:=by rw[a];decide
  rw[if_pos a,f];rw[a] at d;simp only[ei,d,a,aaH,if_false,if_true,aaG,forall_eq,acD,decide_eq_true_eq];omega
 ·have b:bf x.op=true:=by simpa[a,aO] using e
  have g:gL x.op=false:=by
   have c:∀ p∈[21,37,53,69,29,45,61,(77:Int)],gL p=false:=by decide
   exact c _ (by simpa[bf] using b)
  rw[if_neg a,if_pos b];simp only[ei,g,a,b,aaH,if_false,if_true,aah,aaU,or_false,forall_eq_or_imp,forall_eq,abz,decide_eq_true_eq];omega
def Sr{x:af}(a:(x.op==5||bf x.op)=false)(left:Nat):((if x.op=5 then decide (x.k<left) else true)&&(if bf x.op then decide (x.jt<left/\x.jf<left) else true))=true:=by simp only[Bool.or_eq_false_iff,beq_eq_false_iff_ne] at a;simp[a.1,a.2]
def Gb{x:af}{left:Nat}(a:jX x=true)(b:nH x=true):fg x left=((if x.op=5 then decide (x.k<left) else true)&&(if bf x.op then decide (x.jt<left/\x.jf<left) else true)):=by simp[fg,a,b]
def Su(x:af)(i:Nat):(ei x i).length<=2:=by unfold ei;split;simp;split;simp;split<;>simp
def zCO[az G][ay G](f:List af)(hf:f.length<=maxLen)(hk:∀ x∈f,x.k<4294967296):∃ v,FP G 156 [FL f] v/\Rch f v:=by
 refine KO ay.agm (aab rfl) ?_
 by_cases O:f=[]
 ·subst O;simp[FL];exact⟨0,5,rfl,by decide⟩
 have aB:0<f.length:=aaQ.2 O;have hz:((f.length:Int)=0)=False:=eq_false an
 by_cases Mn:f.length>4096
 ·have z:((4096:Int)<(f.length:Int))=True:=eq_true an
  have:dB f=false:=by simp[dB,show¬f.length<=4096 by omega]
  simp[FL,O,z,sg];exact⟨0,3,rfl,by simp[this]⟩
 have z:((4096:Int)<(f.length:Int))=False:=eq_false an;simp[FL,O,z,sg];refine vb zCM ir ?_;simp;refine aQ f.length (fun i=>[(0,FL f),(4,.mp 1),(22,FL f),(23,.int .i64 f.length),(24,.int .i64 i)]) (fun _=>H2) (fun i=>jP (f.take 0)=true/\jP f=jP (f.drop i)) ?_ ?_
 ·simp[av,aj,H2,qi,FL,jP]
 intro i hi P
 by_cases q:i<f.length
 ·have Q:=tF q;have Y:f[i]∈f:=aam q;have R:=hk _ Y;have F:=zyN q
  have r:fg f[i] (f.length-1-i)=false->∀ j e:Int,e≠0->Rch f (.a_ [.int .i64 j,.int .i64 e]):=by intro h j e H;rw[h] at F;exact⟨j,e,rfl,by simp[H,zyO (P.2.trans F)]⟩
  generalize f[i]=x at Q R F Y r;have Z:=J9 (G:=G) x;have U:=yM (G:=G) x;simp[IV,af.cs] at Z U;simp(disch:=omega)[H2,bM,FL,Q,af.cs,-aaa];refine ax Z ?_;cases y:jX x
  ·simp;exact r (by simp[fg,y]) _ _ (by decide)
  simp[zyM]
  cases S:xj x.op with
  | none =>
   have D:=zAB S
   by_cases E:x.op=5
   ·have I:(x.op==5||bf x.op)=true:=by simp[E]
    have V:(x.op==5)=true:=by simp[E]
    simp[V];have s:=ou (G:=G) x i R (zS y) an;simp[IV,af.cs] at s;have b:∃ a,a=(x.op==5||bf x.op):=⟨_,rfl⟩;obtain⟨a,b⟩:=b;have J:=Su x i
    have d:(a=true->∀ w∈ei x i,w<(f.length:Int))->jP f=jP (f.drop (i+1)):=by
     intro K;rw[P.2,F,Gb y D]
     cases a with
     | false=>rw[Sr b.symm];simp
     | true=>rw[(Ga q b.symm).1 (K rfl)];simp
    have A:a=true->∀ w∈ei x i,¬w<(f.length:Int)->fg x (f.length-1-i)=false:=by intro m w c L;rw[Gb y D];rw[m] at b;rw[<-abt];intro h;exact L ((Ga q b.symm).2 h w c)
    have g:∀(w:List Int),w.length<=2->(∀ v∈w,v∈ei x i)->True:=fun _ _ _=>trivial;generalize ei x i=w at s J d A g;refine ax s ?_;simp
    refine aQ w.length (fun j=>[(0,FL f),(4,.mp 1),(5,.int .i64 i),(9,.bool a),(22,FL f),(23,.int .i64 f.length),(24,.int .i64 i),(55,.vs (ints .i64 w) .no),(56,.int .i64 w.length),(57,.int .i64 j)])
     (fun _=>[some (.cells [.fn 149 []]),some (.map zs),some (.cells [.int .i64 x.op,.int .i64 x.jt,.int .i64 x.jf,.int .u32 (x.k:Int)])]) (fun j=>a=true->∀ v∈w.take j,v<(f.length:Int)) ?_ ?_
    ·simp[av,aj,FL,qi,b.trans I]
    intro j W t
    by_cases o:j<w.length
    ·by_cases l:a=true/\¬w[j]<(f.length:Int)
     ·have z:=A l.1 _ (aam o) l.2;have u:((f.length:Int)<=w[j])=True:=eq_true an;simp(disch:=omega)[bM,l.1,u,FL,-aaa];exact r z i 4 (by decide)
     ·have B:a=true->∀ v∈w.take (j+1),v<(f.length:Int):=by
       intro m v c;rw[aaK,aad o] at c;simp only[ab_,aaY,aaG] at c
       rcases c with c|rfl
       ·exact t m v c
       ·exact acA.1 fun h=>l ⟨m,an⟩
      cases C:a with
      | false =>
       simp(disch:=omega)[bM,o,FL,av,aj,qi,bH,-aaa]
      | true =>
       have u:((f.length:Int)<=w[j])=False:=eq_false fun h=>l ⟨C,an⟩;simp(disch:=omega)[bM,o,FL,u,av,aj,qi,bH,-aaa];rw[C] at B;exact B rfl
    ·have M:j=w.length:=an
     subst M;rw[abv] at t;have N:=d t;simp(disch:=omega)[q,av,aj,qi,FL,bH,N,jP,-aaa]
   ·have I:(x.op==5||bf x.op)=bf x.op:=by simp[E]
    simp[aO,E];refine ax U ?_;simp;have s:=ou (G:=G) x i R (zS y) an;simp[IV,af.cs] at s;have b:∃ a,a=(x.op==5||bf x.op):=⟨_,rfl⟩;obtain⟨a,b⟩:=b;have J:=Su x i
    have d:(a=true->∀ w∈ei x i,w<(f.length:Int))->jP f=jP (f.drop (i+1)):=by
     intro K;rw[P.2,F,Gb y D]
     cases a with
     | false=>rw[Sr b.symm];simp
     | true=>rw[(Ga q b.symm).1 (K rfl)];simp
    have A:a=true->∀ w∈ei x i,¬w<(f.length:Int)->fg x (f.length-1-i)=false:=by intro m w c L;rw[Gb y D];rw[m] at b;rw[<-abt];intro h;exact L ((Ga q b.symm).2 h w c)
    have g:∀(w:List Int),w.length<=2->(∀ v∈w,v∈ei x i)->True:=fun _ _ _=>trivial;generalize ei x i=w at s J d A g;refine ax s ?_;simp
    refine aQ w.length (fun j=>[(0,FL f),(4,.mp 1),(5,.int .i64 i),(9,.bool a),(22,FL f),(23,.int .i64 f.length),(24,.int .i64 i),(55,.vs (ints .i64 w) .no),(56,.int .i64 w.length),(57,.int .i64 j)])
     (fun _=>[some (.cells [.fn 149 []]),some (.map zs),some (.cells [.int .i64 x.op,.int .i64 x.jt,.int .i64 x.jf,.int .u32 (x.k:Int)])]) (fun j=>a=true->∀ v∈w.take j,v<(f.length:Int)) ?_ ?_
    ·simp[av,aj,FL,qi,b.trans I]
    intro j W t
    by_cases o:j<w.length
    ·by_cases l:a=true/\¬w[j]<(f.length:Int)
     ·have z:=A l.1 _ (aam o) l.2;have u:((f.length:Int)<=w[j])=True:=eq_true an;simp(disch:=omega)[bM,l.1,u,FL,-aaa];exact r z i 4 (by decide)
     ·have B:a=true->∀ v∈w.take (j+1),v<(f.length:Int):=by
       intro m v c;rw[aaK,aad o] at c;simp only[ab_,aaY,aaG] at c
       rcases c with c|rfl
       ·exact t m v c
       ·exact acA.1 fun h=>l ⟨m,an⟩
      cases C:a with
      | false =>
       simp(disch:=omega)[bM,o,FL,av,aj,qi,bH,-aaa]
      | true =>
       have u:((f.length:Int)<=w[j])=False:=eq_false fun h=>l ⟨C,an⟩;simp(disch:=omega)[bM,o,FL,u,av,aj,qi,bH,-aaa];rw[C] at B;exact B rfl
    ·have M:j=w.length:=an
     subst M;rw[abv] at t;have N:=d t
     simp(disch:=omega)[q,av,aj,qi,FL,bH,N,jP,-aaa]
  | some p =>
   obtain⟨n,fn⟩:=p;obtain⟨e,H,Kl⟩:=zFq (G:=G) x S;simp;simp[RH,af.cs,IV] at H;refine kj H ir ?_
   by_cases T:e=0
   ·have D:=Kl.1 T;subst T
    by_cases E:x.op=5
    ·have I:(x.op==5||bf x.op)=true:=by simp[E]
     have V:(x.op==5)=true:=by simp[E]
     simp[V,aj,qi];have s:=ou (G:=G) x i R (zS y) an;simp[IV,af.cs] at s;have b:∃ a,a=(x.op==5||bf x.op):=⟨_,rfl⟩;obtain⟨a,b⟩:=b;have J:=Su x i
     have d:(a=true->∀ w∈ei x i,w<(f.length:Int))->jP f=jP (f.drop (i+1)):=by
      intro K;rw[P.2,F,Gb y D]
      cases a with
      | false=>rw[Sr b.symm];simp
      | true=>rw[(Ga q b.symm).1 (K rfl)];simp
     have A:a=true->∀ w∈ei x i,¬w<(f.length:Int)->fg x (f.length-1-i)=false:=by intro m w c L;rw[Gb y D];rw[m] at b;rw[<-abt];intro h;exact L ((Ga q b.symm).2 h w c)
     have g:∀(w:List Int),w.length<=2->(∀ v∈w,v∈ei x i)->True:=fun _ _ _=>trivial;generalize ei x i=w at s J d A g;refine ax s ?_;simp
     refine aQ w.length (fun j=>[(0,FL f),(4,.mp 1),(5,.int .i64 i),(9,.bool a),(22,FL f),(23,.int .i64 f.length),(24,.int .i64 i),(55,.vs (ints .i64 w) .no),(56,.int .i64 w.length),(57,.int .i64 j)])
      (fun _=>[some (.cells [.fn 149 []]),some (.map zs),some (.cells [.int .i64 x.op,.int .i64 x.jt,.int .i64 x.jf,.int .u32 (x.k:Int)])]) (fun j=>a=true->∀ v∈w.take j,v<(f.length:Int)) ?_ ?_
     ·simp[av,aj,FL,qi,b.trans I]
     intro j W t
     by_cases o:j<w.length
     ·by_cases l:a=true/\¬w[j]<(f.length:Int)
      ·have z:=A l.1 _ (aam o) l.2;have u:((f.length:Int)<=w[j])=True:=eq_true an;simp(disch:=omega)[bM,l.1,u,FL,-aaa];exact r z i 4 (by decide)
      ·have B:a=true->∀ v∈w.take (j+1),v<(f.length:Int):=by
        intro m v c;rw[aaK,aad o] at c;simp only[ab_,aaY,aaG] at c
        rcases c with c|rfl
        ·exact t m v c
        ·exact acA.1 fun h=>l ⟨m,an⟩
       cases C:a with
       | false =>
        simp(disch:=omega)[bM,o,FL,av,aj,qi,bH,-aaa]
       | true =>
        have u:((f.length:Int)<=w[j])=False:=eq_false fun h=>l ⟨C,an⟩;simp(disch:=omega)[bM,o,FL,u,av,aj,qi,bH,-aaa];rw[C] at B;exact B rfl
     ·have M:j=w.length:=an
      subst M;rw[abv] at t;have N:=d t;simp(disch:=omega)[q,av,aj,qi,FL,bH,N,jP,-aaa]
    ·have I:(x.op==5||bf x.op)=bf x.op:=by simp[E]
     simp[aO,E,aj,qi];refine ax U ?_;simp;have s:=ou (G:=G) x i R (zS y) an;simp[IV,af.cs] at s;have b:∃ a,a=(x.op==5||bf x.op):=⟨_,rfl⟩;obtain⟨a,b⟩:=b;have J:=Su x i
     have d:(a=true->∀ w∈ei x i,w<(f.length:Int))->jP f=jP (f.drop (i+1)):=by
      intro K;rw[P.2,F,Gb y D]
      cases a with
      | false=>rw[Sr b.symm];simp
      | true=>rw[(Ga q b.symm).1 (K rfl)];simp
     have A:a=true->∀ w∈ei x i,¬w<(f.length:Int)->fg x (f.length-1-i)=false:=by intro m w c L;rw[Gb y D];rw[m] at b;rw[<-abt];intro h;exact L ((Ga q b.symm).2 h w c)
     have g:∀(w:List Int),w.length<=2->(∀ v∈w,v∈ei x i)->True:=fun _ _ _=>trivial;generalize ei x i=w at s J d A g;refine ax s ?_;simp
     refine aQ w.length (fun j=>[(0,FL f),(4,.mp 1),(5,.int .i64 i),(9,.bool a),(22,FL f),(23,.int .i64 f.length),(24,.int .i64 i),(55,.vs (ints .i64 w) .no),(56,.int .i64 w.length),(57,.int .i64 j)])
      (fun _=>[some (.cells [.fn 149 []]),some (.map zs),some (.cells [.int .i64 x.op,.int .i64 x.jt,.int .i64 x.jf,.int .u32 (x.k:Int)])]) (fun j=>a=true->∀ v∈w.take j,v<(f.length:Int)) ?_ ?_
     ·simp[av,aj,FL,qi,b.trans I]
     intro j W t
     by_cases o:j<w.length
     ·by_cases l:a=true/\¬w[j]<(f.length:Int)
      ·have z:=A l.1 _ (aam o) l.2;have u:((f.length:Int)<=w[j])=True:=eq_true an;simp(disch:=omega)[bM,l.1,u,FL,-aaa];exact r z i 4 (by decide)
      ·have B:a=true->∀ v∈w.take (j+1),v<(f.length:Int):=by
        intro m v c;rw[aaK,aad o] at c;simp only[ab_,aaY,aaG] at c
        rcases c with c|rfl
        ·exact t m v c
        ·exact acA.1 fun h=>l ⟨m,an⟩
       cases C:a with
       | false =>
        simp(disch:=omega)[bM,o,FL,av,aj,qi,bH,-aaa]
       | true =>
        have u:((f.length:Int)<=w[j])=False:=eq_false fun h=>l ⟨C,an⟩;simp(disch:=omega)[bM,o,FL,u,av,aj,qi,bH,-aaa];rw[C] at B;exact B rfl
     ·have M:j=w.length:=an
      subst M;rw[abv] at t;have N:=d t;simp(disch:=omega)[q,av,aj,qi,FL,bH,N,jP,-aaa]
   ·have X:nH x=false:=by rw[<-abt];exact fun h=>T (Kl.2 h)
    simp[kO,T,aj,qi];exact r (by simp[fg,X]) _ _ T
 ·have iH:i=f.length:=an
  subst iH
  have q:f.length-1<f.length:=an
  have Q:=tF q;have S:=P.2;rw[List.drop_length] at S;have rT:=zCN O an S;have uY:=zwy O;generalize f[f.length-1]=x at Q rT uY;have H:=N_ (G:=G) x;simp[IV,af.cs] at H;have iQ:c_ .i64 (f.length:Int) 1=((f.length-1:Nat):Int):=Yc (by have:maxLen<=9223372036854775807:=(by decide);omega);simp[FL,iQ,Q,af.cs];refine ax H ?_;cases AE:gL x.op
  ·simp;exact⟨_,5,rfl,by simp[uY AE]⟩
  ·simp;exact⟨_,0,rfl,by simp[rT AE]⟩
def JV[az G][ay G](f:List af)(a:f.length<=maxLen)(b:∀ x∈f,x.k<4294967296):FP G 157 [FL f] (.bool (dB f)):=by
 refine bD ay.agr (aab rfl) ?_;obtain⟨v,c,i,e,rfl,d⟩:=zCO (G:=G) f a b;simp;refine ax c ?_
 have:(e==0)=dB f:=by rw[aaA,beq_iff_eq];exact d
 simp[this]
def YK{a b:Nat}(d:a<18446744073709551616):mr .u64 (a:Int) (b:Int)=((a/b:Nat):Int):=by have h:a/b<=a:=aaE _ _;unfold mr;have c:((a:Int).tdiv (b:Int))=((a/b:Nat):Int):=rfl;rw[c];exact IntWalk.u64_in _ ⟨acJ _,by rw[Int.ofNat_le.symm] at h;omega⟩
def zAC{a:Nat}(b:a<256):fV .u8 (a:Int)=(a:Int):=by unfold fV;exact IntWalk.u8_in _ ⟨an,an⟩
def gn(v n:Nat):List Nat:=(aaT n).map fun j=>v/256^j%256
def zAD(v n:Nat):gn v (n+1)=gn v n++[v/256^n%256]:=by simp[gn,abh]
def zve(v n:Nat):(gn v n).length=n:=by simp[gn]
def num:List Nat->Nat
 | []=>0
 | b::l=>b+256*num l
def part(s:St):Nat->Nat
 | 0=>s.a
 | 1=>s.x
 | i+2=>s.m.getD i 0
def YL(s:St)(k v i:Nat)(b:s.m.length=16):part (wy s k v) i=if k<16/\i=k+2 then v else part s i:=by
 unfold wy;split
 ·rename_i a
  match i with
  | 0=>simp[part]
  | 1=>simp[part]
  | i+2 =>
   simp only[part,abm,aa8]
   by_cases e:k=i
   ·subst e;simp[a,b]
   ·simp[e,show¬i=k from fun h=>e h.symm]
 ·rename_i a;simp[a]
def ztb(s:St)(k:Nat):z7 s k=if k<16 then part s (k+2) else 0:=rfl
def zwz(s:St)(x:af)(d:Da)(b:s.m.length=16)(c:(bw x.op).2.2=false)(i:Nat)(hi:i<18)(h:ma x i=false):part (kC s x d) i=part s i:=by
 unfold ma at h
 have two:∀ v,(x.op=2\/x.op=3)->part (wy s x.k v) i=part s i:=by
  intro v a;rw[YL s x.k v i b];split
  ·rename_i e;exfalso;rw[if_neg an,if_neg an] at h;simp only[decide_eq_false_iff_not] at h;exact h ⟨a,e.2.symm⟩
  ·rfl
 match i,hi with
 | 0,_ =>
  simp[c] at h;unfold kC
  repeat' split
  all_goals first
   | rfl
   | (exfalso;omega)
   | exact two _ an
 | 1,_ =>
  simp at h;unfold kC
  repeat' split
  all_goals first
   | rfl
   | (exfalso;omega)
   | exact two _ an
 | i+2,hi =>
  unfold kC
  repeat' split
  all_goals first
   | rfl
   | exact two _ an
def zyP(s t:St)(x:af)(d:Da)(q:s.m.length=16)(r:t.m.length=16)(h:∀ i,i<18->kV x i=true->part s i=part t i)(i:Nat)(hi:i<18)(j:(bw x.op).2.2=false)(b:ma x i=true) :
  part (kC s x d) i=part (kC t x d) i:=by
 have f:x.op∈[2,7,132,22]->s.a=t.a:=fun c=>h 0 (by decide) (by simp only[kV,c];simp);have g:x.op∈[3,135]->s.x=t.x:=fun c=>h 1 (by decide) (by simp only[kV,c];simp)
 have l:(x.op=96\/x.op=97)->z7 s x.k=z7 t x.k:=by
  intro c;rw[ztb,ztb];split
  ·rename_i n;exact h (x.k+2) an (by simp[kV,c])
  ·rfl
 unfold ma at b
 have two:∀ v,(x.op=2\/x.op=3)->part (wy s x.k v) i=part (wy t x.k v) i:=by
  intro v u;rw[YL s x.k v i q,YL t x.k v i r];split
  ·rfl
  ·rename_i n;exfalso
   by_cases o:i=0
   ·subst o;simp[j] at b;omega
   ·by_cases p:i=1
    ·subst p;simp at b;omega
    ·rw[if_neg o,if_neg p] at b;simp only[decide_eq_true_eq] at b;apply n;omega
 match i,hi with
 | 0,_ =>
  simp[j] at b
  rcases b with e|e|e|e|e
  ·simp[kC,e,part]
  ·simp[kC,e,part]
  ·simp[kC,e,part,l (.inl e)]
  ·simp[kC,e,part,g (by simp[e])]
  ·simp[kC,e,part,f (by simp[e])]
 | 1,_ =>
  simp at b
  rcases b with e|e|e
  ·simp[kC,e,part]
  ·simp[kC,e,part,l (.inr e)]
  ·simp[kC,e,part,f (by simp[e])]
 | i+2,_ =>
  simp at b
  rcases b.1 with e|e
  ·have:=two s.a (.inl e);rw[f (by simp[e])] at this;simp[kC,e,f (by simp[e])];exact this
  ·have:=two s.x (.inr e);rw[g (by simp[e])] at this;simp[kC,e,g (by simp[e])];exact this
def zpp(s:St)(x:af)(d:Da)(b:s.m.length=16)(i:Nat)(hi:i<18)(h:ma x i=false):part (eM s x d).1 i=part s i:=by
 unfold eM;cases a:(bw x.op).2.2
 ·simp only[aaH,if_false];exact zwz s x d b a i hi h
 ·simp only[if_true];split
  ·match i,hi with
   | 0,_=>simp[ma,a] at h
   | 1,_=>rfl
   | i+2,_=>rfl
  ·rfl
def zyQ(s t:St)(x:af)(d:Da)(g:s.m.length=16)(j:t.m.length=16)(h:∀ i,i<18->kV x i=true->part s i=part t i) :
  (eM s x d).2=(eM t x d).2/\∀ i,i<18->ma x i=true->part (eM s x d).1 i=part (eM t x d).1 i:=by
 unfold eM;cases e:(bw x.op).2.2
 ·simp only[aaH,if_false,true_and];exact fun i hi c=>zyP s t x d g j h i hi e c
 ·have f:s.a=t.a:=h 0 (by decide) (by simp[kV,e])
  have k:kW s x=kW t x:=by
   unfold kW;split
   ·rename_i l;exact h 1 (by decide) (by simp[kV,ug,l])
   ·rfl
  have n:ny s x=ny t x:=by unfold ny;rw[f,k]
  simp only[if_true,n,true_and];intro i hi c;split
  ·match i,hi with
   | 0,_=>rfl
   | 1,_ =>
    exfalso
    have b:∀ p∈[4,20,36,52,68,84,100,116,164,12,28,44,60,76,92,108,124,(172:Int)],decide (p∈[1,97,(7:Int)])=false:=by decide
    have:=b _ (KY e);simp only[ma] at c;simp at c this
    omega
   | i+2,_ =>
    exfalso
    have b:∀ p∈[4,20,36,52,68,84,100,116,164,12,28,44,60,76,92,108,124,(172:Int)],¬p=2/\¬p=3:=by decide
    have:=b _ (KY e);simp[ma] at c;omega
  ·match i,hi with
   | 0,_=>exact f
   | 1,_ =>
    exfalso
    have b:∀ p∈[4,20,36,52,68,84,100,116,164,12,28,44,60,76,92,108,124,(172:Int)],decide (p∈[1,97,(7:Int)])=false:=by decide
    have:=b _ (KY e);simp only[ma] at c;simp at c this
    omega
   | i+2,_ =>
    exfalso
    have b:∀ p∈[4,20,36,52,68,84,100,116,164,12,28,44,60,76,92,108,124,(172:Int)],¬p=2/\¬p=3:=by decide
    have:=b _ (KY e);simp[ma] at c;omega
def aU(x:af):List Nat:=if gL x.op then [] else if x.op=5 then [x.k] else if bf x.op then [x.jt.toNat,x.jf.toNat] else [0]
def D9(p:Nat):List af->List Bool
 | []=>[]
 | x::f=>(kV x p||((aU x).any (fun o=>(D9 p f).getD o false)&&!ma x p))::D9 p f
def nd(f:List af)(p:Nat):Bool:=(D9 p f).headD false
def zvf(p:Nat):∀(f:List af) (i:Nat),D9 p (f.drop i)=(D9 p f).drop i
 | f,0=>rfl
 | [],i+1=>by simp[D9]
 | x::f,i+1=>by simp only[acE,D9];exact zvf p f i
def zG1(p:Nat)(f:List af)(o:Nat):(D9 p f).getD o false=nd (f.drop o) p:=by unfold nd;rw[zvf,List.headD_eq_head?_getD,List.head?_drop];rfl
def YM(x:af)(f:List af)(p:Nat):nd (x::f) p=(kV x p||((aU x).any (fun o=>nd (f.drop o) p)&&!ma x p)):=by
 simp only[nd,D9,List.headD_cons]
 congr 2
 congr 1
 funext o
 exact zG1 p f o
def wd(f:List af):Nat:=gW (nd f) 18
def zee:List af->List Nat
 | []=>[]
 | x::f=>wd (x::f)::zee f
def Sv:∀ f:List af,(zee f).length=f.length
 | []=>rfl
 | x::f=>by simp[zee,Sv f]
def YN:∀(f:List af) (i:Nat),i<f.length->(zee f)[i]?=some (wd (f.drop i))
 | x::f,0,_=>rfl
 | x::f,i+1,h=>by
  simp only[zee,abH,acE];exact YN f i (by simpa using h)
def bh(g:List af)(os:List Nat)(p:Nat):Bool:=os.any fun o=>nd (g.drop o) p
def zxo(a b:Nat->Bool):∀ n,gW a n ||| gW b n=gW (fun p=>a p||b p) n:=by
 intro n;refine aaF fun i=>?_;rw[Nat.testBit_or,Bv,Bv,Bv]
 cases decide (i<n)<;>simp
def YO:∀ n,gW (fun _=>false) n=0
 | 0=>rfl
 | n+1=>by simp[gW,YO n]
def zxp(g:List af)(os:List Nat)(o:Nat):gW (bh g os) 18 ||| wd (g.drop o)=gW (bh g (os++[o])) 18:=by
 rw[wd,zxo]
 congr 1
 funext p
 simp[bh]
def zFr(x:af)(g:List af):gW (fun p=>kV x p||(bh g (aU x) p&&!ma x p)) 18=wd (x::g):=by
 unfold wd
 congr 1
 funext p
 rw[YM];rfl
def zAE(a b:Nat->Bool)(n:Nat)(c:n<=32):Kg .u32 ((gW a n:Nat):Int) ((gW b n:Nat):Int)=((gW (fun p=>a p&&!b p) n:Nat):Int):=by
 have d:gW a n<2^32:=aat (wv a n) (aal (by decide) c);have e:gW b n<2^32:=aat (wv b n) (aal (by decide) c);unfold Kg;rw[qp,qp]
 have:(abF 32 (gW a n) &&& ~~~abF 32 (gW b n)).toNat=gW (fun p=>a p&&!b p) n:=by
  refine aaF fun i=>?_;rw[BitVec.testBit_toNat,BitVec.getLsbD_and,BitVec.getLsbD_not,acB,acB,Bv,Bv,Bv]
  by_cases hi:i<n
  ·have:i<32:=an
   simp[hi,this]
  ·simp[hi]
 show IntKind.u32.wrap _=_;rw[show IntKind.u32.bits=32 from rfl,this];exact vY (aat (wv _ n) (aal (by decide) c))
def zEs(f:List af):wd f<2^32:=aat (wv _ 18) (by decide)
def zt(x:af)(i:Nat):List Int:=(aU x).map fun(o:Nat)=>((i+1+o:Nat):Int)
def zvg[az G][fG G](x:af)(i:Nat)(h:x.k<4294967296)(j:x.D8)(hi:i<=5000):FP G 170 [IV x,.int .i64 i] (.vs (ints .i64 (zt x i)) .no):=by
 refine bD fG.agE (aab rfl) ?_;have f:=N_ (G:=G) x;have g:=yM (G:=G) x
 have b:aE .i64 (i:Int) 1=(i:Int)+1:=by rw[ey]<;>omega
 simp[IV,af.cs,b] at f g |-;refine ax f ?_;cases c:gL x.op
 ·simp
  by_cases a:x.op=5
  ·have l:aE .i64 ((i:Int)+1) (x.k:Int)=((i+1+x.k:Nat):Int):=by rw[ey]<;>omega
   have d:(x.op==5)=true:=by simp[a]
   simp[d,E9 x.k h,b,l];simp[zt,aU,c,a,ints,gL]
  ·have d:(x.op==5)=false:=aO a;simp[d];refine ax g ?_;cases e:bf x.op
   ·simp[zt,aU,c,a,e,ints,b]
   ·obtain⟨o,p,q,r⟩:=j e
    have m:aE .i64 ((i:Int)+1) x.jt=((i+1+x.jt.toNat:Nat):Int):=by rw[ey]<;>omega
    have n:aE .i64 ((i:Int)+1) x.jf=((i+1+x.jf.toNat:Nat):Int):=by rw[ey]<;>omega
    simp[b,m,n];simp[zt,aU,c,a,e,ints]
 ·simp[zt,aU,c,ints]
def zvh:∀{f:List af} {i:Nat} {x:af},jP f=true->f[i]?=some x->fg x (f.length-1-i)=true
 | y::f,0,x,h,a=>by
  simp only[acg,aaS.injEq] at a;subst a;simp only[jP,aay] at h
  simpa using h.1
 | y::f,i+1,x,h,a=>by
  simp only[jP,aay] at h;have:=zvh h.2 (by simpa using a);rw[<-this]
  congr 1
  simp only[aav];omega
def Hi{f:List af}{i:Nat}{x:af}(h:dB f=true)(a:f[i]?=some x):fg x (f.length-1-i)=true/\(gL x.op=false->i+1<f.length)/\f.length<=4096:=by
 simp only[dB,aay,decide_eq_true_eq] at h;refine⟨zvh h.1.2 a,fun b=>?_,h.1.1⟩;obtain⟨hi,e⟩:=aaz.1 a
 by_cases d:i+1<f.length
 ·exact d
 ·have:i=f.length-1:=an
  have c:=h.2
  have:f.getLast?=some x:=by rw[abC,<-this];exact a
  simp only[kA,this] at c;rw[c] at b;cases b
def E8{f:List af}{i:Nat}{x:af}(h:dB f=true)(e:f[i]?=some x){o:Nat}(a:o∈aU x):i+1+o<f.length:=by
 obtain⟨b,c,k⟩:=Hi h e;simp only[fg,aay] at b;unfold aU at a;split at a
 ·cases a
 rename_i g;have c:=c (by simpa using g);split at a
 ·rename_i j;simp only[aaG] at a;subst a;have:=b.1.2;rw[if_pos j,decide_eq_true_eq] at this;omega
 split at a
 ·rename_i d;have l:=zS b.1.1.1 d;have:=b.2;rw[if_pos d,decide_eq_true_eq] at this;simp only[aah,aaU,or_false] at a
  rcases a with rfl|rfl<;>omega
 ·simp only[aaG] at a;omega
def zvi(x:af):(aU x).length<=2:=by unfold aU;split;simp;split;simp;split<;>simp
def yw(f:List af)(k:Nat):List Nat:=aaD k 0++zee (f.drop k)
def YP(f:List af)(k:Nat)(h:k<=f.length):(yw f k).length=f.length:=by simp[yw,Sv];omega
def zwA(f:List af)(k j:Nat)(h:k<=j)(a:j<f.length):(yw f k)[j]?=some (wd (f.drop j)):=by
 rw[yw,aa7 (by simpa using h)];rw[acx,YN _ _ (by simp;omega),acy]
 congr 3;omega
def zwB(f:List af)(k:Nat)(a:k<f.length):(yw f (k+1)).set k (wd (f.drop k))=yw f k:=by unfold yw;rw[List.replicate_succ',acN,List.set_append_right _ _ ir];rw[aaB a];simp only[acx,ac1,List.singleton_append,List.set_cons_zero];rfl
def zLP[az G][ay G][dg G][fG G](f:List af)(r:∀ x∈f,x.k<4294967296)(b:dB f=true):FP G 171 [FL f] (.a_ [.vs (ak .u32 (zee f)) .no,.int .i64 0]):=by
 have X:f.length<=4096:=by simp only[dB,aay,decide_eq_true_eq] at b;exact b.1.1
 have Y:maxLen=9223372036854775807:=by decide
 refine bD fG.agF (aab rfl) ?_;have J:=JV (G:=G) f an r;simp;refine ax J ?_
 have K:c_ .i64 (f.length:Int) 1=(f.length:Int)-1:=by rw[oW]<;>omega
 simp(disch:=omega)[b,FL,K,aC];refine aQ f.length (fun i=>[(0,FL f),(4,.rs 0 0 f.length 1),(5,.int .i64 ((f.length:Int)-1-i))]) (fun i=>[some (.cells (au .u32 (yw f (f.length-i))))]) (fun _=>True) ?_ ?_
 ·simp[av,aj,FL,yw,zee,aP]
 intro i hi _
 by_cases L:i<f.length
 ·have s:∃ t,t=f.length-1-i:=⟨_,rfl⟩;obtain⟨t,s⟩:=s
  have M:(f.length:Int)-1-i=(t:Int):=an
  have N:f.length-i=t+1:=an
  have O:f.length-(i+1)=t:=an
  have a:t<f.length:=an
  have h:f[t]?=some f[t]:=aad a;have d:=tF a;have u:f[t]∈f:=aam a;have v:=aaB a;generalize f[t]=x at h d u v;have P:=r x u;obtain⟨w,_,_⟩:=Hi b h;simp only[fg,aay] at w;have y:=zvg (G:=G) x t P (zS w.1.1.1) an;have z:=zFi (G:=G) x;have A:=zFj (G:=G) x;have e:x.cs=[.int .i64 x.op,.int .i64 x.jt,.int .i64 x.jf,.int .u32 (x.k:Int)]:=rfl;simp[IV,e] at y z A;simp(disch:=omega)[M,N,bM,FL,d,e,pa]
  refine ax y ?_;simp
  refine aQ (aU x).length (fun j=>[(0,FL f),(4,.rs 0 0 f.length 1),(5,.int .i64 t),(6,.int .u32 (gW (bh (f.drop (t+1)) ((aU x).take j)) 18:Nat)),(27,.vs (ints .i64 (zt x t)) .no),(28,.int .i64 (aU x).length),(29,.int .i64 j)])
   (fun _=>[some (.cells (au .u32 (yw f (t+1))))]) (fun _=>True) ?_ ?_
  ·have Q:gW (bh (f.drop (t+1)) []) 18=0:=YO 18;simp[av,aj,FL,Q,zt]
  intro j Z _;have Fl:=zvi x
  by_cases l:j<(aU x).length
  ·have m:(aU x)[j]?=some (aU x)[j]:=aad l;have B:(aU x)[j]∈aU x:=aam l;have C:=E8 b h B
   have D:(aU x).take (j+1)=(aU x).take j++[(aU x)[j]]:=by rw[aaK,m];rfl
   have E:(zt x t)[j]?=some ((t+1+(aU x)[j]:Nat):Int):=by simp[zt,m]
   generalize(aU x)[j]=o at m B C D E
   have R:((au .u32 (yw f (t+1))).drop (t+1+o)).take 1=[.int .u32 (wd (f.drop (t+1+o)):Nat)]:=by have g:=YP f (t+1) an;have c:=zwA f (t+1) (t+1+o) an C;rw[sI _ _ _ an];rw[aad an,aaS.injEq] at c;rw[c]
   have n:uK .u32 ((gW (bh (f.drop (t+1)) ((aU x).take j)) 18:Nat):Int) ((wd (f.drop (t+1+o)):Nat):Int)=((gW (bh (f.drop (t+1)) ((aU x).take (j+1))) 18:Nat):Int):=by rw[yW (aat (wv _ 18) (by decide)) (zEs _),D,<-zxp,acy]
   have g:=YP f (t+1) an;simp(disch:=omega)[bM,E,R,g,n,aC,FL,av,aj,bH,l,-aaa]
  ·have p:j=(aU x).length:=an
   subst p;rw[abv];have g:=YP f (t+1) an;have F:=zFr x (f.drop (t+1));rw[<-v] at F;have S:=zwB f t a;have q:F7 x<2^32:=aat (wv _ 18) (by decide)
   have n:uK .u32 ((F7 x:Nat):Int) (Kg .u32 ((gW (bh (f.drop (t+1)) (aU x)) 18:Nat):Int) ((D4 x:Nat):Int))=((wd (f.drop t):Nat):Int):=by rw[D4,zAE _ _ 18 (by decide),yW q (aat (wv _ 18) (by decide)),F7,zxo,F]
   have H:=xO .u32 (yw f (t+1)) t (wd (f.drop t)) an;rw[S] at H;simp(disch:=omega)[FL,d,e,bM,pa,-aaa];refine ax z ?_;simp(disch:=omega)[FL,d,e,bM,pa,-aaa];refine ax A ?_
   have T:c_ .i64 (t:Int) 1=(f.length:Int)-1-((i+1:Nat):Int):=by rw[oW]<;>omega
   simp(disch:=omega)[n,g,aC,H,a,T,av,aj,L,O,-aaa]
 ·have p:i=f.length:=an
  subst p;have U:((f.length:Int)<=(f.length:Int)-1)=False:=eq_false an
  have V:yw f 0=zee f:=by simp[yw]
  have W:pE 1 f.length (au .u32 (zee f))=ak .u32 (zee f):=by rw[<-Sv f];exact zn2 .u32 (zee f)
  have I:=Sv f;simp[U,V,I,fe I,W,aC]
def zAF[az G][ay G][dg G][fG G](f:List af)(t:Nat)(x:af)(a:f[t]?=some x)(e:∀ x∈f,x.k<4294967296)(b:dB f=true) :
  FP G 172 [FL f,.int .i64 t] (.a_ [.int .u32 (gW (bh (f.drop (t+1)) (aU x)) 18:Nat),.int .i64 0]):=by
 refine bD fG.agG (aab rfl) ?_;obtain⟨g,v⟩:=aaz.1 a;have h:=tF g;have i:f[t]∈f:=aam g;rw[v] at h i;have w:=e x i;obtain⟨l,_,m⟩:=Hi b a;simp only[fg,aay] at l;have n:=zvg (G:=G) x t w (zS l.1.1.1) an;have p:x.cs=[.int .i64 x.op,.int .i64 x.jt,.int .i64 x.jf,.int .u32 (x.k:Int)]:=rfl;simp[IV,p] at n;simp;refine ax (zLP f e b) ?_;have y:((f.length:Int)<=(t:Int))=False:=eq_false an
 simp(disch:=omega)[y,kQ,FL,h,p];refine ax n ?_;simp
 refine aQ (aU x).length (fun j=>[(6,.vs (ak .u32 (zee f)) .no),(8,.int .u32 (gW (bh (f.drop (t+1)) ((aU x).take j)) 18:Nat)),(33,.vs (ints .i64 (zt x t)) .no),(34,.int .i64 (aU x).length),(35,.int .i64 j)])
  (fun _=>[]) (fun _=>True) ?_ ?_
 ·have z:gW (bh (f.drop (t+1)) []) 18=0:=YO 18;simp[av,aj,FL,z,zt]
 intro j D _;have E:=zvi x
 by_cases c:j<(aU x).length
 ·have d:(aU x)[j]?=some (aU x)[j]:=aad c;have q:(aU x)[j]∈aU x:=aam c;have r:=E8 b a q
  have s:(aU x).take (j+1)=(aU x).take j++[(aU x)[j]]:=by rw[aaK,d];rfl
  have u:(zt x t)[j]?=some ((t+1+(aU x)[j]:Nat):Int):=by simp[zt,d]
  generalize(aU x)[j]=o at d q r s u;have A:=YN f (t+1+o) r
  have B:uK .u32 ((gW (bh (f.drop (t+1)) ((aU x).take j)) 18:Nat):Int) ((wd (f.drop (t+1+o)):Nat):Int)=((gW (bh (f.drop (t+1)) ((aU x).take (j+1))) 18:Nat):Int):=by rw[yW (aat (wv _ 18) (by decide)) (zEs _),s,<-zxp,acy]
  simp(disch:=omega)[bM,u,A,B,aC,FL,av,aj,bH,c,-aaa]
 ·have C:j=(aU x).length:=an
  subst C;simp
def YQ{f:List af}(h:dB f=true):f≠[]:=by rintro rfl;simp[dB,kA] at h
def cb(l:List Bool):List V:=l.map V.bool
@[simp] theorem zMn (l:List Bool):(cb l).length=l.length:=by simp[cb]
@[simp] theorem akM (n:Nat) (l:List Bool):aX n (cb l)=cb l:=by rw[ia];simp[cb,aca]
theorem zG2(l:List Bool)(i:Nat)(b:Bool)(h:l[i]?=some b):((cb l).drop i).take 1=[.bool b]:=by obtain⟨a,rfl⟩:=aaz.1 h;rw[cb,<-acY,aaB a];rfl
def Qy(l:List Bool)(i:Nat)(x:Bool)(h:i<l.length):(cb l).take i++(V.bool x::(cb l).drop (i+1))=cb (l.set i x):=by rw[cb,<-acY,<-List.map_take,List.set_eq_take_append_cons_drop,if_pos h];simp[cb]
@[simp] theorem zMO (l:List Bool):(cb l).all V.pure=true:=by simp[cb]
@[simp high] theorem zMo (base:Nat) (e:Env) (H:ae) (s bytes:Nat) (n:X):aV base e H (.qa s bytes [.bool false] n)=(match n.ev e with
  | .int _ m=>if lK H (base+s)=true/\0<=m/\m.toNat*bytes<=140737488355328 then some (.rs (base+s) 0 m.toNat 1,H.set (base+s) (some (.cells (cb (aaD m.toNat false))))) else none
  | _=>none):=by
 have h:∀ m:Nat,(aaD m [V.bool false]).flatten=cb (aaD m false):=fun m=>by
  induction m with
  | zero=>rfl
  | succ m a=>rw[ab4,acL,a];simp[cb,ab4]
 rw[aV.eq_27]
 cases n.ev e<;>simp only[h,List.length_singleton]
def L_{f:List af}{i:Nat}{x:af}(h:dB f=true)(a:f[i]?=some x):x.D8:=by have:=(Hi h a).1;simp only[fg,aay] at this;exact zS this.1.1.1
def goes(s:St)(x:af):Nat:=if x.op=5 then x.k else if bf x.op then(if cQ s x then x.jt.toNat else x.jf.toNat) else 0
def run(d:Da)(g:List af)(s:St):Nat×Nat :=
 match g with
 | []=>(0,0)
 | x::g=>if x.op=6 then(x.k,1) else if x.op=22 then(s.a,1) else if(eM s x d).2 then((run d (g.drop (goes s x)) (eM s x d).1).1,(run d (g.drop (goes s x)) (eM s x d).1).2+1) else(0,1)
termination_by g.length
decreasing_by all_goals (simp only[abr,aav];omega)
def xY(d:Da)(x:af)(g:List af)(s:St):run d (x::g) s=if x.op=6 then(x.k,1) else if x.op=22 then(s.a,1) else if(eM s x d).2 then((run d (g.drop (goes s x)) (eM s x d).1).1,(run d (g.drop (goes s x)) (eM s x d).1).2+1) else(0,1):=by rw[run]
def QZ{x:af}(h:gL x.op=false)(s:St):goes s x∈aU x:=by
 unfold goes aU;rw[h];simp only[aaH,if_false]
 by_cases a:x.op=5
 ·simp[a]
 ·rw[if_neg a,if_neg a];split
  ·split<;>simp
  ·simp
def zAG(d:Da):∀(n:Nat) (g:List af) (s:St),g.length<=n->(run d g s).2<=g.length
 | _,[],s,_=>by rw[run];simp
 | 0,x::g,s,h=>by simp at h
 | n+1,x::g,s,h=>by
  rw[xY];have:=zAG d n (g.drop (goes s x)) (eM s x d).1 (by simp at h |-;omega);rw[abr] at this;rw[aav];split
  ·simp
  split
  ·simp
  split
  ·simp only;omega
  ·simp
def zwC{s t:St}{x:af}(h:∀ i,i<18->kV x i=true->part s i=part t i):cQ s x=cQ t x:=by
 cases b:bf x.op
 ·rw[zq1 b,zq1 b]
 ·have a:=h 0 (by decide) (by simp[kV,b])
  by_cases c:x.op∈[29,45,61,77]
  ·have d:=h 1 (by decide) (by simp only[kV,ug,c];simp);simp only[part] at a d;simp only[cQ,a,d]
  ·simp only[part] at a;simp only[cQ,a,c,if_false]
def ztc(d:Da)(hd:d.ok):∀(n:Nat) (g:List af) (s t:St),g.length<=n->s.ok->t.ok->(∀ x∈g,x.k<4294967296)->(∀ p,p<18->nd g p=true->part s p=part t p)->run d g s=run d g t
 | _,[],s,t,_,_,_,_,_=>by rw[run,run]
 | 0,x::g,s,t,h,_,_,_,_=>by simp at h
 | n+1,x::g,s,t,h,j,l,q,r=>by
  have u:=q x ir;have b:∀ i,i<18->kV x i=true->part s i=part t i:=fun i hi b=>r i hi (by rw[YM,b];rfl);obtain⟨v,w⟩:=zyQ s t x d j.2.2.1 l.2.2.1 b;rw[xY,xY]
  by_cases c:x.op=6
  ·rw[if_pos c,if_pos c]
  rw[if_neg c,if_neg c]
  by_cases a:x.op=22
  ·rw[if_pos a,if_pos a];have:=b 0 (by decide) (by simp[kV,a]);simp only[part] at this;rw[this]
  rw[if_neg a,if_neg a]
  have z:gL x.op=false:=by simp[gL,c,a]
  have A:goes s x=goes t x:=by unfold goes;rw[zwC b]
  have B:=QZ z t
  have m:=ztc d hd n (g.drop (goes t x)) (eM s x d).1 (eM t x d).1 (by simp at h |-;omega) (Hk j u hd) (Hk l u hd) (fun y C=>q y (by simp[aaZ C])) fun p e D=>by
   cases f:ma x p
   ·rw[zpp s x d j.2.2.1 p e f,zpp t x d l.2.2.1 p e f];refine r p e ?_;rw[YM,f];have:(aU x).any (fun o=>nd (g.drop o) p)=true:=acS.2 ⟨_,B,D⟩;rw[this];simp
   ·exact w p e f
  rw[A,v,m]
structure Cd where
 arg:Int
 cmp:Int
 mask:Nat
 val:Nat
 deriving DecidableEq
def Cd.ok(c:Cd):Prop:=c.mask<18446744073709551616/\c.val<18446744073709551616
def Cd.right(c:Cd):Bool:=decide (0<=c.arg/\c.arg<=5/\0<=c.cmp/\c.cmp<=5)
def jZ(cmp:Int)(a b:Nat):Bool :=
 if cmp=0 then decide (a=b) else if cmp=1 then decide (a≠b) else if cmp=2 then decide (a<b) else if cmp=3 then decide (a<=b) else if cmp=4 then decide (b<a) else decide (b<=a)
def mc(d:Da)(c:Cd):Nat:=d.args.getD c.arg.toNat 0 &&& c.mask
def Cd.holds(c:Cd)(d:Da):Bool:=c.right&&jZ c.cmp (mc d c) c.val
def pd(c:List af)(l:Nat):List af:=c.drop (c.length-l)
def zFs{a c:List af}{l:Nat}(h:l<=c.length):pd (a++c) l=pd c l:=by unfold pd;rw[aaW,show a.length+c.length-l=a.length+(c.length-l) by omega,ab5]
def zu(c:List af):pd c c.length=c:=by simp[pd]
def nN(c c':List af)(n:Nat):Prop:=∃ a,c'=a++c/\a.length<=n
def nN.refl(c:List af):nN c c 0:=⟨[],rfl,abi _⟩
def nN.trans{a b c:List af}{n m:Nat}(h:nN a b n)(k:nN b c m):nN a c (n+m):=by obtain⟨x,rfl,d⟩:=h;obtain⟨y,rfl,e⟩:=k;exact⟨y++x,by rw[acN],by rw[aaW];omega⟩
def nN.mono{a b:List af}{n m:Nat}(h:nN a b n)(c:n<=m):nN a b m:=by obtain⟨x,rfl,d⟩:=h;exact⟨x,rfl,an⟩
def nN.len{a b:List af}{n:Nat}(h:nN a b n):a.length<=b.length/\b.length<=a.length+n:=by obtain⟨x,rfl,c⟩:=h;rw[aaW];omega
def nN.pd{a b:List af}{n l:Nat}(h:nN a b n)(c:l<=a.length):pd b l=pd a l:=by obtain⟨x,rfl,d⟩:=h;exact zFs c
def bT(c:List af)(t:Nat):List af:=if c.length-t<=254 then c else⟨5,0,0,c.length-t⟩::c
def fY(c:List af)(t:Nat):Nat:=if c.length-t<=254 then t else c.length+1
def f_(c:List af)(op:Int)(k t f:Nat):List af :=
 ⟨op,((bT (bT c t) f).length-fY c t:Nat),((bT (bT c t) f).length-fY (bT c t) f:Nat),k⟩::bT (bT c t) f
def bt(c:List af)(op:Int)(k:Nat):List af:=⟨op,0,0,k⟩::c
def BA(c:List af)(t:Nat):nN c (bT c t) 1:=by
 unfold bT;split
 ·exact(nN.refl c).mono an
 ·exact⟨[_],rfl,abi _⟩
def K1{c:List af}{t:Nat}(h:1<=t/\t<=c.length):1<=fY c t/\fY c t<=(bT c t).length/\(bT c t).length-fY c t<=254:=by
 unfold fY bT;split
 ·exact⟨h.1,h.2,an⟩
 ·simp only[aav];omega
def Ov(c:List af)(op:Int)(k:Nat):nN c (bt c op k) 1:=⟨[_],rfl,abi _⟩
def D_(c:List af)(op:Int)(k t f:Nat):nN c (f_ c op k t f) 3 :=
 ((BA c t).trans (BA _ f)).trans ⟨[_],rfl,abi _⟩
def zq7(c:List af)(op:Int)(k t f:Nat):c.length<(f_ c op k t f).length:=by have:=((BA c t).trans (BA _ f)).len;simp only[f_,aav];omega
def Ow(op:Int):Prop:=op=5\/op=21\/op=37\/op=53
def zxq{x:af}(h:Ow x.op)(s:St)(d:Da):eM s x d=(s,true):=by
 have a:∀ op:Int,Ow op->bw op=(0,false,false):=by rintro op (rfl|rfl|rfl|rfl)<;>decide
 simp only[eM,a _ h,aaH,if_false,kC]
 rcases h with h|h|h|h<;>simp[h]
def zvj{d:Da}{c:List af}{t:Nat}(h:1<=t/\t<=c.length)(s:St):(run d (pd (bT c t) (fY c t)) s).1=(run d (pd c t) s).1:=by
 unfold bT fY;split
 ·rfl
 ·have e:pd (⟨5,0,0,c.length-t⟩::c) (c.length+1)=⟨5,0,0,c.length-t⟩::c:=zu _;rw[e,xY,if_neg (show¬(5:Int)=6 by decide),if_neg (show¬(5:Int)=22 by decide),zxq (.inl rfl)];simp[goes,pd]
def si(op:Int):Prop:=op=21\/op=37\/op=53
def takeN(op:Int)(a k:Nat):Bool:=if op=21 then decide (a=k) else if op=37 then decide (k<a) else decide (k<=a)
def K2{d:Da}{c:List af}{op:Int}{k t f:Nat}(b:si op)(e:1<=t/\t<=c.length)(g:1<=f/\f<=c.length)(s:St) :
  (run d (f_ c op k t f) s).1=(run d (pd c (if takeN op s.a k then t else f)) s).1:=by
 have h:=BA c t;have m:=BA (bT c t) f;have n:=K1 e;have i:1<=f/\f<=(bT c t).length:=⟨g.1,by have:=h.len;omega⟩;have v:=K1 i;have j:=zvj (d:=d) e s;have l:=zvj (d:=d) i s;rw[h.pd g.2] at l;rw[<-m.pd n.2.1] at j
 have o:bf op=true:=by rcases b with rfl|rfl|rfl<;>decide
 have p:op≠5:=by rcases b with rfl|rfl|rfl<;>decide
 have q:op≠6:=by rcases b with rfl|rfl|rfl<;>decide
 have r:op≠22:=by rcases b with rfl|rfl|rfl<;>decide
 unfold f_;generalize bT (bT c t) f=c2 at *;generalize fY c t=t1 at *;generalize fY (bT c t) f=f1 at *;rw[xY,if_neg q,if_neg r,zxq (.inr (by rcases b with rfl|rfl|rfl<;>simp))]
 have u:cQ s ⟨op,((c2.length-t1:Nat):Int),((c2.length-f1:Nat):Int),k⟩=takeN op s.a k:=by rcases b with rfl|rfl|rfl<;>simp[cQ,takeN]
 simp only[if_true,goes,if_neg p,o,u];cases takeN op s.a k
 ·simp only[aaH,if_false,acO];exact l
 ·simp only[if_true,acO];exact j
def YR{c:List af}{x:af}(h:dB c=true)(b:fg x c.length=true)(e:c.length<4096):dB (x::c)=true:=by
 simp only[dB,aay,decide_eq_true_eq] at h |-;obtain⟨⟨f,d⟩,a⟩:=h;refine⟨⟨by simp only[aav];omega,by simp only[jP,aay];exact⟨b,d⟩⟩,?_⟩
 cases c with
 | nil=>simp[kA] at a
 | cons y c=>simpa[kA,List.getLast?_cons_cons] using a
def zq8{c:List af}{t:Nat}(h:dB c=true)(e:1<=t/\t<=c.length)(a:c.length<4096):dB (bT c t)=true:=by
 unfold bT;split
 ·exact h
 ·refine YR h ?_ a
  have b:rN 5=some (5,[106,97],true,false):=by decide
  have d:bf 5=false:=by decide
  simp[fg,jX,b,nH,d];omega
def Sw{c:List af}{op:Int}{k t f:Nat}(i:si op)(h:dB c=true)(d:1<=t/\t<=c.length)(j:1<=f/\f<=c.length)(s:c.length+3<=4096):dB (f_ c op k t f)=true:=by
 have u:=(BA c t).len;have v:=(BA (bT c t) f).len;have w:=K1 d;have e:1<=f/\f<=(bT c t).length:=⟨j.1,an⟩;have x:=K1 e;have l:=zq8 h d an;have m:=zq8 l e an;unfold f_;generalize bT (bT c t) f=c2 at *;generalize fY c t=t1 at *;generalize fY (bT c t) f=f1 at *;refine YR m ?_ an
 have a:∀ op:Int,si op->(rN op).map (fun r=>(r.2.2.1,r.2.2.2))=some (true,true)/\bf op=true/\op≠5/\∀ k,nH ⟨op,((c2.length-t1:Nat):Int),((c2.length-f1:Nat):Int),k⟩=true:=by rintro op (rfl|rfl|rfl)<;>exact⟨by decide,by decide,by decide,fun k=>by simp[nH]⟩
 obtain⟨g,n,o,p⟩:=a op i;rw[aa4] at g;obtain⟨r,q,b⟩:=g;simp only[acX.injEq] at b;simp only[fg,jX,q,b.1,b.2,p,o,n,if_true,if_false,Bool.true_or,abz,acD,aay,decide_eq_true_eq];omega
def Iw(op:Int)(k:Nat):Prop:=op=84\/op=6\/op=32/\k%4=0/\k<64
def ztd{op:Int}{k:Nat}(d:Iw op k):jX ⟨op,0,0,k⟩=true/\nH ⟨op,0,0,k⟩=true/\bf op=false/\op≠5:=by
 rcases d with rfl|rfl|⟨rfl,e,f⟩
 ·refine⟨?_,by simp[nH],by decide,by decide⟩
  have b:(rN 84).map (fun r=>(r.2.2.1,r.2.2.2))=some (true,false):=by decide
  rw[aa4] at b;obtain⟨r,c,a⟩:=b;simp only[acX.injEq] at a;simp[jX,c,a.1,a.2]
 ·refine⟨?_,by simp[nH],by decide,by decide⟩
  have b:(rN 6).map (fun r=>(r.2.2.1,r.2.2.2))=some (true,false):=by decide
  rw[aa4] at b;obtain⟨r,c,a⟩:=b;simp only[acX.injEq] at a;simp[jX,c,a.1,a.2]
 ·refine⟨?_,by simp[nH,e,f],by decide,by decide⟩
  have b:(rN 32).map (fun r=>(r.2.2.1,r.2.2.2))=some (true,false):=by decide
  rw[aa4] at b;obtain⟨r,c,a⟩:=b;simp only[acX.injEq] at a;simp[jX,c,a.1,a.2]
def Ox{c:List af}{op:Int}{k:Nat}(a:Iw op k)(h:dB c=true)(b:c.length<4096):dB (bt c op k)=true:=by refine YR h ?_ b;obtain⟨d,e,f,g⟩:=ztd a;simp[fg,d,e,f,g]
def zxr(d:Da)(c:List af)(k:Nat)(s:St):(run d (bt c 84 k) s).1=(run d c { s with a:=s.a &&& k }).1:=by
 have b:bw (84:Int)=(84,false,true):=by decide
 have e:bf 84=false:=by decide
 have f:eM s ⟨84,0,0,k⟩ d=({ s with a:=s.a &&& k },true):=by simp[eM,b,ny,kW,dm]
 rw[bt,xY,if_neg (show¬(84:Int)=6 by decide),if_neg (show¬(84:Int)=22 by decide),f];simp[goes,e]
def Sx(d:Da)(c:List af)(k:Nat)(s:St):(run d (bt c 32 k) s).1=(run d c { s with a:=(ui d k).1 }).1:=by
 have b:bw (32:Int)=(0,false,false):=by decide
 have e:bf 32=false:=by decide
 have f:eM s ⟨32,0,0,k⟩ d=({ s with a:=(ui d k).1 },true):=by simp[eM,b,kC]
 rw[bt,xY,if_neg (show¬(32:Int)=6 by decide),if_neg (show¬(32:Int)=22 by decide),f];simp[goes,e]
def zFt(d:Da)(c:List af)(k:Nat)(s:St):(run d (bt c 6 k) s).1=k:=by rw[bt,xY,if_pos rfl]
def qj(d:Da)(c:List af)(l v:Nat):Prop:=∀ s:St,s.ok->(run d (pd c l) s).1=v
def qj.grown{d:Da}{a b:List af}{n l v:Nat}(h:qj d a l v)(g:nN a b n)(c:l<=a.length):qj d b l v:=fun s e=>by rw[g.pd c];exact h s e
def Gd(d:Da)(c:List af)(l a v:Nat):Prop:=∀ s:St,s.ok->s.a=a->(run d (pd c l) s).1=v
def Gd.grown{d:Da}{a b:List af}{n l w v:Nat}(h:Gd d a l w v)(g:nN a b n)(c:l<=a.length):Gd d b l w v:=fun s e f=>by rw[g.pd c];exact h s e f
def qj.dep{d:Da}{c:List af}{l v:Nat}(h:qj d c l v)(w:Nat):Gd d c l w v:=fun s a _=>h s a
def St.Ea{s:St}(h:s.ok){a:Nat}(b:a<4294967296):({ s with a:=a }:St).ok:=⟨b,h.2⟩
def yx(n:Int):Int:=if n=0 then 1 else if n=1 then 0 else if n=2 then 5 else if n=3 then 4 else if n=4 then 3 else 2
def ka(n:Int):Int:=if n=4 then 37 else if n=5 then 53 else 21
def bV(c:List af)(x:Cd)(t f:Nat):List af:=bt (bt (f_ c (ka x.cmp) (lo x.val) t f) 84 (lo x.mask)) 32 (16+8*x.arg.toNat)
def rz(c:List af)(x:Cd)(t f:Nat):List af:=if ka x.cmp=21 then bV c x t f else f_ (bV c x t f) 37 (hi x.val) t f
def Eb(c:List af)(x:Cd)(t f:Nat):List af :=
 bt (bt (f_ (rz c x t f) 21 (hi x.val) (bV c x t f).length (if ka x.cmp=21 then f else(rz c x t f).length)) 84 (hi x.mask)) 32 (20+8*x.arg.toNat)
def Ec(x:Cd):Bool:=decide (x.cmp=1\/x.cmp=2\/x.cmp=3)
def fh(c:List af)(x:Cd)(t f:Nat):List af:=if Ec x then Eb c { x with cmp:=yx x.cmp } f t else Eb c x t f
def YT(n:Int):si (ka n):=by
 unfold ka si;split
 ·exact .inr (.inl rfl)
 ·split
  ·exact .inr (.inr rfl)
  ·exact .inl rfl
def Oy(c:List af)(x:Cd)(t f:Nat):nN c (bV c x t f) 5:=((D_ c _ _ t f).trans (Ov _ _ _)).trans (Ov _ _ _)
def Oz(c:List af)(x:Cd)(t f:Nat):nN (bV c x t f) (rz c x t f) 3:=by
 unfold rz;split
 ·exact(nN.refl _).mono an
 ·exact D_ _ _ _ _ _
def zwD(c:List af)(x:Cd)(t f:Nat):nN c (Eb c x t f) 13 :=
 (((Oy c x t f).trans (Oz c x t f)).trans (D_ _ _ _ _ _)).trans ((Ov _ _ _).trans (Ov _ _ _)) |>.mono an
def zra(c:List af)(x:Cd)(t f:Nat):nN c (fh c x t f) 13:=by
 unfold fh
 split<;>exact zwD _ _ _ _
def Sy{x:Cd}(h:x.right=true)(b:Nat)(a:b=16\/b=20):Iw 32 (b+8*x.arg.toNat):=by
 simp only[Cd.right,decide_eq_true_eq] at h
 refine .inr (.inr ⟨rfl,?_,?_⟩)<;>omega
def zpq{c:List af}{x:Cd}{t f:Nat}(h:dB c=true)(a:x.right=true)(d:1<=t/\t<=c.length)(e:1<=f/\f<=c.length)(j:c.length+13<=4096):dB (Eb c x t f)=true:=by
 have k:=(Oy c x t f).len;have l:=(Oz c x t f).len;have m:=(D_ c (ka x.cmp) (lo x.val) t f).len
 have b:dB (bV c x t f)=true:=by refine Ox (Sy a 16 (.inl rfl)) (Ox (.inl rfl) (Sw (YT _) h d e an) an) ?_;simp only[bt,aav];omega
 have p1:1<=(bV c x t f).length:=an
 have g:dB (rz c x t f)=true:=by
  unfold rz;split
  ·exact b
  ·exact Sw (.inr (.inl rfl)) b an an an
 have i:1<=(if ka x.cmp=21 then f else(rz c x t f).length)/\(if ka x.cmp=21 then f else(rz c x t f).length)<=(rz c x t f).length:=by split<;>omega
 have n:=(D_ (rz c x t f) 21 (hi x.val) (bV c x t f).length (if ka x.cmp=21 then f else(rz c x t f).length)).len;refine Ox (Sy a 20 (.inr rfl)) (Ox (.inl rfl) (Sw (.inl rfl) g an i an) an) ?_;simp only[bt,aav];omega
def OA{x:Cd}(h:x.right=true):({ x with cmp:=yx x.cmp }:Cd).right=true:=by
 simp only[Cd.right,decide_eq_true_eq] at h |-;refine⟨h.1,h.2.1,?_⟩;simp only[yx]
 repeat' split
 all_goals omega
def zyS{c:List af}{x:Cd}{t f:Nat}(h:dB c=true)(a:x.right=true)(b:1<=t/\t<=c.length)(d:1<=f/\f<=c.length)(e:c.length+13<=4096):dB (fh c x t f)=true:=by
 unfold fh;split
 ·exact zpq h (OA a) d b e
 ·exact zpq h a b d e
def zCP{d:Da}{i:Nat}(hd:d.ok)(h:i<=5):(ui d (16+8*i)).1=lo (d.args.getD i 0)/\(ui d (20+8*i)).1=hi (d.args.getD i 0):=by
 obtain⟨_,_,_,a,_⟩:=hd
 match b:d.args,a with
 | [c,e,f,g,j,k],_ =>
  have:i=0\/i=1\/i=2\/i=3\/i=4\/i=5:=an
  rcases this with rfl|rfl|rfl|rfl|rfl|rfl<;>simp[ui,j_,b]
def zG3(a b:Nat):lo a &&& lo b=(a &&& b)%4294967296:=by unfold lo;have h:=Nat.and_mod_two_pow (a:=a) (b:=b) (n:=32);simpa using h.symm
def zG4{a b:Nat}(e:a<18446744073709551616)(f:b<18446744073709551616):hi a &&& hi b=(a &&& b)/4294967296:=by have h:=Nat.and_div_two_pow (a:=a) (b:=b) (n:=32);have c:hi a=a/4294967296:=aaI an;have d:hi b=b/4294967296:=aaI an;rw[c,d];simpa using h.symm
def zAH{op:Int}{v k:Nat}(c:k<18446744073709551616) :
  (op=21->decide (v=k)=(decide (v/4294967296=hi k)&&decide (v%4294967296=lo k))) /\
  (op=37->decide (k<v)=(if v/4294967296=hi k then decide (lo k<v%4294967296) else decide (hi k<v/4294967296))) /\
  (op=53->decide (k<=v)=(if v/4294967296=hi k then decide (lo k<=v%4294967296) else decide (hi k<v/4294967296))):=by
 have a:hi k=k/4294967296:=aaI an;have b:lo k=k%4294967296:=rfl;rw[b,a];refine⟨fun _=>?_,fun _=>?_,fun _=>?_⟩
 ·rw[aaA];simp only[aay,decide_eq_true_eq];omega
 ·split<;>rw[aaA]<;>simp only[decide_eq_true_eq]<;>omega
 ·split<;>rw[aaA]<;>simp only[decide_eq_true_eq]<;>omega
def zrb{d:Da}{c:List af}{x:Cd}{t f:Nat}(hd:d.ok)(u:x.right=true)(w:x.ok)(y:ka x.cmp=21->x.cmp=0)(z:1<=t/\t<=c.length)(k:1<=f/\f<=c.length)
  (s:St) (l:s.ok):∃ s':St,s'.ok/\(run d (Eb c x t f) s).1=(run d (pd c (if x.holds d then t else f)) s').1:=by
 have m:=u;simp only[Cd.right,decide_eq_true_eq] at u;obtain⟨G,H⟩:=zCP (i:=x.arg.toNat) hd an
 have A:d.args.getD x.arg.toNat 0<18446744073709551616:=by obtain⟨_,_,_,Q,I⟩:=hd;rw[abm,aad an];exact I _ (aam _)
 have B:=zG3 (d.args.getD x.arg.toNat 0) x.mask;have C:=zG4 A w.1;have R:mc d x<18446744073709551616:=aaw acp A;rw[show d.args.getD x.arg.toNat 0 &&& x.mask=mc d x from rfl] at B C;have j:=(Oy c x t f);have n:=(Oz c x t f);have p1:=j.len;have p2:=n.len
 have q1:1<=(bV c x t f).length:=an
 have o:∀ s:St,s.ok->∃ s':St,s'.ok/\(run d (bV c x t f) s).1=(run d (pd c (if takeN (ka x.cmp) (mc d x%4294967296) (lo x.val) then t else f)) s').1:=by intro s l;have S:=Oj (d.args.getD x.arg.toNat 0);have J:mc d x%4294967296<4294967296:=aa6 _ (by decide);rw[bV,Sx,zxr,G];simp only[B];rw[K2 (YT _) z k];simp only;have h:=St.Ea l J;exact⟨_,h,rfl⟩
 have K:mc d x/4294967296<4294967296:=an
 have h:=St.Ea l K
 have L:1<=(if ka x.cmp=21 then f else(rz c x t f).length)/\(if ka x.cmp=21 then f else(rz c x t f).length)<=(rz c x t f).length:=by split<;>omega
 rw[Eb,Sx,zxr,H];simp only[C];rw[K2 (.inl rfl) an L];simp only[takeN,if_true];obtain⟨D,E,F⟩:=zAH (op:=ka x.cmp) (v:=mc d x) w.2
 by_cases a:mc d x/4294967296=hi x.val
 ·obtain⟨M,p,N⟩:=o _ h;rw[if_pos (by simpa using a),n.pd (abi _),zu,N];refine⟨M,p,?_⟩
  suffices O:takeN (ka x.cmp) (mc d x%4294967296) (lo x.val)=x.holds d by rw[O]
  simp only[Cd.holds,m,abz,takeN]
  by_cases g:x.cmp=4
  ·have e:ka x.cmp=37:=by rw[g];rfl
   have:=E e;rw[if_pos a] at this;simp only[g,jZ];rw[this];simp[ka]
  ·by_cases b:x.cmp=5
   ·have e:ka x.cmp=53:=by rw[b];rfl
    have:=F e;rw[if_pos a] at this;simp only[b,jZ];rw[this];simp[ka]
   ·have e:ka x.cmp=21:=by simp[ka,g,b]
    have q:=y e;have:=D e;simp only[q,jZ];rw[this];simp[a,ka]
 ·rw[if_neg (by simpa using a)]
  by_cases e:ka x.cmp=21
  ·have q:=y e;have:=D e
   have r:x.holds d=false:=by simp only[Cd.holds,m,abz,q,jZ,if_true];rw[this];simp[a]
   rw[if_pos e,r,n.pd an,j.pd k.2];exact⟨_,h,rfl⟩
  ·have P:rz c x t f=f_ (bV c x t f) 37 (hi x.val) t f:=by rw[rz,if_neg e]
   rw[if_neg e,zu,P,K2 (.inr (.inl rfl)) an an]
   have r:x.holds d=decide (hi x.val<mc d x/4294967296):=by
    simp only[Cd.holds,m,abz]
    by_cases g:x.cmp=4
    ·have:=E (by rw[g];rfl);rw[if_neg a] at this;simp only[g,jZ];rw[<-this];simp
    ·have b:x.cmp=5:=by apply Classical.byContradiction;intro b;exact e (by simp[ka,g,b])
     have:=F (by rw[b];rfl);rw[if_neg a] at this;simp only[b,jZ];rw[<-this];simp
   rw[r];simp only[takeN,show((37:Int)=21)=False by simp,if_false,if_true];cases decide (hi x.val<mc d x/4294967296)
   ·simp only[aaH,if_false];rw[j.pd k.2];exact⟨_,h,rfl⟩
   ·simp only[if_true];rw[j.pd z.2];exact⟨_,h,rfl⟩
def zAI{d:Da}{c:List af}{x:Cd}{t f:Nat}(hd:d.ok)(b:x.right=true)(i:x.ok)(j:1<=t/\t<=c.length)(k:1<=f/\f<=c.length)
  (s:St) (l:s.ok):∃ s':St,s'.ok/\(run d (fh c x t f) s).1=(run d (pd c (if x.holds d then t else f)) s').1:=by
 have m:=b;simp only[Cd.right,decide_eq_true_eq] at m
 by_cases g:Ec x=true
 ·rw[fh,if_pos g];have e:=g;simp only[Ec,decide_eq_true_eq] at e
  have:=zrb (x:={ x with cmp:=yx x.cmp }) hd (OA b) i (fun h=>by
   rcases e with a|a|a<;>simp only[a,yx,ka] at h |-<;>simp at h |-) k j s l
  have n:({ x with cmp:=yx x.cmp }:Cd).holds d=!x.holds d:=by
   have o:=OA b;simp only[Cd.holds,b,o,abz];have p:mc d { x with cmp:=yx x.cmp }=mc d x:=rfl;rw[p]
   rcases e with a|a|a<;>simp[a,yx,jZ]
   ·rw[aaA];simp
   ·rw[aaA];simp
  rw[n] at this
  cases q:x.holds d<;>rw[q] at this<;>simpa using this
 ·rw[fh,if_neg g];have e:=g;simp only[Ec,decide_eq_true_eq] at e;refine zrb hd b i (fun h=>?_) j k s l
  have:x.cmp=0\/x.cmp=4\/x.cmp=5:=an
  rcases this with a|a|a
  ·exact a
  ·rw[a] at h;simp[ka] at h
  ·rw[a] at h;simp[ka] at h
def zCQ{d:Da}{c:List af}{x:Cd}{t f a b:Nat}(hd:d.ok)(h:x.right=true)(i:x.ok)(j:1<=t/\t<=c.length)(k:1<=f/\f<=c.length)
  (l:qj d c t a) (m:qj d c f b):qj d (fh c x t f) (fh c x t f).length (if x.holds d then a else b):=by
 intro s n;rw[zu];obtain⟨s',g,e⟩:=zAI (f:=f) hd h i j k s n;rw[e];cases x.holds d
 ·exact m _ g
 ·exact l _ g
def im.self{H:ae}(h:im H):aj H.length H=H:=by have:=MR h [] 0;simpa using this
def im.back{H:ae}(h:im H)(r:ae):aj H.length (H++r)=H:=by have:=MR h r 0;simpa using this
def im.app{H:ae}(h:im H){r:ae}(a:∀ n,r.map (abG (aw.cl n))=r):im (H++r):=by intro m b;rw[ack,a,h m (by rw[aaW] at b;omega)]
def im.nil:im []:=fun _ _=>rfl
structure Nd where
 kind:Nat
 f:List Nat
 n:Nat
 vars:List Nat
 tab:List Nat
 op:Int
 x:Nat
 y:Nat
 deriving DecidableEq
def Nd.cs(a:Nd):List V:=.int .i64 (a.kind:Int)::(au .u32 a.f++.int .i64 (a.n:Int)::(au .i64 a.vars++(au .u32 a.tab++[.int .i64 a.op,.int .i64 (a.x:Int),.int .i64 (a.y:Int)])))
def sj:Nd:=⟨0,aP 35,0,aP 4,aP 16,0,0,0⟩
def nz:(V.int .i64 0::(au .u32 (aP 35)++V.int .i64 0::V.int .i64 0::V.int .i64 0::V.int .i64 0::V.int .i64 0::(au .u32 (aP 16)++[V.int .i64 0,V.int .i64 0,V.int .i64 0])))=sj.cs:=rfl
def Nd.ok(a:Nd):Prop:=a.f.length=35/\a.vars.length=4/\a.tab.length=16
def Nd.len{a:Nd}(h:a.ok):a.cs.length=60:=by simp[Nd.cs,h.1,h.2.1,h.2.2]
def eZ(f:List Nat):Nd:={ sj with f:=f }
def zCR(f:List Nat)(a:f.length=35)(e:Env)(t:Nat)(b:e t=.agg (au .u32 f)):oh e sj.cs [(0,1,.c (.int .i64 0)),(1,35,.t t)]=some (eZ f).cs:=by
 have d:(au .u32 f).length=35:=by simp[a]
 have hd:∀ r:List V,(au .u32 (aP 35)++r).drop 35=r:=fun r=>by rw[List.drop_left' ir]
 simp[oh,b,sj,Nd.cs,d,hd,eZ]
def YV[ar G](c:Nat):FP G 243 [.int .u32 c] (.agg (au .u32 (c::aP 34))):=by refine bD ar.adV (aab rfl) ?_;have a:au .u32 (aP 35)=.int .u32 0::au .u32 (aP 34):=rfl;have b:au .u32 (c::aP 34)=.int .u32 (c:Int)::au .u32 (aP 34):=rfl;simp[a,b]
def cG(i:Nat):List Nat:=(aP 35).set (i+1) 1
def YW[ar G](i:Nat)(hi:i<34):FP G 244 [.int .i64 i] (.a_ [.agg (au .u32 (cG i)),.int .i64 0]):=by
 refine bD ar.adW (aab rfl) ?_;have c:au .u32 (aP 35)=.int .u32 0::au .u32 (aP 34):=rfl;have d:=xO .u32 (aP 34) i 1 (by simp;omega)
 have e:au .u32 (cG i)=.int .u32 0::au .u32 ((aP 34).set i 1):=by rw[cG,show aP 35=0::aP 34 from rfl,List.set_cons_succ];rfl
 have b:∀(a:V) (l:List V),(a::l).take (1+i)=a::l.take i:=fun a l=>by rw[abD];rfl
 have h:(1:Int)=((1:Nat):Int):=rfl
 have hd:(au .u32 (aP 34)).take i++V.int .u32 1::(au .u32 (aP 34)).drop (1+i)=au .u32 ((aP 34).set i 1):=by rw[abD];exact d
 have f:((aP 34).set i 1).length=34:=by simp
 have g:=fe (k:=.u32) f;simp(disch:=omega)[bM,kQ,FZ,aC,c,e,hd,b,g]
def zAJ[ar G](i:Int)(hi:i<0\/34<=i):FP G 244 [.int .i64 i] (.a_ [.agg (au .u32 (aP 35)),.int .i64 1]):=by
 refine bD ar.adW (aab rfl) ?_
 by_cases h:i<0
 ·simp[h]
 ·have a:(34<=i)=True:=eq_true an;have b:(i<0)=False:=eq_false h;simp[b,a]
def Gf:∀{k1 k2:List Kd} {a b c d:List V} {x y:Bool},cC k1 a b=some x->cC k2 c d=some y->cC (k1++k2) (a++c) (b++d)=some (x&&y)
 | [],k2,[],[],c,d,x,y,e,f=>by simp only[cC,aaS.injEq] at e;subst e;simpa using f
 | [],_,[],_::_,_,_,_,_,h,_=>by simp[cC] at h
 | [],_,_::_,_,_,_,_,_,h,_=>by simp[cC] at h
 | _::_,_,[],_,_,_,_,_,h,_=>by simp[cC] at h
 | _::_,_,_::_,[],_,_,_,_,h,_=>by simp[cC] at h
 | k::k1,k2,a::as,b::j,c,d,x,y,e,f=>by
  simp only[cC] at e;split at e
  case h_2=>cases e
  rename_i u v g i;simp only[aaS.injEq] at e;subst e;simp only[ace,cC,g,Gf i f,Bool.and_assoc]
def Ix(k:IntKind):∀{n:Nat} {a b:List Nat},a.length=n->b.length=n->cC (aaD n .int) (au k a) (au k b)=some (decide (a=b))
 | 0,[],[],_,_=>rfl
 | 0,_::_,_,h,_=>by simp at h
 | 0,[],_::_,_,h=>by simp at h
 | n+1,[],_,h,_=>by simp at h
 | n+1,_::_,[],_,h=>by simp at h
 | n+1,x::a,y::b,c,d=>by
  have e:=Ix k (n:=n) (a:=a) (b:=b) (by simpa using c) (by simpa using d);rw[ab4];show cC (.int::aaD n .int) (.int k (x:Int)::au k a) (.int k (y:Int)::au k b)=_;simp only[cC,qx,if_true,e,aaS.injEq];rw[aaA];simp
def OB(k:IntKind)(x y:Int):cC [.int] [.int k x] [.int k y]=some (decide (x=y)):=by
 simp only[cC,qx,if_true,acD]
 congr 1
def YX{a b:Nd}(d:a.ok)(e:b.ok):cC (aaD 60 .int) a.cs b.cs=some (decide (a=b)):=by
 have h:=Gf (OB .i64 a.kind b.kind) (Gf (Ix .u32 d.1 e.1) (Gf (OB .i64 a.n b.n) (Gf (Ix .i64 d.2.1 e.2.1) (Gf (Ix .u32 d.2.2 e.2.2)
  (Gf (OB .i64 a.op b.op) (Gf (OB .i64 a.x b.x) (OB .i64 a.y b.y)))))))
 have i:aaD 60 Kd.int=[Kd.int]++(aaD 35 .int++([.int]++(aaD 4 .int++(aaD 16 .int++([.int]++([.int]++[.int])))))):=rfl;rw[i]
 have g:∀ c:Nd,c.cs=[.int .i64 (c.kind:Int)]++(au .u32 c.f++([.int .i64 (c.n:Int)]++(au .i64 c.vars++(au .u32 c.tab++([.int .i64 c.op]++([.int .i64 (c.x:Int)]++[.int .i64 (c.y:Int)])))))):=fun c=>by simp[Nd.cs]
 rw[g a,g b,h]
 congr 1
 rw[aaA];cases a;cases b;simp
def yy(i:Nat):List Nd->List (V×V)
 | []=>[]
 | a::L=>(.agg a.cs,.int .i64 (i:Int))::yy (i+1) L
def ents(L:List Nd):List (V×V):=yy 0 L
def zte(a:Nd):∀(L:List Nd) (i:Nat),yy i (L++[a])=yy i L++[(.agg a.cs,.int .i64 ((i+L.length:Nat):Int))]
 | [],i=>by simp[yy]
 | b::L,i=>by
  have:=zte a L (i+1);simp only[ace,yy,this,aav];rw[show i+1+L.length=i+(L.length+1) by omega]
def zvk{a:Nd}(c:a.ok):∀{L:List Nd} (i:Nat),(∀ x∈L,x.ok)->a∈L->j6 (.row (aaD 60 .int)) (.agg a.cs) (yy i L) i=some (some (i+L.idxOf a,.int .i64 ((i+L.idxOf a:Nat):Int)))
 | [],i,_,h=>by cases h
 | b::L,i,d,h=>by
  simp only[yy,j6,j7,YX c (d b ir)]
  by_cases e:a=b
  ·subst e;simp
  ·have f:a∈L:=by simpa[e] using h
   have g:=zvk c (i+1) (fun x j=>d x (by simp[j])) f
   have k:(b::L).idxOf a=L.idxOf a+1:=by rw[List.idxOf_cons,beq_false_of_ne (Ne.symm e)];rfl
   simp only[e,decide_false,g,k,show i+1+L.idxOf a=i+(L.idxOf a+1) from an]
def ztf{a:Nd}(c:a.ok):∀{L:List Nd} (i:Nat),(∀ x∈L,x.ok)->a∉L->j6 (.row (aaD 60 .int)) (.agg a.cs) (yy i L) i=some none
 | [],i,_,_=>rfl
 | b::L,i,d,h=>by
  simp only[aah,not_or] at h;simp only[yy,j6,j7,YX c (d b ir),h.1,decide_false];exact ztf c (i+1) (fun x e=>d x (by simp[e])) h.2
def sm(L:List Nd):List (List V):=L.map Nd.cs
def yT(L:List Nd)(z m:Nat):aw:=.cells [.vs (sm L) (.own z),.mp m]
structure Bk (H:ae) (b z m:Nat) (L:List Nd):Prop where
 hb:H[b]?=some (some (yT L z m))
 hz:H[z]?=some (some (.zone L.length))
 hm:H[m]?=some (some (.map (ents L)))
 shut:im H
 ok:∀ a∈L,a.ok
 small:L.length<=1000000
def dC(H:ae)(b z m:Nat)(L:List Nd):ae:=((H.set b (some (yT L z m))).set z (some (.zone L.length))).set m (some (.map (ents L)))
def r6(H:ae)(b z m:Nat)(L:List Nd):(dC H b z m L).length=H.length:=by simp[dC]
section
variable {H:ae} {b z m:Nat} {L L':List Nd}
def Bk.bz(h:Bk H b z m L):b≠z:=fun e=>by have a:=h.hb;rw[e,h.hz] at a;simp[yT] at a
def Bk.bm(h:Bk H b z m L):b≠m:=fun e=>by have a:=h.hb;rw[e,h.hm] at a;simp[yT] at a
def Bk.zm(h:Bk H b z m L):z≠m:=fun e=>by have a:=h.hz;rw[e,h.hm] at a;simp at a
def Bk.lb(h:Bk H b z m L):b<H.length:=(aaz.1 h.hb).1
def Bk.lz(h:Bk H b z m L):z<H.length:=(aaz.1 h.hz).1
def Bk.lm(h:Bk H b z m L):m<H.length:=(aaz.1 h.hm).1
def Dm{α:Type}{l:List α}{i:Nat}{a:α}(h:l[i]?=some a):l.set i a=l:=by
 apply abK;intro j;rw[aa8]
 by_cases e:i=j
 ·subst e;rw[if_pos rfl,if_pos (aaz.1 h).1,h]
 ·rw[if_neg e]
def Bk.fW(h:Bk H b z m L):dC H b z m L=H:=by unfold dC;rw[Dm h.hb,Dm h.hz,Dm h.hm]
def VD(n:Nat):∀(L:List Nd) (i:Nat),(yy i L).map (fun p=>(p.1.cl n,p.2.cl n))=yy i L
 | [],i=>rfl
 | a::L,i=>by
  have b:=VD n L (i+1)
  have c:aX n a.cs=a.cs:=by rw[ia];simp[Nd.cs,au,aca,V.cl]
  simp only[yy,abx,V.cl,c,b]
def Ed{α β:Type}(f:α->β):∀(l:List α) (i:Nat) (a:α),(l.set i a).map f=(l.map f).set i (f a):=fun l i a=>List.map_set
def Bk.vG(h:Bk H b z m L)(L':List Nd):im (dC H b z m L'):=by
 intro n a;rw[r6] at a;have c:=h.shut n a;have g:=h.lz;have i:=h.lm;unfold dC;rw[Ed,Ed,Ed,c]
 have d:abG (aw.cl n) (some (yT L' z m))=some (yT L' z m):=by simp[yT,aw.cl,aX,V.cl,Tk.cl,show z<n from an,show m<n from an]
 have e:abG (aw.cl n) (some (aw.zone L'.length))=some (.zone L'.length):=rfl
 have f:abG (aw.cl n) (some (aw.map (ents L')))=some (.map (ents L')):=by simp only[abc,aw.cl,ents,VD]
 rw[d,e,f]
def Bk.Iy(h:Bk H b z m L)(c:∀ a∈L',a.ok)(d:L'.length<=1000000):Bk (dC H b z m L') b z m L':=by
 have e:=h.bz;have f:=h.bm;have g:=h.zm;refine⟨?_,?_,?_,h.vG L',c,d⟩
 ·unfold dC;rw[aa0 f.symm,aa0 e.symm,abO h.lb]
 ·unfold dC;rw[aa0 g.symm,abO (by simp[h.lz])]
 ·unfold dC;rw[abO (by simp[h.lm])]
def Bk.app(h:Bk H b z m L){r:ae}(a:∀ n,r.map (abG (aw.cl n))=r):Bk (H++r) b z m L :=
 ⟨by rw[aax h.lb];exact h.hb,by rw[aax h.lz];exact h.hz,by rw[aax h.lm];exact h.hm,h.shut.app a,h.ok,h.small⟩
def Bk.cf(h:Bk H b z m L)(r:ae)(L':List Nd):dC (H++r) b z m L'=dC H b z m L'++r:=by unfold dC;rw[aa2 _ _ h.lb,aa2 _ _ (by simp[h.lz]),aa2 _ _ (by simp[h.lm])]
def Bk.mb(h:Bk H b z m L)(c a:List Nd):dC (dC H b z m c) b z m a=dC H b z m a:=by
 have d:=h.bz;have e:=h.bm;have f:=h.zm;apply abK;intro i;unfold dC;simp only[aa8,ab1]
 repeat' split
 all_goals first|rfl|omega
end
def iS(L:List Nd)(a:Nd):List Nd:=if a∈L then L else L++[a]
def ztg{L:List Nd}{a:Nd}(h:a∉L):L.idxOf a=L.length:=List.idxOf_eq_length h
open Go Go.RowKit
variable {G:aM}
variable {H:ae} {b z m:Nat} {L:List Nd}
def QX(a:List jw)(R:V->ae->Prop)(x:Ex)(b:Env)(H1:ae):Prop:=(x=.nx\/x=.ret)/\∃ vs,vm b H1 a=some vs/\R (vn vs) H1
@[simp] theorem ak1 (a:List jw) (R:V->ae->Prop) (b:Env) (H1:ae):QX a R .nx b H1=∃ vs,vm b H1 a=some vs/\R (vn vs) H1:=by simp[QX]
@[simp] theorem YY (a:List jw) (R:V->ae->Prop) (b:Env) (H1:ae):QX a R .ret b H1=∃ vs,vm b H1 a=some vs/\R (vn vs) H1:=by simp[QX]
def SF(G:aM)(f:Nat)(args:List V)(H:ae)(r:V)(H':ae):Prop:=∃ a H1,bA G (.F f args H a H1)/\a.cl H.length=r/\aj H.length H1=H'
def ke{f b:Nat}{body:bc}{a:List jw}{args:List V}{r:V}{H H':ae}(d:G f=some ⟨b,body,a⟩)(e:args.length<=b)
  (h:W G body [] (ib (p_ 0 args)) H (QX a fun g H1=>g.cl H.length=r/\aj H.length H1=H')):SF G f args H r H':=by
 obtain⟨x,m,H1,c,i,vs,j,k,l⟩:=h;rw[<-MP] at c;exact⟨_,_,.fn d e c i j,k,l⟩
def cL{f:Nat}{args:List V}{r:V}{H H':ae}{base:Nat}{d:Option Nat}{os:List aD}{K:List Kt}{e:Env}{Q:Ex->Env->ae->Prop}(h:SF G f args H r H')
  (a:WO G base os K (e.put d r) H' Q):Rh G f args base d os K e H Q:=by
 obtain⟨i,H1,b,c,g⟩:=h;refine yY b ?_;rw[c,g];exact a
def zAK{f:Nat}{args:List V}{r:V}{H H':ae}{base:Nat}{d:Option Nat}{os:List aD}{K:List Kt}{e:Env}{Q:Ex->Env->ae->Prop}(h:SF G f args H r H')(b:M6 base args H H')
  (c:WO G base os K (e.put d r) H' Q):zEh G f args base d os K e H Q:=by
 obtain⟨g,H1,i,j,a⟩:=h;exact⟨g,H1,i,by rw[a];exact b,by rw[j,a];exact c⟩
def Bk.back(h:Bk H b z m L)(L':List Nd)(r:ae):aj H.length (dC H b z m L'++r)=dC H b z m L':=by have:=(h.vG L').back r;rwa[r6] at this
@[simp] theorem zLQ (L:List Nd):(sm L).length=L.length:=by simp[sm]
theorem YZ{x:Nat}{a:Nd}(h:L[x]?=some a):(sm L)[x]?=some a.cs:=by simp[sm,h]
def zCS(L:List Nd)(a:Nd):sm L++[a.cs]=sm (L++[a]):=by simp[sm]
def zAL(h:∀ a∈L,a.ok):(∀ f∈sm L,f.length=60):=by intro f b;simp only[sm,abS] at b;obtain⟨a,c,rfl⟩:=b;exact Nd.len (h a c)
def Bk.cS(h:Bk H b z m L):H[b]?=some (some (.cells [.vs (sm L) (.own z),.mp m])):=h.hb
def zG5[aK G](h:Bk H b z m L):bA G (.F 257 [.ptr b 0] H (.int .i64 L.length) H):=by refine ee aK.ad7 (aab rfl) ?_;have a:=h.cS;simp[a]
def cA(L:List Nd)(i:Int):Bool:=decide (0<=i/\i<(L.length:Int))
def zG6[aK G](i:Int)(h:Bk H b z m L):bA G (.F 258 [.ptr b 0,.int .i64 i] H (.bool (cA L i)) H):=by
 refine ee aK.ad8 (aab rfl) ?_;have c:=h.shut.self
 by_cases a:0<=i
 ·simp[a];refine yY (zG5 h) ?_;simp[c,cA,a]
 ·simp[a,cA]
def zCT[aK G](x:Nat)(a:Nd)(h:Bk H b z m L)(e:L[x]?=some a):bA G (.F 264 [.ptr b 0,.int .i64 x] H (.a_ [.agg (au .u32 a.f),.bool (decide (a.kind=0))]) (H++[some (.cells (au .u32 a.f))])):=by
 refine ee aK.aee (aab rfl) ?_;have i:=h.lb;have j:=h.cS
 have l:∀ r:ae,(H++r)[b]?=some (some (.cells [.vs (sm L) (.own z),.mp m])):=fun r=>by rw[aax i];exact j
 have n:=YZ e;have c:=h.ok a (ab0 e);have o:=Nd.len c;have p:a.cs.take 1=[.int .i64 (a.kind:Int)]:=rfl
 have d:(a.cs.drop 1).take 35=au .u32 a.f:=by show(au .u32 a.f++_).take 35=_;rw[List.take_left' (by simp[c.1])]
 have q:a.cs.tail.take 35=au .u32 a.f:=by rw[<-List.drop_one];exact d
 have hd:(au .u32 (aP 35)).drop 35=[]:=rfl
 have s:b≠H.length:=an
 have u:(H.length=b)=False:=eq_false an;have g:=c.1
 have t:((a.kind:Int)==0)=decide (a.kind=0):=by rw[aaA];simp
 simp[l,n,o,p,q,hd,s,g,fe (k:=.u32) g,t]
def K3[aK G](a:Nd)(c:a.ok)(h:Bk H b z m L)(hs:L.length<1000000):SF G 259 [.ptr b 0,.agg a.cs] H (.int .i64 (L.idxOf a:Nat)) (dC H b z m (iS L a)):=by
 have F:=h.lb;have I:=h.lz;have A:=h.lm;have B:=h.cS;have l:=h.bz;have n:=h.bm;have o:=h.zm;have p:=Nd.len c;have q:a.cs.take 60=a.cs:=aa5 an;have s:=YX c c;simp only[decide_true] at s;have C:(H.length+1<=b)=False:=eq_false an;have t:(H.length+1<=H.length)=False:=eq_false an;have J:(H.length=b)=False:=eq_false an;have M:(H.length=m)=False:=eq_false an
 have N:(H.length=z)=False:=eq_false an
 have D:∀ r:ae,(H++r)[b]?=some (some (.cells [.vs (sm L) (.own z),.mp m])):=fun r=>by rw[aax F];exact B
 have d:∀ r:ae,(H++r)[m]?=some (some (.map (ents L))):=fun r=>by rw[aax A];exact h.hm
 have s7:∀ r:ae,(H++r)[z]?=some (some (.zone L.length)):=fun r=>by rw[aax I];exact h.hz
 refine ke aK.ad9 (aab rfl) ?_
 by_cases e:a∈L
 ·have k:=zvk c 0 h.ok e;simp only[ac2] at k;have u:=h.shut.back
  have O:dC H b z m (iS L a)=H:=by rw[iS,if_pos e,h.fW]
  simp[-aa9,D,d,p,q,s,ents,k,C,t,u,O]
 ·have k:=ztf c 0 h.ok e;have P:∀(x:Option aw) (r:ae),(H++r).set m x=H.set m x++r:=fun x r=>aa2 _ _ A;obtain⟨K,g⟩:∃ K,K=H.set m (some (.map (ents (L++[a])))):=⟨_,rfl⟩
  have Q:K.length=H.length:=by rw[g,ab1]
  have R:yy 0 L++[(V.agg a.cs,V.int .i64 (L.length:Int))]=ents (L++[a]):=by rw[ents,zte,ac2]
  have E:∀ r:ae,(K++r)[b]?=some (some (.cells [.vs (sm L) (.own z),.mp m])):=fun r=>by
   rw[aax an,g,aa0 n.symm];exact B
  have S:∀ r:ae,(K++r)[z]?=some (some (.zone L.length)):=fun r=>by
   rw[aax an,g,aa0 o.symm];exact h.hz
  have T:∀(x:Option aw) (r:ae),(K++r).set z x=K.set z x++r:=fun x r=>aa2 _ _ an
  have v:∀(x:Option aw) (r:ae),(K.set z x++r)[b]?=some (some (.cells [.vs (sm L) (.own z),.mp m])):=fun x r=>by
   rw[aax (by simp;omega),aa0 l.symm];have:=E [];simpa using this
  have U:∀(x y:Option aw) (r:ae),(K.set z x++r).set b y=(K.set z x).set b y++r:=fun x y r=>aa2 _ _ (by simp;omega);have j:=ztg e;have W:=zAL h.ok;have X:((L.length+1)*280<=140737488355328)=True:=eq_true an;have Y:(∀ f∈sm L,f.length=60)=True:=eq_true W
  have Z:a.cs.all V.pure=true:=by simp[Nd.cs,au,V.pure]
  have sS:sj.cs.length=60:=rfl;have eE:=zCS L a
  have w:(K.set z (some (.zone (L.length+1)))).set b (some (.cells [.vs (sm (L++[a])) (.own z),.mp m]))=dC H b z m (iS L a):=by
   rw[iS,if_neg e,dC,g,yT,aaW];apply abK;intro i;simp only[aa8,ab1]
   repeat' split
   all_goals first|rfl|omega
  have u:=h.back (iS L a)
  have kh:∀ r:ae,(K++r)[H.length]?=r[0]?:=fun r=>by rw[<-Q,aa7 (abi _),ac1]
  simp[-aa9,D,d,p,q,s,ents,k,C,t];simp[-aa9,P,R,<-g,E,S,p,q,t,X,Y,Z,nz,sS,kh,T,v,U,eE,w,u,j]
def Cd.cs(c:Cd):List V:=[.int .i64 c.arg,.int .i64 c.cmp,.int .u64 (c.mask:Int),.int .u64 (c.val:Int)]
def CL(l:List Cd):List (List V):=l.map Cd.cs
@[simp] theorem zMp (l:List Cd):(CL l).length=l.length:=by simp[CL]
theorem LN{l:List Cd}{i:Nat}{x:Cd}(h:l[i]?=some x):(CL l)[i]?=some x.cs:=by simp[CL,h]
def Ui[cM G](c:Cd):FP G 396 [.agg c.cs] (.bool c.right):=by
 refine bD cM.aeP (aab rfl) ?_
 by_cases a:0<=c.arg
 ·by_cases b:c.arg<6
  ·by_cases d:0<=c.cmp
   ·by_cases f:c.cmp<=5
    ·have e:c.arg<=5:=an
     simp[Cd.cs,Cd.right,a,b,d,f,e]
    ·simp[Cd.cs,Cd.right,a,b,d,f]
   ·simp[Cd.cs,Cd.right,a,b,d]
  ·have e:¬c.arg<=5:=an
   simp[Cd.cs,Cd.right,a,b,e]
 ·simp[Cd.cs,Cd.right,a]
def C_:List V:=[.str [101,113],.fn 397 [],.int .i64 1,.str [110,101],.fn 398 [],.int .i64 0,.str [108,116],.fn 399 [],.int .i64 5,.str [108,101],.fn 400 [],.int .i64 4,.str [103,116],.fn 401 [],.int .i64 3,.str [103,101],.fn 402 [],.int .i64 2]
def Uj[bp G]:FP G 403 [] (.agg C_):=by refine bD bp.aeQ (aab rfl) ?_;simp[C_]
def Ee(c:Cd):Cd:=if c.right then{ c with cmp:=yx c.cmp } else c
def zG7[cM G][bp G](c:Cd):FP G 404 [.agg c.cs] (.agg (Ee c).cs):=by
 refine bD bp.aeR (aab rfl) ?_;have b:=Ui (G:=G) c;simp only[Cd.cs] at b;simp[Cd.cs];refine ax b ?_
 cases h:c.right with
 | false=>simp[Ee,h]
 | true =>
  have d:=h;simp only[Cd.right,decide_eq_true_eq] at d;obtain⟨_,_,e,f⟩:=d;simp;refine ax Uj ?_
  have a:c.cmp=0\/c.cmp=1\/c.cmp=2\/c.cmp=3\/c.cmp=4\/c.cmp=5:=an
  rcases a with a|a|a|a|a|a<;>simp[Ee,h,a,C_,yx]
def kg(d:Nat):UInt8:=UInt8.ofNat (if d<10 then 48+d else 87+d)
def wz(n:Nat):Nat->List UInt8×Bool
 | 0=>([48,120],false)
 | k+1=>if(wz n k).2||decide (0<n/2^(60-4*k)%16)||decide (k=15) then((wz n k).1++[kg (n/2^(60-4*k)%16)],true) else((wz n k).1,false)
def br(n:Nat):List UInt8:=(wz n 16).1
def SA(n:Nat):∀ k,(wz n k).1.length<=2+k
 | 0=>by simp[wz]
 | k+1=>by
  have:=SA n k;unfold wz
  split<;>simp<;>omega
def zG8(d:Nat)(h:d<16):([48,49,50,51,52,53,54,55,56,57,97,98,99,100,101,102]:List UInt8)[d]?=some (kg d):=by
 have:∀ d<16,([48,49,50,51,52,53,54,55,56,57,97,98,99,100,101,102]:List UInt8)[d]?=some (kg d):=by decide
 exact this d h
def shU{n e:Nat}(h:e<=64):jR .u64 (n:Int) (e:Int)=((n/2^e:Nat):Int):=by
 unfold jR
 have:min (e:Int).toNat IntKind.u64.bits=e:=by have:IntKind.u64.bits=64:=rfl;omega
 rw[this,show((2:Int)^e)=((2^e:Nat):Int) by simp,ab9 _ (acJ _)];simp
def zLR{x:Nat}(h:x<18446744073709551616):iZ .u64 (x:Int) 15=((x%16:Nat):Int):=by
 have a:(abb 64 (x:Int) &&& abb 64 15).toNat=x%16:=by rw[show abb 64 (x:Int)=abF 64 x by apply BitVec.eq_of_toNat_eq;simp,show abb 64 15=abF 64 15 from rfl];simp only[BitVec.toNat_and,ab6];rw[show 15%2^64=2^4-1 from rfl,abe,aaI (show x<2^64 from h)]
 have b:iZ .u64 (x:Int) 15=IntKind.u64.wrap (((abb 64 (x:Int) &&& abb 64 15).toNat:Nat):Int):=rfl;rw[b,a];have:x%16<16:=aa6 _ (by decide);rw[IntKind.wrap,show IntKind.u64.signed=false from rfl];simp[IntKind.bits];omega
def zrc:∀ s:List UInt8,Cv (qW s)=some s
 | []=>rfl
 | b::s=>by
  have a:=zrc s;simp only[qW] at a;simp[qW,Cv,a]
def zFu[eB G](n:Nat)(w:n<18446744073709551616):FP G 392 [.int .u64 n] (.str (br n)):=by
 refine bD eB.aeL (aab rfl) ?_;obtain⟨T,i⟩:∃ T:Nat->List UInt8×Bool,∀ k,T k=wz n k:=⟨_,fun _=>rfl⟩
 have x:∀ k,(T k).1.length<=2+k:=fun k=>by rw[i];exact SA n k
 simp;refine aQ 16 (fun k=>[(0,.int .u64 n),(3,.vs (qW (T k).1) (.own 1)),(4,.bool (T k).2),(5,.int .i64 (60-4*(k:Int)))]) (fun k=>[some (.zone 1),some (.zone (T k).1.length)]) (fun _=>True) ?_ ?_
 ·simp[av,aj,i,wz,qW,pE]
 intro k c _
 rcases acK c with c|c
 ·subst c;simp[zrc,i,br]
  done
 ·obtain⟨e,y⟩:∃ e,e=60-4*k:=⟨_,rfl⟩;obtain⟨d,hd⟩:∃ d,d=n/2^e%16:=⟨_,rfl⟩
  have z:(60-4*(k:Int))=(e:Int):=an
  have A:=shU (n:=n) (e:=e) an;have B:n/2^e<18446744073709551616:=aaw (aaE _ _) w;have t:=zLR B
  have C:d<16:=an
  have D:=zG8 d C;rw[<-hd] at t;have N:=x k
  have j:T (k+1)=if(T k).2||decide (0<d)||decide (k=15) then((T k).1++[kg d],true) else((T k).1,false):=by rw[i,i,wz,<-y,<-hd]
  rw[z];simp(disch:=omega)[A,t,kQ,-aaq,-aau,-aae]
  have l:(60:Int)-4*((k+1:Nat):Int)=(e:Int)-4:=an
  have m:c_ .i64 (e:Int) 4=(e:Int)-4:=oW an an
  have a:(qW (T k).1).length=(T k).1.length:=by simp[qW]
  have o:∀ b,(T k).2=b->(b||decide (0<d)||decide (k=15))=true->T (k+1)=((T k).1++[kg d],true):=fun b g E=>by rw[j,if_pos (by rw[g];exact E)]
  have F:(T k).2=false->¬0<d->¬k=15->T (k+1)=((T k).1,false):=fun g H I=>by rw[j,if_neg (by simp[g,H,I])]
  have p:qW ((T k).1++[kg d])=qW (T k).1++[[.int .u8 ((kg d).toNat:Nat)]]:=by simp[qW]
  have J:∀ f∈qW (T k).1,f.length=1:=by intro f u;simp only[qW,abS] at u;obtain⟨_,_,rfl⟩:=u;rfl
  have q:=eq_true J;have h:((T k).1.length<=140737488355327)=True:=eq_true an
  have r:([48,49,50,51,52,53,54,55,56,57,97,98,99,100,101,102]:List UInt8)[d]'(by simp;omega)=kg d:=by have:=D;rw[aad (by simp;omega)] at this;exact aaS.inj this
  cases g:(T k).2 with
  | true =>
   simp(disch:=omega)[av,aj,r,h,q,m,o _ g rfl,p,a,l,-aaa]
   exact c
  | false =>
   by_cases s:0<d
   ·have K:=eq_true s
    have O:¬(0=d):=an
    simp(disch:=omega)[av,aj,r,h,q,m,o _ g (by simp[s]),p,a,l,K,-aaa];exact c
   ·have L:d=0:=an
    subst L
    by_cases v:k=15
    ·have:e=0:=an
     subst this;simp(disch:=omega)[av,aj,r,h,q,o _ g (by simp[v]),p,a,l,show c_ .i64 0 4=-4 from rfl,-aaa];exact c
    ·have P:((e:Int)=0)=False:=eq_false an
     have M:((e:Int)==0)=false:=by simp;omega
     simp(disch:=omega)[av,aj,m,F g s v,l,M,-aaa];exact c
def zAM[lu G](c:Cd):FP G 433 [.agg c.cs] (.bool c.right):=by
 refine bD lu.afh (aab rfl) ?_
 by_cases a:0<=c.arg
 ·by_cases b:c.arg<=5
  ·by_cases d:0<=c.cmp
   ·by_cases e:c.cmp<=5
    ·simp[Cd.cs,Cd.right,a,b,d,e]
    ·simp[Cd.cs,Cd.right,a,b,d,e]
   ·simp[Cd.cs,Cd.right,a,b,d]
  ·simp[Cd.cs,Cd.right,a,b]
 ·simp[Cd.cs,Cd.right,a]
def zG9(a b i:Nat):(a &&& b)/2^i%2=if a/2^i%2=1/\b/2^i%2=1 then 1 else 0:=by
 rw[yo,yo,yo,acV]
 cases a.testBit i<;>cases b.testBit i<;>simp
def zvl(a b i:Nat):(a &&& b)%2^(i+1)=(a &&& b)%2^i+if a/2^i%2=1/\b/2^i%2=1 then 2^i else 0:=by
 rw[aba,Nat.mod_mul,zG9]
 split<;>simp
def zAN[lu G](a b:Nat)(x:a<18446744073709551616)(z:b<18446744073709551616):FP G 434 [.int .u64 a,.int .u64 b] (.int .u64 (a &&& b:Nat)):=by
 refine bD lu.afi (aab rfl) ?_;obtain⟨S,d⟩:∃ S:Nat->Nat,∀ i,S i=(a &&& b)%2^i:=⟨_,fun _=>rfl⟩;obtain⟨A,e⟩:∃ A:Nat->Nat,∀ i,A i=a/2^i:=⟨_,fun _=>rfl⟩;obtain⟨B,f⟩:∃ B:Nat->Nat,∀ i,B i=b/2^i:=⟨_,fun _=>rfl⟩;obtain⟨P,j⟩:∃ P:Nat->Nat,∀ i,P i=2^i%18446744073709551616:=⟨_,fun _=>rfl⟩;have y:a &&& b<18446744073709551616:=aaw acp x
 have C:S 64=a &&& b:=by rw[d];exact aaI y
 have D:S 0=0:=by rw[d];simp[Nat.mod_one]
 have E:A 0=a:=by rw[e];simp
 have F:B 0=b:=by rw[f];simp
 have l:P 0=1:=by rw[j]
 have m:∀ i,A i<18446744073709551616:=fun i=>by rw[e];exact aaw (aaE _ _) x
 have H:∀ i,B i<18446744073709551616:=fun i=>by rw[f];exact aaw (aaE _ _) z
 have n:∀ i,A (i+1)=A i/2:=fun i=>by rw[e,e,aba,acu]
 have o:∀ i,B (i+1)=B i/2:=fun i=>by rw[f,f,aba,acu]
 have p:∀ i,P (i+1)=P i*2%18446744073709551616:=fun i=>by rw[j,j,aba];simp[Nat.mul_mod]
 have I:∀ i,i<64->S (i+1)=S i+if A i%2=1/\B i%2=1 then P i else 0:=fun i hi=>by
  rw[d,d,zvl,e,f,j,aaI (show 2^i<18446744073709551616 from aaL (by decide) hi)]
 have J:∀ i,S i<18446744073709551616:=fun i=>by rw[d];exact aaw (Nat.mod_le _ _) y
 simp;refine aQ 64 (fun i=>[(0,.int .u64 (A i)),(1,.int .u64 (B i)),(5,.int .u64 (S i)),(6,.int .u64 (P i)),(7,.int .i64 i)]) (fun _=>[]) (fun _=>True) ?_ ?_
 ·simp[av,aj,E,F,D,l]
 intro i hi _
 rcases acK hi with hi|hi
 ·subst hi;simp[av,aj,C]
 ·have q:mV (A i:Int) 2=((A i%2:Nat):Int):=Cl (b:=2);have r:mV (B i:Int) 2=((B i%2:Nat):Int):=Cl (b:=2);have q1:mr .u64 (A i:Int) 2=((A i/2:Nat):Int):=YK (b:=2) (m i);have s:mr .u64 (B i:Int) 2=((B i/2:Nat):Int):=YK (b:=2) (H i)
  have t:eO .u64 (P i:Int) 2=((P i*2%18446744073709551616:Nat):Int):=by unfold eO;rw[IntKind.wrap,show IntKind.u64.signed=false from rfl];simp[IntKind.bits]
  have c:=I i hi
  have u:(((A i%2:Nat):Int)==1)=decide (A i%2=1):=by rw[aaA];simp;omega
  have v:(((B i%2:Nat):Int)==1)=decide (B i%2=1):=by rw[aaA];simp;omega
  have w:((i:Int)<64)=True:=eq_true an
  by_cases g:A i%2=1
  ·by_cases k:B i%2=1
   ·rw[if_pos ⟨g,k⟩] at c
    have K:aE .u64 (S i:Int) (P i:Int)=((S (i+1):Nat):Int):=by rw[c];exact IntWalk.u64_in _ ⟨an,by have:=J (i+1);omega⟩
    simp(disch:=omega)[av,aj,q,r,q1,s,t,n,o,p,u,v,g,k,K,bH,w,-aaa,-aaq,-aau];exact hi
   ·rw[if_neg (fun h=>k h.2)] at c;simp(disch:=omega)[av,aj,q,r,q1,s,t,n,o,p,u,v,g,k,c,bH,w,-aaa,-aaq,-aau];exact hi
  ·rw[if_neg (fun h=>g h.1)] at c;simp(disch:=omega)[av,aj,q,r,q1,s,t,n,o,p,u,v,g,c,bH,w,-aaa,-aaq,-aau];exact hi
def zAO[lu G](c:Cd)(q:c.ok)(d:Da)(hd:d.ok):FP G 435 [.agg c.cs,DV d] (.bool (c.holds d)):=by
 refine bD lu.afj (aab rfl) ?_;have k:=zAM (G:=G) c;obtain⟨_,_,_,r,s⟩:=hd
 have t:d.cs.length=9:=by simp[Da.cs,r]
 simp only[Cd.cs] at k;simp[DV,Cd.cs,t];refine ax k ?_
 cases g:c.right with
 | false=>simp[Cd.holds,g]
 | true =>
  have u:=g;simp only[Cd.right,decide_eq_true_eq] at u;obtain⟨n,l⟩:∃ n:Nat,c.arg=n:=⟨c.arg.toNat,an⟩
  have x:n<=5:=an
  obtain⟨a,h⟩:∃ a,d.args[n]?=some a:=⟨_,aad an⟩;have y:=s a (ab0 h)
  have f:d.cs[3+n]?=some (.int .u64 (a:Int)):=by rw[abD];simp[Da.cs,au,h]
  have m:mc d c=a &&& c.mask:=by simp[mc,l,h]
  have w:=zAN (G:=G) a c.mask y q.1
  have z:(d.cs.drop (3+n)).take 1=[.int .u64 (a:Int)]:=by rw[aaz] at f;obtain⟨o,f⟩:=f;rw[aaB o,f];rfl
  have A:(3+n+1<=d.cs.length)=True:=eq_true an;obtain⟨v,B⟩:∃ v,a &&& c.mask=v:=⟨_,rfl⟩;rw[B] at w m
  have o:((v:Int)<(c.val:Int))=(v<c.val):=by simp
  have D:((c.val:Int)<(v:Int))=(c.val<v):=by simp
  simp(disch:=omega)[l,z,A,bM];refine ax w ?_
  have C:c.holds d=jZ c.cmp v c.val:=by simp[Cd.holds,g,m]
  rw[C]
  have i:c.cmp=0\/c.cmp=1\/c.cmp=2\/c.cmp=3\/c.cmp=4\/c.cmp=5:=an
  by_cases p:v<c.val
  ·have j:¬c.val<v:=an
   have b:v≠c.val:=an
   rcases i with e|e|e|e|e|e<;>simp[e,p,j,b,jZ]<;>omega
  ·by_cases j:c.val<v
   ·have b:v≠c.val:=an
    rcases i with e|e|e|e|e|e<;>simp[e,p,j,b,jZ]<;>omega
   ·have b:v=c.val:=an
    rcases i with e|e|e|e|e|e<;>simp[e,b,jZ]
def yA(c:List af):Prop:=∀ y∈c,y.k<4294967296
def zxs{c:List af}{t:Nat}(d:c.length<=1000100)(b:yA c):yA (bT c t):=by
 intro y a;unfold bT at a;split at a
 ·exact b y a
 ·rcases aah.1 a with rfl|a
  ·simp only;omega
  ·exact b y a
def SC{c:List af}{op:Int}{k t f:Nat}(e:c.length<=1000050)(b:k<4294967296)(d:yA c):yA (f_ c op k t f):=by
 intro y a
 rcases aah.1 a with rfl|a
 ·exact b
 ·exact zxs (by have:=(BA c t).len;omega) (zxs an d) y a
def K6{c:List af}{op:Int}{k:Nat}(b:k<4294967296)(d:yA c):yA (bt c op k):=by
 intro y a
 rcases aah.1 a with rfl|a
 ·exact b
 ·exact d y a
def zFv{c:List af}{x:Cd}{t f:Nat}(e:∀ y∈c,y.k<4294967296)(i:c.length<=1000000)(a:x.right=true):∀ y∈fh c x t f,y.k<4294967296:=by
 have b:∀(x:Cd) (t f:Nat),x.right=true->yA (Eb c x t f):=by
  intro x t f a;have g:=a;simp only[Cd.right,decide_eq_true_eq] at g;have j:=(Oy c x t f).len;have l:=(Oz c x t f).len;have d:yA (bV c x t f):=K6 an (K6 (Oj _) (SC an (Oj _) e))
  have h:yA (rz c x t f):=by
   unfold rz;split
   ·exact d
   ·exact SC an (Ok _) d
  exact K6 an (K6 (Ok _) (SC an (Ok _) h))
 unfold fh;split
 ·exact b _ _ _ (OA a)
 ·exact b _ _ _ a
structure Ru where
 aA:Nat
 nr:Nat
 conds:List Cd
 act:Nat
 deriving DecidableEq
structure Po where
 rules:List Ru
 cF:Nat
 deriving DecidableEq
def Ru.dc(r:Ru):Prop:=(∀ x∈r.conds,x.right=true/\x.ok)/\r.aA<4294967296/\r.nr<4294967296/\r.act<4294967296
abbrev rB:=List af×Nat
def z8(o:Nat):List Cd->rB->rB
 | [],s=>s
 | x::xs,s=>(fh (z8 o xs s).1 x (z8 o xs s).2 o,(fh (z8 o xs s).1 x (z8 o xs s).2 o).length)
def zEt(r:Ru)(s:rB):rB:=z8 s.2 r.conds (bt s.1 6 r.act,s.1.length+1)
def nO:List Ru->rB->rB
 | [],s=>s
 | r::l,s=>zEt r (nO l s)
def uT:List Ru->Nat
 | []=>0
 | r::l=>1+13*r.conds.length+uT l
def Cd.ko(d:Da)(l:List Cd):Bool:=l.all fun x=>x.holds d
def zx(d:Da)(v0:Nat):List Ru->Nat
 | []=>v0
 | r::l=>if Cd.ko d r.conds then r.act else zx d v0 l
structure Came (c:List af) (s:rB) (n:Nat):Prop where
 grown:nN c s.1 n
 jB:1<=s.2/\s.2<=s.1.length
 sound:dB c=true->c.length+n<=4096->dB s.1=true
 ks:yA c->c.length+n<=4096->yA s.1
def Came.mono{c:List af}{s:rB}{n m:Nat}(h:Came c s n)(d:n<=m):Came c s m:=⟨h.grown.mono d,h.jB,fun a b=>h.sound a an,fun a b=>h.ks a an⟩
def Came.self{c:List af}{l:Nat}(h:1<=l/\l<=c.length):Came c (c,l) 0:=⟨nN.refl c,h,fun a _=>a,fun a _=>a⟩
def Came.trans{c:List af}{s t:rB}{n m:Nat}(h:Came c s n)(k:Came s.1 t m):Came c t (n+m) :=
 ⟨h.grown.trans k.grown,k.jB,fun a b=>k.sound (h.sound a an) (by have:=h.grown.len;omega),fun a b=>k.ks (h.ks a an) (by have:=h.grown.len;omega)⟩
def SD{c:List af}{op:Int}{k:Nat}(h:Iw op k)(d:k<4294967296):Came c (bt c op k,c.length+1) 1 :=
 ⟨Ov _ _ _,by simp[bt],fun a b=>Ox h a an,fun a _=>K6 d a⟩
def SG{c:List af}{op:Int}{k t f:Nat}(h:si op)(d:k<4294967296)(e:1<=t/\t<=c.length)(g:1<=f/\f<=c.length):Came c (f_ c op k t f,(f_ c op k t f).length) 3 :=
 ⟨D_ _ _ _ _ _,by have:=zq7 c op k t f;simp only;omega,fun a b=>Sw h a e g an,fun a b=>SC an d a⟩
def zAP{c:List af}{x:Cd}{t f:Nat}(d:x.right=true)(e:1<=t/\t<=c.length)(g:1<=f/\f<=c.length):Came c (fh c x t f,(fh c x t f).length) 13 :=
 ⟨zra _ _ _ _,by have:=(zra c x t f).len;simp only;omega,fun a b=>zyS a d e g an,fun a b=>zFv a an d⟩
def SH{o:Nat}:∀{l:List Cd} {s:rB},(∀ x∈l,x.right=true/\x.ok)->(1<=o/\o<=s.1.length)->(1<=s.2/\s.2<=s.1.length)->Came s.1 (z8 o l s) (13*l.length)
 | [],s,_,_,h=>Came.self h
 | x::l,s,b,c,d=>by
  have a:=SH (l:=l) (fun y e=>b y (by simp[e])) c d;have f:=a.grown.len;exact(a.trans (zAP (b x ir).1 a.jB ⟨c.1,an⟩)).mono (by simp only[aav];omega)
def zth{o:Nat}{d:Da}(hd:d.ok){v0 g:Nat}:∀{l:List Cd} {s:rB},(∀ x∈l,x.right=true/\x.ok)->(1<=o/\o<=s.1.length)->(1<=s.2/\s.2<=s.1.length)->qj d s.1 o v0->qj d s.1 s.2 g ->
  qj d (z8 o l s).1 (z8 o l s).2 (if Cd.ko d l then g else v0)
 | [],s,_,_,_,_,h=>by simpa[z8,Cd.ko] using h
 | x::l,s,a,b,i,j,m=>by
  have c:=SH (l:=l) (fun y f=>a y (by simp[f])) b i;have n:=zth hd (l:=l) (fun y f=>a y (by simp[f])) b i j m;have p:=c.grown.len;have:=zCQ (x:=x) hd (a x ir).1 (a x ir).2 c.jB ⟨b.1,an⟩ n (j.grown c.grown b.2)
  have e:Cd.ko d (x::l)=(x.holds d&&Cd.ko d l):=by simp[Cd.ko]
  rw[e];simp only[z8];cases k:x.holds d
  ·rw[k] at this;simpa using this
  ·rw[k] at this;simpa using this
def zxt(d:Da)(c:List af)(k:Nat):qj d (bt c 6 k) (c.length+1) k:=by intro s a;rw[show c.length+1=(bt c 6 k).length from rfl,zu,zFt]
def K7:∀{l:List Ru} {s:rB},(∀ r∈l,r.dc)->(1<=s.2/\s.2<=s.1.length)->Came s.1 (nO l s) (uT l)
 | [],s,_,h=>Came.self h
 | r::l,s,b,d=>by
  have a:=K7 (l:=l) (fun y e=>b y (by simp[e])) d;have f:=a.grown.len;have p:=SD (c:=(nO l s).1) (op:=6) (k:=r.act) (.inr (.inl rfl)) (b r ir).2.2.2;have g:=p.grown.len;have q:=SH (o:=(nO l s).2) (l:=r.conds) (s:=(bt (nO l s).1 6 r.act,(nO l s).1.length+1)) (b r ir).1 ⟨a.jB.1,by have:=a.jB.2;omega⟩ p.jB;exact((a.trans p).trans q).mono (by simp only[uT];omega)
def zti{d:Da}(hd:d.ok){v0:Nat}:∀{l:List Ru} {s:rB},(∀ r∈l,r.dc)->(1<=s.2/\s.2<=s.1.length)->qj d s.1 s.2 v0->qj d (nO l s).1 (nO l s).2 (zx d v0 l)
 | [],s,_,_,h=>h
 | r::l,s,a,f,h=>by
  have b:=K7 (l:=l) (fun y e=>a y (by simp[e])) f;have g:=zti hd (l:=l) (fun y e=>a y (by simp[e])) f h;have p:=SD (c:=(nO l s).1) (op:=6) (k:=r.act) (.inr (.inl rfl)) (a r ir).2.2.2;have i:=p.grown.len;exact zth hd (o:=(nO l s).2) (l:=r.conds) (s:=(bt (nO l s).1 6 r.act,(nO l s).1.length+1)) (a r ir).1 ⟨b.jB.1,by have:=b.jB.2;omega⟩ p.jB (g.grown p.grown b.jB.2) (zxt d _ _)
def bC:Nat->List af->List (Nat×Nat)->Nat->rB
 | 0,c,_,_=>(c,0)
 | n+1,c,l,o =>
  if l.length=1 then(f_ c 21 (l.getD 0 (0,0)).1 (l.getD 0 (0,0)).2 o,(f_ c 21 (l.getD 0 (0,0)).1 (l.getD 0 (0,0)).2 o).length)
  else
   (f_ (bC n (bC n c (l.take (l.length/2)) o).1 (l.drop (l.length/2)) o).1 53 (l.getD (l.length/2) (0,0)).1 (bC n (bC n c (l.take (l.length/2)) o).1 (l.drop (l.length/2)) o).2 (bC n c (l.take (l.length/2)) o).2,
    (f_ (bC n (bC n c (l.take (l.length/2)) o).1 (l.drop (l.length/2)) o).1 53 (l.getD (l.length/2) (0,0)).1 (bC n (bC n c (l.take (l.length/2)) o).1 (l.drop (l.length/2)) o).2 (bC n c (l.take (l.length/2)) o).2).length)
def kX(c:List af)(l:List (Nat×Nat)):Prop:=∀ e∈l,1<=e.2/\e.2<=c.length
def kX.grown{a b:List af}{n:Nat}{l:List (Nat×Nat)}(h:kX a l)(g:nN a b n):kX b l:=fun e c=>⟨(h e c).1,by have:=g.len;have:=(h e c).2;omega⟩
def Ef{o:Nat}:∀(n:Nat) {c:List af} {l:List (Nat×Nat)},l≠[]->l.length<=n->kX c l->(∀ e∈l,e.1<4294967296)->(1<=o/\o<=c.length)->Came c (bC n c l o) (6*l.length-3)
 | 0,c,l,h,r,_,_,_=>absurd (aci.1 an) h
 | n+1,c,l,h,r,i,f,j=>by
  have u:0<l.length:=aaQ.2 h;unfold bC;split
  ·rename_i s
   have g:l.getD 0 (0,0)∈l:=by rw[abm,aad an];exact aam _
   exact(SG (.inl rfl) (f _ g) (i _ g) j).mono an
  ·rename_i s
   have m:(l.take (l.length/2)).length=l.length/2:=by rw[aa3];omega
   have p:(l.drop (l.length/2)).length=l.length-l.length/2:=by rw[abr]
   have n1:l.take (l.length/2)≠[]:=by intro e;rw[e] at m;simp at m;omega
   have t:l.drop (l.length/2)≠[]:=by intro e;rw[e] at p;simp at p;omega
   have d:=Ef n (c:=c) (l:=l.take (l.length/2)) n1 an (fun e a=>i e (aa_ a)) (fun e a=>f e (aa_ a)) j;have v:=d.grown.len;have q:=Ef n (c:=(bC n c (l.take (l.length/2)) o).1) (l:=l.drop (l.length/2)) t an ((show kX c _ from fun e a=>i e (aaZ a)).grown d.grown) (fun e a=>f e (aaZ a)) ⟨j.1,an⟩;have w:=q.grown.len
   have g:l.getD (l.length/2) (0,0)∈l:=by rw[abm,aad an];exact aam _
   have b:=SG (c:=(bC n (bC n c (l.take (l.length/2)) o).1 (l.drop (l.length/2)) o).1) (op:=53) (k:=(l.getD (l.length/2) (0,0)).1) (.inr (.inr rfl)) (f _ g) q.jB ⟨d.jB.1,by have:=d.jB.2;omega⟩;exact((d.trans q).trans b).mono (by rw[m,p];omega)
def z9(v0:Nat)(vs:Nat->Nat)(a:Nat)(l:List (Nat×Nat)):Nat:=if a∈l.map (·.1) then vs a else v0
def Y8{o:Nat}{d:Da}{a v0:Nat}{vs:Nat->Nat}:∀(n:Nat) {c:List af} {l:List (Nat×Nat)},l≠[]->l.length<=n->kX c l->(∀ e∈l,e.1<4294967296)->(1<=o/\o<=c.length)->(l.map (·.1)).Pairwise (·<·) ->
  qj d c o v0->(∀ e∈l,qj d c e.2 (vs e.1))->Gd d (bC n c l o).1 (bC n c l o).2 a (z9 v0 vs a l)
 | 0,c,l,j,J,_,_,_,_,_,_=>absurd (aci.1 an) j
 | n+1,c,l,j,J,m,z,g,K,p,r=>by
  have P:0<l.length:=aaQ.2 j;unfold bC;split
  ·rename_i A;obtain⟨e,rfl⟩:=List.length_eq_one_iff.1 A;have b:[e].getD 0 (0,0)=e:=rfl;rw[b];intro s h i;simp only;rw[zu,K2 (.inl rfl) (m e ir) g];simp only[takeN,if_true,i,z9,abx,List.map_nil,aaG]
   by_cases q:a=e.1
   ·subst q;simp;exact r e ir s h
   ·simp[q];exact p s h
  ·rename_i A
   have B:(l.take (l.length/2)).length=l.length/2:=by rw[aa3];omega
   have C:(l.drop (l.length/2)).length=l.length-l.length/2:=by rw[abr]
   have n1:l.take (l.length/2)≠[]:=by intro e;rw[e] at B;simp at B;omega
   have D:l.drop (l.length/2)≠[]:=by intro e;rw[e] at C;simp at C;omega
   have E:kX c (l.take (l.length/2)):=fun e b=>m e (aa_ b);have t:kX c (l.drop (l.length/2)):=fun e b=>m e (aaZ b);have F:∀ e∈l.take (l.length/2),e.1<4294967296:=fun e b=>z e (aa_ b);have G:∀ e∈l.drop (l.length/2),e.1<4294967296:=fun e b=>z e (aaZ b);have f:=Ef n (c:=c) (l:=l.take (l.length/2)) n1 an E F g;have Q:=f.grown.len;have u:=Ef n (c:=(bC n c (l.take (l.length/2)) o).1) (l:=l.drop (l.length/2)) D an (t.grown f.grown) G ⟨g.1,an⟩
   have R:=u.grown.len;obtain⟨k,H⟩:∃ k,k=l[l.length/2]'(by omega):=⟨_,rfl⟩
   have L:l.getD (l.length/2) (0,0)=k:=by rw[abm,aad an,H];rfl
   have v:l.map (·.1)=(l.take (l.length/2)).map (·.1)++(l.drop (l.length/2)).map (·.1):=by rw[<-ack,List.take_append_drop]
   have w:l.drop (l.length/2)=k::l.drop (l.length/2+1):=by rw[aaB an,H]
   have I:=K;rw[v,List.pairwise_append] at I;obtain⟨p1,p2,p3⟩:=I;have M:=Y8 (a:=a) n (c:=c) (l:=l.take (l.length/2)) n1 an E F g p1 p (fun e b=>r e (aa_ b))
   have N:=Y8 (a:=a) n (c:=(bC n c (l.take (l.length/2)) o).1) (l:=l.drop (l.length/2)) D an (t.grown f.grown) G ⟨g.1,an⟩ p2 (p.grown f.grown g.2)
    (fun e b=>(r e (aaZ b)).grown f.grown (t e b).2)
   have x:=M.grown u.grown f.jB.2;rw[L];intro s h i;simp only;rw[zu,K2 (.inr (.inr rfl)) u.jB ⟨f.jB.1,by have:=f.jB.2;omega⟩];simp only[takeN,show((53:Int)=21)=False by simp,show((53:Int)=37)=False by simp,if_false,i]
   have O:k.1∈(l.drop (l.length/2)).map (·.1):=by rw[w];simp
   by_cases q:k.1<=a
   ·simp only[q,decide_true,if_true];rw[N s h i]
    have y:a∉(l.take (l.length/2)).map (·.1):=fun hm=>by have:=p3 a hm k.1 O;omega
    unfold z9;rw[v];simp only[aaY,y,false_or]
   ·simp only[q,decide_false,aaH,if_false];rw[x s h i]
    have y:a∉(l.drop (l.length/2)).map (·.1):=fun hm=>by
     rw[w,abx,aap] at p2;rw[w,abx] at hm
     rcases aah.1 hm with e|hm
     ·omega
     ·have:=p2.1 a hm;omega
    unfold z9;rw[v];simp only[aaY,y,or_false]
end Go.Ev
