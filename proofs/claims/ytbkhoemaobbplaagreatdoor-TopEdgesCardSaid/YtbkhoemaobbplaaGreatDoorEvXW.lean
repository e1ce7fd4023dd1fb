/- Runs of simplified code that can be computed. -/
import Derived.Test.YtbkhoemaobbplaaGreatDoorEvLW
set_option linter.defProp false
set_option linter.unusedSimpArgs false
set_option linter.unusedVariables false
set_option maxHeartbeats 4000000
set_option maxRecDepth 10000
open Int renaming natCast_add->aaa,natCast_pow->aaf,natCast_emod->aai,natCast_ediv->aao,natCast_mul->aaI,fdiv_eq_ediv_of_nonneg->acE,not_le->ac8,natCast_nonneg->adl,toNat_natCast->adw
open Nat renaming le_of_ble_eq_true->aab,pow_le_pow_right->aaj,lt_of_le_of_lt->aau,lt_of_lt_of_le->aav,div_le_self->aaD,le_refl->aaH,mod_eq_of_lt->aaQ,eq_of_testBit_eq->aaY,pow_succ->abb,testBit_lt_two_pow->abe,pow_lt_pow_right->abf,mod_lt->abg,testBit_two_pow_mul_add->abi,xor_lt_two_pow->abA,two_pow_pos->abB,add_comm->abI,and_two_pow_sub_one_eq_mod->abU,div_div_eq_div_mul->abW,mul_comm->abX,two_pow_add_eq_or_of_lt->ab0,testBit_mod_two_pow->ab9,testBit_div_two_pow->ab_,testBit_succ->ace,testBit_eq_decide_div_mod_eq->acf,min_eq_left->ach,mul_le_mul_right->acj,testBit_two_pow->acw,and_lt_two_pow->acA,or_lt_two_pow->acI,lt_pow_two_of_testBit->acR,lt_or_ge->acS,testBit_and->acY,and_le_left->acZ,mul_assoc->ade,zero_add->adr,eq_or_lt_of_le->adt,or_comm->adz,zero_le->adB,testBit_xor->adL,div_add_mod->adP,mul_le_mul->adV,testBit_or->adX,mul_zero->adZ,add_zero->ad0,le_trans->ad1,sub_self->ad2,one_mul->ad3,mul_add->ad4,pow_add->ad5
open List renaming getElem?_eq_getElem->aae,mem_cons->aah,getElem_mem->aak,getElem?_eq_some_iff->aan,pairwise_cons->aap,length_cons->aaq,getD_eq_getElem?_getD->aas,mem_map->aaE,drop_eq_getElem_cons->aaF,getElem?_append_left->aaG,take_add_one->aaJ,replicate->aaK,length_pos_iff->aaU,mem_singleton->aaZ,not_mem_nil->aa1,mem_append->aa2,length_append->aa6,cons_append->aa_,map_cons->aba,take_of_length_le->abd,mem_of_mem_drop->abh,range->abk,getElem?_append_right->abm,length_take->abn,getElem?_eq_none->abp,range_succ->abt,mem_of_getElem?->abu,getElem?_set_ne->abv,set_append_left->abw,length_eq_zero_iff->abx,length_drop->aby,take_length->abz,getElem?_set->abC,reduceReplicate->abD,mem_of_mem_take->abF,getD->abG,drop_drop->abH,drop_eq_nil_of_le->abV,mem_iff_getElem->ab1,mem_of_find?_eq_some->ab2,pairwise_iff_getElem->ab3,mem_filter->ab4,getLast?_eq_getElem?->ab5,getElem?_cons_succ->ab8,ext_getElem?->aca,getElem?_set_self->acd,takeWhile_append_dropWhile->acg,drop_eq_nil_iff->ack,map_append->acm,length_set->acn,nil_append->acq,pairwise_append->acr,foldl_cons->acs,replicate_succ->acx,drop_length_add_append->acy,length_eraseIdx_of_lt->acD,flatMap_cons->acP,append_assoc->acQ,getElem?_cons_zero->acT,getElem?_replicate->acU,find?_some->acV,length_nil->acX,pairwise_lt_range->ac0,getElem?_eraseIdx->ac1,filter_eq_nil_iff->ac2,set_append_right->ac4,length_replicate->ac5,singleton_append->ac6,getElem?_of_mem->ac7,drop_succ_cons->adg,find?_eq_none->adh,filter_append->adj,map_nil->adq,flatten_cons->adv,all_eq_false->adx,all_eq_true->adC,nil_sublist->adD,any_eq_true->adE,ext_getElem->adG,drop_length->adH,perm_middle->adI,filter_cons->adJ,find?_cons->adK,range_zero->adR,nodup_cons->adS,length_map->adT,mem_range->adU,map_drop->adY,cons->ad6
open Bool renaming eq_iff_iff->aaw,and_eq_true->aaA,false_eq_true->aa7,not_eq_true->abQ,true_and->abR,false_and->ac3,and_true->adf
open Option renaming some->abc,map_eq_some_iff->abj,getD_some->abJ,map_some->abT,map->ab7,toList_some->acz,toList->acF
open BitVec renaming ofInt->abM,ofNat->ab6,toNat_ofNat->acB,getLsbD_ofNat->adb
open Function renaming comp_def->acG
open Prod renaming mk->adu
open UInt8 renaming ofNat->adA
namespace Go.Ev
open Go Go.RowKit
mutual
def qf:V->V->Bool
 | .undef,.undef=>true
 | .mq,.mq=>true
 | .any,.any=>true
 | .int k a,.int e b=>decide (k=e)&&a==b
 | .bool a,.bool b=>a==b
 | .str a,.str b=>a==b
 | .nilp,.nilp=>true
 | .ptr a b,.ptr c d=>a==c&&b==d
 | .cptr a,.cptr b=>rJ a b
 | .vs a t,.vs b u=>N6 a b&&decide (t=u)
 | .rs a b c d,.rs h i c' d'=>a==h&&b==i&&c==c'&&d==d'
 | .fn f c,.fn g d=>f==g&&rJ c d
 | .nilf,.nilf=>true
 | .agg a,.agg b=>rJ a b
 | .bc a,.bc b=>rJ a b
 | .mp a,.mp b=>a==b
 | .nilm,.nilm=>true
 | .yld a,.yld b=>a==b
 | .gs a n,.gs b m=>a==b&&n==m
 | _,_=>false
def rJ:List V->List V->Bool
 | [],[]=>true
 | a::as,b::c=>qf a b&&rJ as c
 | _,_=>false
def N6:List (List V)->List (List V)->Bool
 | [],[]=>true
 | a::as,b::c=>rJ a b&&N6 as c
 | _,_=>false
end
mutual
def K2:∀{a b:V},qf a b=true->a=b
 | .undef,b,h=>by cases b<;>simp[qf] at h;rfl
 | .mq,b,h=>by cases b<;>simp[qf] at h;rfl
 | .any,b,h=>by cases b<;>simp[qf] at h;rfl
 | .int _ _,b,h=>by cases b<;>simp[qf] at h;rw[h.1,h.2]
 | .bool _,b,h=>by cases b<;>simp[qf] at h;rw[h]
 | .str _,b,h=>by cases b<;>simp[qf] at h;rw[h]
 | .nilp,b,h=>by cases b<;>simp[qf] at h;rfl
 | .ptr _ _,b,h=>by cases b<;>simp[qf] at h;rw[h.1,h.2]
 | .cptr _,b,h=>by cases b<;>simp[qf] at h;rw[Gb h]
 | .vs _ _,b,h=>by cases b<;>simp[qf] at h;rw[zvw h.1,h.2]
 | .rs _ _ _ _,b,h=>by cases b<;>simp[qf] at h;rw[h.1.1.1,h.1.1.2,h.1.2,h.2]
 | .fn _ _,b,h=>by cases b<;>simp[qf] at h;rw[h.1,Gb h.2]
 | .nilf,b,h=>by cases b<;>simp[qf] at h;rfl
 | .agg _,b,h=>by cases b<;>simp[qf] at h;rw[Gb h]
 | .bc _,b,h=>by cases b<;>simp[qf] at h;rw[Gb h]
 | .mp _,b,h=>by cases b<;>simp[qf] at h;rw[h]
 | .nilm,b,h=>by cases b<;>simp[qf] at h;rfl
 | .yld _,b,h=>by cases b<;>simp[qf] at h;rw[h]
 | .gs _ _,b,h=>by cases b<;>simp[qf] at h;rw[h.1,h.2]
def Gb:∀{a b:List V},rJ a b=true->a=b
 | [],b,h=>by cases b<;>simp[rJ] at h;rfl
 | _::_,b,h=>by cases b<;>simp[rJ] at h;rw[K2 h.1,Gb h.2]
def zvw:∀{a b:List (List V)},N6 a b=true->a=b
 | [],b,h=>by cases b<;>simp[N6] at h;rfl
 | _::_,b,h=>by cases b<;>simp[N6] at h;rw[Gb h.1,zvw h.2]
end
def K3:List (V×V)->List (V×V)->Bool
 | [],[]=>true
 | a::as,b::c=>qf a.1 b.1&&qf a.2 b.2&&K3 as c
 | _,_=>false
def zAO:∀{a b:List (V×V)},K3 a b=true->a=b
 | [],b,h=>by cases b<;>simp[K3] at h;rfl
 | (c,d)::as,b,h=>by
  cases b with
  | nil=>simp[K3] at h
  | cons b e =>
   obtain⟨f,g⟩:=b;simp[K3] at h;rw[K2 h.1.1,K2 h.1.2,zAO h.2]
def xB:Option ay->Option ay->Bool
 | none,none=>true
 | some (.cells a),some (.cells b)=>rJ a b
 | some (.zone a),some (.zone b)=>a==b
 | some (.jx a),some (.jx b)=>rJ a b
 | some (.map a),some (.map b)=>K3 a b
 | some (.dF a i),some (.dF b j)=>a==b&&i==j
 | _,_=>false
def X6{a b:Option ay}(h:xB a b=true):a=b:=by
 cases a with
 | none=>cases b<;>simp[xB] at h;rfl
 | some a =>
  cases b with
  | none=>cases a<;>simp[xB] at h
  | some b =>
   cases a<;>cases b<;>simp[xB] at h
   .rw[Gb h]
   .rw[h]
   .rw[Gb h]
   .rw[zAO h]
   .rw[h.1,h.2]
def zK:ae->ae->Bool
 | [],[]=>true
 | a::as,b::c=>xB a b&&zK as c
 | _,_=>false
def X7:∀{a b:ae},zK a b=true->a=b
 | [],b,h=>by cases b<;>simp[zK] at h;rfl
 | _::_,b,h=>by cases b<;>simp[zK] at h;rw[X6 h.1,X7 h.2]
inductive In where
 | F (f:Nat) (args:List V) (H:ae)
 | S (base:Nat) (o:aF) (e:Env) (H:ae)
 | O (base:Nat) (os:List aF) (e:Env) (H:ae)
 | C (c:bg) (e:Env) (H:ae)
 | L (n:Nat) (l:List Nat) (c:bg) (e:Env) (H:ae)
inductive Out where
 | F (r:V) (H:ae)
 | E (e:Env) (H:ae)
 | C (x:Ex) (e:Env) (H:ae)
def CS(G:aL):In->Out->Prop
 | .F f b H,.F r H'=>bE G (.F f b H r H')
 | .S a o e H,.E e' H'=>bE G (.S a o e H e' H')
 | .O a d e H,.E e' H'=>bE G (.O a d e H e' H')
 | .C c e H,.C x e' H'=>bE G (.C c e H x e' H')
 | .L n l c e H,.C x e' H'=>bE G (.L n l c e H x e' H')
 | _,_=>False
def N7:Option (Option ay)->Option (Option ay)->Bool
 | some a,some b=>xB a b
 | none,none=>true
 | _,_=>false
def zxV(e:Env)(rs:List Nat)(H H1:ae):Bool:=rs.all λr=>match(e r).ptrId? with|some id=>N7 H1[id]? H[id]?|none=>true
def zzy{e:Env}{rs:List Nat}{H H1:ae}(h:zxV e rs H H1=true):Kn e rs H H1:=by
 intro r f id g;have:=adC.1 h r f;simp only[g] at this;unfold N7 at this;split at this
 .rename_i a b c d;rw[c,d,X6 this]
 .rename_i c d;rw[c,d]
 .cases this
def Bw(n:Nat):List (Nat×V)->Bool
 | []=>true
 | (_,v)::l=>qf (v.cl n) v&&Bw n l
def X8(n:Nat):∀{l:List (Nat×V)},Bw n l=true->l.map (λp=>(p.1,p.2.cl n))=l
 | [],_=>rfl
 | (i,v)::l,h=>by
  simp only[Bw,aaA] at h;simp only[aba,K2 h.1,X8 n h.2]
def X9(n:Nat):Option ay->Bool
 | some (.loop e _ _ _ .ready)=>Bw n e
 | some (.loop e _ _ _ .busy)=>Bw n e
 | b=>xB (b.map (ay.cl n)) b
def zHX(n:Nat){b:Option ay}(h:X9 n b=true):b.map (ay.cl n)=b:=by
 unfold X9 at h;split at h
 .simp only[abT,ay.cl,X8 n h]
 .simp only[abT,ay.cl,X8 n h]
 .exact X6 h
def X_(base:Nat)(args:List V)(H H':ae):Bool:=args.all (λv=>qf (v.cl base) v)&&H.all (X9 base)&&zK (H'.drop base) (H.drop base)
def zAP{base:Nat}{args:List V}{H H':ae}(h:X_ base args H H'=true):MW base args H H':=by
 simp only[X_,aaA,adC] at h;refine⟨λv a=>K2 (h.1.1 v a),?_,X7 h.2⟩
 conv=>rhs;rw[<-List.map_id H]
 exact List.map_congr_left λb c=>zHX base (h.1.2 b c)
def N8:List (V×V)->Option (List (List UInt8×Int))
 | []=>some []
 | (.str s,.int .u32 n)::l=>(N8 l).map ((s,n)::·)
 | _=>none
def It:Nat->List V->ae->Option V
 | 0,[.mp id,.int .u32 n],H=>match H[id]? with
  | some (some (.map a))=>match N8 a with
   | some l=>if(l.map (·.2)).Nodup then some (.str (((l.find? λp=>p.2==n).map (·.1)).getD [])) else none
   | none=>none
  | _=>none
 | 0,[.nilm,.int .u32 _],_=>some (.str [])
 | _,_,_=>none
def ztx:∀{es:List (V×V)} {l:List (List UInt8×Int)},N8 es=some l->es=l.map λp=>(V.str p.1,V.int .u32 p.2)
 | [],l,h=>by simp only[N8,abc.injEq] at h;subst h;rfl
 | (k,v)::es,l,h=>by
  unfold N8 at h;split at h
  .rename_i a;cases a
  .rename_i s n c a;cases a;rw[abj] at h;obtain⟨d,b,rfl⟩:=h;rw[ztx b];rfl
  .cases h
def zF8{k:Nat}{args:List V}{H:ae}{r:V}(h:It k args H=some r):zr k args H r H:=by
 unfold It at h;split at h
 .split at h
  .rename_i a;split at h
   .rename_i l b;split at h
    .rename_i c;cases h;rw[ztx b] at a;exact⟨rfl,l,a,c,rfl⟩
    .cases h
   .cases h
  .cases h
 .cases h;exact⟨rfl,rfl⟩
 .cases h
def N9(fn:aH)(args:List V)(H:ae):Option Out:=match fn.body with
 | .nat k=>match It k args H with
  | some r=>some (.F r H)
  | none=>none
 | _=>none
def uI(G:aL)(d:In->Option Out):In->Option Out
 | .F f j H=>match G f with
  | some fn=>if j.length<=fn.nt then
    match d (.C fn.body (MV j) H) with
    | some (.C x e' H')=>match x with
     | .exit _=>none
     | _=>match vC e' H' fn.res with
      | some vs=>some (.F (vD vs) H')
      | none=>none
    | _=>none
   else N9 fn j H
  | none=>none
 | .S h o e H=>match wanted e o with
  | some true=>match o.op with
   | .pcall f xs=>match d (.F f (zq (xs.map (X.ev e))) []) with
    | some (.F r H1)=>some (.E (e.put o.dst (u9 H1 r).out) H)
    | _=>none
   | .scall f xs=>match d (.F f (xs.map (X.ev e)) H) with
    | some (.F r H1)=>some (.E (e.put o.dst (r.cl H.length)) (ak H.length H1))
    | _=>none
   | .scallA rs f xs=>match d (.F f (xs.map (X.ev e)) H) with
    | some (.F r H1)=>if zxV e rs H (ak H.length H1)=true then some (.E (e.put o.dst (r.cl H.length)) (ak H.length H1)) else none
    | _=>none
   | .scallE f xs=>match d (.F f (xs.map (X.ev e)) H) with
    | some (.F r H1)=>if X_ h (xs.map (X.ev e)) H (ak H.length H1)=true then some (.E (e.put o.dst (r.cl H.length)) (ak H.length H1)) else none
    | _=>none
   | .kcall true _ _=>none
   | .kcall false f xs=>match d (.F f (xs.map (X.ev e)) H) with
    | some (.F r H1)=>some (.E (e.put o.dst r) H1)
    | _=>none
   | .vcall w y xs=>match y.ev e with
    | .fn f k=>match d (.F f (xs.map (X.ev e)++k) H) with
     | some (.F r H1)=>if !w||zK (ak H.length H1) H then some (.E (e.put o.dst (r.cl H.length)) (ak H.length H1)) else none
     | _=>none
    | .yld id=>match w with
     | true=>none
     | false=>match H[id]? with
      | some (some (.loop z p as bo .ready))=>if xs.length=p.length then
        match d (.C as (sI p (xs.map (X.ev e)) (il z)) H) with
        | some (.C .nx i H1)=>match H1[id]? with
         | some (some (.loop A B D I .ready))=>match d (.C bo i (H1.set id (some (.loop A B D I .busy)))) with
          | some (.C x P H2)=>match H2[id]? with
           | some (some (.loop J K M N .busy))=>some (.E (e.put o.dst (.bool (decide (x=.nx)))) (ak H.length (H2.set id (some (.loop J K M N (if x=.nx then .ready else .done x))))))
           | _=>none
          | _=>none
         | _=>none
        | _=>none
       else none
      | _=>none
    | _=>none
   | op=>match aU h e H op with
    | some (v,H1)=>some (.E (e.put o.dst v) H1)
    | none=>none
  | some false=>some (.E (e.put o.dst .mq) H)
  | none=>none
 | .O h q e H=>match q with
  | []=>some (.E e H)
  | o::q=>match d (.S h o e H) with
   | some (.E i H1)=>d (.O h q i H1)
   | _=>none
 | .C c e H=>match c with
  | .skip=>some (.C .nx e H)
  | .region m s=>match d (.O H.length s e (H++aaK m none)) with
   | some (.E i H1)=>some (.C .nx i H1)
   | _=>none
  | .seq a b=>match d (.C a e H) with
   | some (.C x i H1)=>match x with
    | .nx=>d (.C b i H1)
    | x=>some (.C x i H1)
   | _=>none
  | .cond c a b=>match c.ev e with
   | .bool t=>match t with
    | true=>d (.C a e H)
    | false=>d (.C b e H)
   | _=>none
  | .block id c=>match d (.C c e H) with
   | some (.C x i H1)=>some (.C (if x=.exit id then .nx else x) i H1)
   | _=>none
  | .loop l c=>d (.L H.length l c e H)
  | .exit id=>some (.C (.exit id) e H)
  | .ret=>some (.C .ret e H)
  | .keep l=>some (.C .nx (pb l e) H)
  | .give t u=>match DH e H t u with
   | some (i,H1)=>some (.C .nx i H1)
   | none=>none
  | .freeze t=>match FE e H t with
   | some (i,H1)=>some (.C .nx i H1)
   | none=>none
  | .nat _=>none
  | .iw g l p as bo=>match g.ev e with
   | .fn f k=>match d (.F f (.yld H.length::k) (H++[some (.loop (look e l) p as bo .ready)])) with
    | some (.F _ H1)=>match H1[H.length]? with
     | some (some (.loop _ _ _ _ .ready))=>some (.C .nx e (ak H.length H1))
     | some (some (.loop _ _ _ _ (.done x)))=>match x with
      | .nx=>none
      | x=>some (.C x e (ak H.length H1))
     | _=>none
    | _=>none
   | _=>none
 | .L n l c e H=>match d (.C c ((pb l e).cl n) (ak n H)) with
  | some (.C x i H1)=>match x with
   | .nx=>d (.L n l c i H1)
   | x=>some (.C x i H1)
  | _=>none
def exec(G:aL):Nat->In->Option Out
 | 0,_=>none
 | k+1,i=>uI G (exec G k) i
def zxn{G:aL}{E:In->Option Out}(j:∀i o,E i=some o->CS G i o):∀i o,uI G E i=some o->CS G i o:=by
 intro i o h
 cases i with
 | F f I H =>
  simp only[uI] at h;split at h
  case h_2=>cases h
  rename_i fn w;split at h
  case isFalse =>
   unfold N9 at h;split at h
   .rename_i k P;split at h
    .rename_i r Q;cases h;exact bE.nat w P (zF8 Q)
    .cases h
   .cases h
  rename_i z;split at h
  case h_2=>cases h
  rename_i x e' H' d;have d:=j _ _ d;simp only[CS] at d;split at h
  .cases h
  rename_i u;split at h
  case h_2=>cases h
  rename_i vs R;cases h;refine bE.fn w z d ?_ R
  cases x with
  | nx=>exact .inl rfl
  | ret=>exact .inr rfl
  | exit k=>exact absurd rfl (u k)
 | S y o e H =>
  simp only[uI] at h;split at h
  case h_3=>cases h
  .rename_i s;split at h
   .rename_i f xs q;split at h
    case h_2=>cases h
    rename_i r H1 d;cases h;exact bE.pcall s q (j _ _ d)
   .rename_i f xs q;split at h
    case h_2=>cases h
    rename_i r H1 d;cases h;exact bE.scall s q (j _ _ d)
   .rename_i rs f xs q;split at h
    case h_2=>cases h
    rename_i r H1 d;split at h
    case isFalse=>cases h
    rename_i A;cases h;exact bE.scallA s q (j _ _ d) (zzy A)
   .rename_i f xs q;split at h
    case h_2=>cases h
    rename_i r H1 d;split at h
    case isFalse=>cases h
    rename_i A;cases h;exact bE.scallE s q (j _ _ d) (zAP A)
   .cases h
   .rename_i f xs q;split at h
    case h_2=>cases h
    rename_i r H1 d;cases h;exact bE.kcall s q (j _ _ d) (λh=>by cases h)
   .rename_i ro fx xs q;split at h
    case h_3=>cases h
    .rename_i f B D;split at h
     case h_2=>cases h
     rename_i r H1 d;split at h
     case isFalse=>cases h
     rename_i J;cases h
     exact bE.vcall s q D (j _ _ d) (λh=>by
      subst h;simp only[Bool.not_true,Bool.false_or] at J
      exact X7 J)
    .rename_i id D;split at h
     .cases h
     split at h
     case h_2=>cases h
     rename_i d;split at h
     case isFalse=>cases h
     rename_i z;split at h
     case h_2=>cases h
     rename_i T;split at h
     case h_2=>cases h
     rename_i U;split at h
     case h_2=>cases h
     rename_i V;split at h
     case h_2=>cases h
     rename_i W;cases h;exact bE.ke s q D d z (j _ _ T) U (j _ _ V) W
   .split at h
    case h_2=>cases h
    rename_i v H1 X;cases h;exact bE.ev s X
  .rename_i s;cases h
   exact bE.skip s
 | O y os e H =>
  simp only[uI] at h;split at h
  .cases h;exact bE.nil
  .split at h
   case h_2=>cases h
   rename_i K H1 d;have p:=j _ _ h
   cases o<;>simp only[CS] at p
   exact bE.cons (j _ _ d) p
 | C c e H =>
  cases c with
  | skip=>simp only[uI,abc.injEq] at h;subst h;exact bE.AN
  | nat k=>simp[uI] at h
  | region m Y =>
   simp only[uI] at h;split at h
   case h_2=>cases h
   rename_i d;cases h;exact bE.region (j _ _ d)
  | seq a b =>
   simp only[uI] at h;split at h
   case h_2=>cases h
   rename_i x K H1 d;split at h
   .have p:=j _ _ h
    cases o<;>simp only[CS] at p
    exact bE.DI (j _ _ d) p
   .rename_i u;cases h
    exact bE.AO (j _ _ d) (λh=>u h)
  | cond c a b =>
   simp only[uI] at h;split at h
   case h_2=>cases h
   rename_i t M;split at h
   .have p:=j _ _ h
    cases o<;>simp only[CS] at p
    exact bE.cond M p
   .have p:=j _ _ h
    cases o<;>simp only[CS] at p
    exact bE.cond M p
  | block id c =>
   simp only[uI] at h;split at h
   case h_2=>cases h
   rename_i d;cases h;exact bE.block (j _ _ d)
  | loop l c =>
   simp only[uI] at h;have p:=j _ _ h
   cases o<;>simp only[CS] at p
   exact bE.loop p
  | exit id=>simp only[uI,abc.injEq] at h;subst h;exact bE.exit
  | ret=>simp only[uI,abc.injEq] at h;subst h;exact bE.ret
  | keep l=>simp only[uI,abc.injEq] at h;subst h;exact bE.keep
  | give t Z =>
   simp only[uI] at h;split at h
   case h_2=>cases h
   rename_i d;cases h;exact bE.give d
  | freeze t =>
   simp only[uI] at h;split at h
   case h_2=>cases h
   rename_i d;cases h;exact bE.freeze d
  | iw g l ps as bo =>
   simp only[uI] at h;split at h
   case h_2=>cases h
   rename_i f B N;split at h
   case h_2=>cases h
   rename_i w;split at h
   case h_3=>cases h
   .rename_i d;cases h;exact bE.iw N (j _ _ w) d (.inl ⟨rfl,rfl⟩)
   .rename_i d;split at h
    .cases h
    .rename_i u;cases h
     exact bE.iw N (j _ _ w) d (.inr ⟨rfl,λh=>u h⟩)
 | L n l c e H =>
  simp only[uI] at h;split at h
  case h_2=>cases h
  rename_i x K H1 d;split at h
  .have p:=j _ _ h
   cases o<;>simp only[CS] at p
   exact bE.round (j _ _ d) p
  .rename_i u;cases h;exact bE.last (j _ _ d) (λh=>u h)
def zrn{G:aL}:∀(k:Nat) (i:In) (o:Out),exec G k i=some o->CS G i o
 | 0,_,_,h=>by simp[exec] at h
 | k+1,i,o,h=>zxn (zrn k) i o h
open Go Go.RowKit
def Ya(G:aL)(k f:Nat)(args:List V)(r:V):Bool :=
 match exec G k (.F f args []) with
 | some (.F a H1)=>qf (u9 H1 a).out r
 | _=>false
def zF9{G:aL}{k f:Nat}{args:List V}{r:V}(h:Ya G k f args r=true):FP G f args r:=by
 unfold Ya at h;split at h
 .rename_i b H1 a;exact⟨_,_,zrn k _ _ a,K2 h⟩
 .cases h
variable {G:aL}
structure af where
 op:Int
 jt:Int
 jf:Int
 k:Nat
 deriving DecidableEq
def af.cs(x:af):List V:=[.int .i64 x.op,.int .i64 x.jt,.int .i64 x.jf,.int .u32 (x.k:Int)]
def IV(x:af):V:=.agg x.cs
def IL(l:List af):List (List V):=l.map af.cs
def FL(l:List af):V:=.vs (IL l) .no
@[simp] theorem zNM (l:List af):(IL l).length=l.length:=by simp[IL]
@[simp] theorem Yb (l:List af) (i:Nat):(IL l)[i]?=(l[i]?).map af.cs:=by simp[IL]
@[simp] theorem zHY:IL []=[]:=rfl
theorem Si(l:List af):IL l=[]↔l=[]:=by simp[IL]
def zAQ(l m:List af):IL l++IL m=IL (l++m):=by simp[IL]
@[simp] theorem Sj (l:List af) (x:af):IL l++[x.cs]=IL (l++[x]):=by simp[IL]
@[simp] theorem ajN (l:List af):(∀f∈IL l,f.length=4)=True:=by simp only[eq_iff_iff,iff_true];intro f a;simp only[IL,aaE] at a;obtain⟨x,_,rfl⟩:=a;rfl
@[simp] theorem zNN (x:af):x.cs.length=4:=rfl
abbrev vU:=Int×List UInt8×Bool×Bool
def qW(r:vU):List V:=[.int .i64 r.1,.str r.2.1,.bool r.2.2.1,.bool r.2.2.2]
def oG(op:Int):Option vU:=pg.find? λr=>r.1==op
def Yc{α β:Type}(g:α->List β)(k:Nat)(c:∀a,(g a).length=k):∀(l:List α) (n:Nat) (a:α),l[n]?=some a->(((l.map g).flatten).drop (n*k)).take k=g a
 | [],n,a,h=>by simp at h
 | b::l,0,a,h=>by
  simp at h;subst h
  simp[c]
 | b::l,n+1,a,h=>by
  simp only[ab8] at h;rw[aba,adv,Nat.add_mul,ad3,abI,<-c b,acy];have:=Yc g k c l n a h;rw[c b];exact this
def zAR{n:Nat}{r:vU}(h:pg[n]?=some r):(yj.drop (n*4)).take 4=qW r:=Yc (λr:vU=>qW r) 4 (λ_=>rfl) pg n r h
def Sl:yj.length=156:=by decide
def zxo:yj.take 156=yj:=by rw[abd];rw[Sl];exact aaH _
def zty(n:Nat):aZ n yj=yj:=by rw[g9];simp[yj,List.map_flatten,acG,V.cl]
def K4(op:Int):V:=match oG op with
 | some r=>.bc [.agg (qW r),.bool true]
 | none=>.bc [.agg [.int .i64 0,.str [],.bool false,.bool false],.bool false]
def ztz{α:Type}{p:α->Bool}{l:List α}(h:∀(n:Nat) (a:α),l[n]?=some a->p a=false):l.find? p=none:=by rw[adh];intro a b;obtain⟨n,c⟩:=ac7 b;simp[h n a c]
def Yd{α:Type}{p:α->Bool}:∀{l:List α} {n:Nat} {a:α},l[n]?=some a->p a=true->(∀(m:Nat) (b:α),m<n->l[m]?=some b->p b=false)->l.find? p=some a
 | [],n,a,h,_,_=>by simp at h
 | b::l,0,a,h,d,_=>by simp at h;subst h;simp[d]
 | b::l,n+1,a,h,d,e=>by
  rw[adK];rw[e 0 b an rfl];exact Yd (by simpa using h) d λm c g f=>e (m+1) c an (by simpa using f)
def Sm(op:Int)(n:Nat):Prop:=∀(m:Nat) (b:vU),m<n->pg[m]?=some b->(b.1==op)=false
def Ye[aE G](op:Int):FP G 139 [.int .i64 op] (K4 op):=by
 refine bw aE.agZ (aab rfl) ?_;simp[Sl,zxo]
 refine aO 39 (λn=>[(0,.int .i64 op),(2,.ptr 0 0),(6,.agg yj),(7,.int .i64 n)]) (λ_=>[some (.cells [.int .i64 0,.str [],.bool false,.bool false])])
  (λn=>Sm op n) ?_ ?_
 .simp[av,ak,zty];intro m b h;omega
 intro n l c
 by_cases f:n<39
 .obtain⟨r,d⟩:∃r,pg[n]?=some r:=⟨_,aae (show n<pg.length from f)⟩;have g:=zAR d
  by_cases e:r.1=op
  .have:oG op=some r:=Yd d (by simpa using e) c;simp(disch:=omega)[bC,aB,Sl,g,qW,e,this,K4,-aaa]
  .have i:Sm op (n+1):=λm b h a=>by
    by_cases j:m=n
    .subst j;rw[d] at a;cases a;simpa using e
    .exact c m b an a
   simp(disch:=omega)[bC,aB,Sl,g,qW,aG,bA,f,av,ak,zty,i,-aaa]
 .have k:n=39:=an
  subst k;have:oG op=none:=ztz λm b a=>c m b (by have:=(aan.1 a).1;exact this) a;simp[this,K4]
def Gc{op:Int}{r:vU}(h:oG op=some r):r.1=op/\r∈pg:=by have a:=acV h;exact⟨by simpa using a,ab2 h⟩
def Yf{op:Int}(h:oG op=none):∀r∈pg,r.1≠op:=λr a=>by
 have:=adh.1 h r a;simpa using this
def bf(op:Int):Int×Bool×Bool :=
 if op∈[4,20,36,52,68,84,100,116,164] then(op,false,true) else if op∈[12,28,44,60,76,92,108,124,172] then(op-8,true,true) else(0,false,false)
def aX(op:Int):Bool:=decide (op∈[21,37,53,69,29,45,61,77])
def fW(op:Int):Bool:=decide (op=6\/op=22)
def zvz{op:Int}(h:oG op=none):bf op=(0,false,false):=by
 have d:∀p∈[4,20,36,52,68,84,100,116,164,12,28,44,60,76,92,108,124,172],∃r∈pg,r.1=p:=by decide
 unfold bf;rw[if_neg,if_neg]
 .intro a;obtain⟨r,b,c⟩:=d op (by simp only[aah,aa1,or_false] at a |-;omega);exact Yf h r b c
 .intro a;obtain⟨r,b,c⟩:=d op (by simp only[aah,aa1,or_false] at a |-;omega);exact Yf h r b c
def zxW{op:Int}(h:oG op=none):aX op=false:=by
 have a:∀p∈[21,37,53,69,29,45,61,77],∃r∈pg,r.1=p:=by decide
 simp only[aX,decide_eq_false_iff_not];intro b;obtain⟨r,c,d⟩:=a op b;exact Yf h r c d
def N_[aE G](x:af):FP G 143 [IV x] (.bool (fW x.op)):=by
 refine bw aE.ag3 (aab rfl) ?_;simp[IV,af.cs]
 by_cases h:x.op=6
 .simp[h,fW]
 .by_cases a:x.op=22<;>simp[h,a,aG,fW]
def zL[aE G](x:af):FP G 142 [IV x] (.bool (aX x.op)):=by
 refine bw aE.ag2 (aab rfl) ?_;simp[IV,af.cs];refine aw (Ye x.op) ?_;unfold K4
 cases h:oG x.op with
 | none=>simp[zxW h]
 | some r =>
  obtain⟨d,e⟩:=Gc h
  have a:∀r∈pg,(decide (jY .i64 r.1 7=5)&&decide (r.1≠5))=aX r.1:=by decide
  have a:=a r e;rw[d] at a
  by_cases b:jY .i64 x.op 7=5
  .by_cases c:x.op=5
   .simp[c] at a;simp[qW,c];rw[c] at b;simp[b];exact a
   .simp[b,c] at a;simp[qW,b,c,ki,a]
  .simp[b] at a;simp[qW,b,aG,a]
def K5[aE G](x:af):FP G 141 [IV x] (.bc [.int .i64 (bf x.op).1,.bool (bf x.op).2.1,.bool (bf x.op).2.2]):=by
 refine bw aE.ag1 (aab rfl) ?_;simp[IV,af.cs];refine aw (Ye x.op) ?_;unfold K4
 cases h:oG x.op with
 | none=>simp[zvz h]
 | some r =>
  obtain⟨d,e⟩:=Gc h
  have a:∀r∈pg,bf r.1=if jY .i64 r.1 7≠4\/r.1=132 then(0,false,false) else(Km .i64 r.1 8,decide (jY .i64 r.1 8>0),true):=by decide
  have a:=a r e;rw[d] at a
  by_cases c:jY .i64 x.op 7=4
  .by_cases b:x.op=132
   .have f:jY .i64 132 7=4:=by decide
    rw[if_pos (.inr b)] at a;simp[qW,b,f,b▸a]
   .rw[if_neg (by simp[c,b])] at a;simp[qW,c,b,aG,a]
  .rw[if_pos (.inl c)] at a;simp[qW,c,ki,a]
def jS(x:af):Bool:=match oG x.op with
 | some r=>(r.2.2.1||decide (x.k=0))&&(if r.2.2.2 then decide (0<=x.jt/\x.jt<=255/\0<=x.jf/\x.jf<=255) else decide (x.jt=0/\x.jf=0))
 | none=>false
def Oa[aE G](x:af):FP G 140 [IV x] (.bool (jS x)):=by
 refine bw aE.ag0 (aab rfl) ?_;simp[IV,af.cs];refine aw (Ye x.op) ?_;unfold K4 jS
 cases h:oG x.op with
 | none=>simp
 | some r =>
  obtain⟨i,w,e,ways⟩:=r;have oH:∀{H:ae},True:=trivial;cases e
  .by_cases c:x.k=0
   .cases ways
    .by_cases a:x.jt=0
     .by_cases b:x.jf=0<;>simp[qW,c,a,b,aG]
     .simp[qW,c,a,aG]
    .by_cases a:0<=x.jt
     .by_cases b:x.jt<=255
      .by_cases d:0<=x.jf
       .by_cases f:x.jf<=255<;>simp[qW,c,a,b,d,f]
       .simp[qW,c,a,b,d]
      .simp[qW,c,a,b]
     .simp[qW,c,a]
   .have g:((x.k:Int) !=0)=true:=ki an;simp[qW,c,g]
  .cases ways
   .by_cases a:x.jt=0
    .by_cases b:x.jf=0<;>simp[qW,a,b,aG]
    .simp[qW,a,aG]
   .by_cases a:0<=x.jt
    .by_cases b:x.jt<=255
     .by_cases d:0<=x.jf
      .by_cases f:x.jf<=255<;>simp[qW,a,b,d,f]
      .simp[qW,a,b,d]
     .simp[qW,a,b]
    .simp[qW,a]
def K6:List Int:=pg.map (·.1)
def zHZ[eE G]:FP G 177 [] (.vs (ints .i64 K6) .no):=by refine bw eE.ahw (aab rfl) ?_;simp[ints,K6,pg]
def Yg[eE G](op:Int):∃p:Int,FP G 176 [.int .i64 op] (.int .i64 p) /\
  ((∃(n:Nat) (r:vU),p=n/\pg[n]?=some r/\oG op=some r)\/p=-1/\oG op=none):=by
 have a:∀p:Int,((∃(n:Nat) (r:vU),p=n/\pg[n]?=some r/\oG op=some r)\/p=-1/\oG op=none)->FP G 176 [.int .i64 op] (.int .i64 p):=by
  intro p u;refine bw eE.ahv (aab rfl) ?_;simp;refine aw zHZ ?_;simp;refine aO 39 (λn=>[(0,.int .i64 op),(3,.vs (ints .i64 K6) .no),(4,.int .i64 n)]) (λ_=>[]) (λn=>Sm op n) ?_ ?_
  .simp[av,ak];intro m b w;omega
  intro n l o;have q:K6.length=39:=rfl
  by_cases s:n<39
  .obtain⟨r,d⟩:∃r,pg[n]?=some r:=⟨_,aae (show n<pg.length from s)⟩
   have x:K6[n]?=some r.1:=by simp[K6,d]
   obtain⟨_,v⟩:=aan.1 x
   by_cases g:r.1=op
   .have k:oG op=some r:=Yd d (by simpa using g) o
    have:p=n:=by
     rcases u with⟨t,y,rfl,f,c⟩|⟨_,c⟩
     .rw[k] at c;cases c;have E:pg.length=39:=rfl
      have z:∀i j:Fin 39,pg[i.1]?=pg[j.1]?->i=j:=by decide
      have A:t<39:=by have:=(aan.1 f).1;omega
      have:=z ⟨t,A⟩ ⟨n,s⟩ (by rw[f,d]);simp at this;rw[this]
     .rw[k] at c;cases c
    simp(disch:=omega)[bC,v,g,q,this,-aaa]
   .have B:Sm op (n+1):=λm b w e=>by
     by_cases C:m=n
     .subst C;rw[d] at e;cases e;simpa using g
     .exact o m b an e
    simp(disch:=omega)[bC,v,aG,q,bA,s,av,ak,B,-aaa]
  .have D:n=39:=an
   subst D;have k:oG op=none:=ztz λm b e=>o m b (by have:=(aan.1 e).1;exact this) e
   have:p=-1:=by
    rcases u with⟨t,y,rfl,f,c⟩|⟨f,_⟩
    .rw[k] at c;cases c
    .exact f
   simp[q,this]
 cases h:oG op with
 | none=>exact⟨-1,a _ (.inr ⟨rfl,h⟩),.inr ⟨rfl,rfl⟩⟩
 | some r =>
  obtain⟨g,d⟩:=Gc h;obtain⟨n,l⟩:=ac7 d;exact⟨n,a _ (.inl ⟨n,r,rfl,l,h⟩),.inl ⟨n,r,rfl,l,rfl⟩⟩
def Yh(i:Int):Bool:=decide (13<=i/\i<=24\/i=30\/35<=i)
def zAS[eE G](i:Int):FP G 175 [.int .i64 i] (.bool (Yh i)):=by
 refine bw eE.ahu (aab rfl) ?_;unfold Yh
 by_cases a:13<=i
 .by_cases b:i<=24
  .simp[a,b]
  .by_cases c:i=30
   .simp[c]
   .by_cases d:35<=i<;>simp[a,b,c,d,aG]
 .simp[a,show¬35<=i from an,show¬i=30 from an,aG]
def Yi[eE G](i:Int):FP G 174 [.int .i64 i] (.bool (decide (31<=i))):=by refine bw eE.aht (aab rfl) ?_;simp
def Yj[eE G](x:af):FP G 180 [IV x] (.bool (aX x.op)):=by
 obtain⟨p,d,e⟩:=Yg (G:=G) x.op;refine bw eE.ahz (aab rfl) ?_;simp[IV,af.cs];refine aw d ?_;simp;refine aw (Yi p) ?_
 have:decide (31<=p)=aX x.op:=by
  rcases e with⟨n,r,rfl,c,a⟩|⟨rfl,a⟩
  .have b:∀i:Fin 39,∀r,pg[i.1]?=some r->decide (31<=(i.1:Int))=aX r.1:=by decide
   have f:n<39:=by have:=(aan.1 c).1;exact this
   have:=b ⟨n,f⟩ r c;rw[(Gc a).1] at this;exact this
  .rw[zxW a];rfl
 simp[this]
def zGa[eE G](x:af):FP G 179 [IV x] (.bc [.int .i64 (bf x.op).1,.bool (bf x.op).2.1,.bool (bf x.op).2.2]):=by
 obtain⟨p,h,j⟩:=Yg (G:=G) x.op;refine bw eE.ahy (aab rfl) ?_;simp[IV,af.cs];refine aw h ?_
 have a:bf x.op=if 4<=p/\p<=12 then(x.op,false,true) else if 13<=p/\p<=21 then(bO .i64 x.op 8,true,true) else(0,false,false):=by
  rcases j with⟨n,r,rfl,g,d⟩|⟨rfl,d⟩
  .have a:∀i:Fin 39,∀r,pg[i.1]?=some r->bf r.1=if 4<=(i.1:Int)/\(i.1:Int)<=12 then(r.1,false,true) else if 13<=(i.1:Int)/\(i.1:Int)<=21 then(bO .i64 r.1 8,true,true) else(0,false,false):=by decide
   have k:n<39:=by have:=(aan.1 g).1;exact this
   have:=a ⟨n,k⟩ r g;rw[(Gc d).1] at this;exact this
  .rw[zvz d];rfl
 by_cases b:4<=p
 .by_cases c:p<=12
  .rw[if_pos ⟨b,c⟩] at a;simp[b,c,a]
  .rw[if_neg an] at a
   by_cases e:13<=p
   .by_cases f:p<=21
    .rw[if_pos ⟨e,f⟩] at a;simp[b,c,e,f,a]
    .rw[if_neg an] at a;simp[b,c,e,f,a]
   .omega
 .rw[if_neg an,if_neg an] at a;simp[b,show¬13<=p from an,a]
def zDn[eE G](x:af):FP G 181 [IV x] (.bool (fW x.op)):=by
 refine bw eE.ahA (aab rfl) ?_;simp[IV,af.cs]
 by_cases h:x.op=6
 .simp[h,fW]
 .by_cases a:x.op=22<;>simp[h,a,aG,fW]
def zzA[eE G](x:af):FP G 178 [IV x] (.bool (jS x)):=by
 obtain⟨p,s,t⟩:=Yg (G:=G) x.op;refine bw eE.ahx (aab rfl) ?_;simp[IV,af.cs];refine aw s ?_
 rcases t with⟨n,r,rfl,a,c⟩|⟨rfl,c⟩
 case inr=>simp[jS,c]
 have g:∀i:Fin 39,∀r,pg[i.1]?=some r->Yh (i.1:Int)=!r.2.2.1/\decide (31<=(i.1:Int))=r.2.2.2:=by decide
 have u:n<39:=by have:=(aan.1 a).1;exact this
 obtain⟨m,f⟩:=g ⟨n,u⟩ r a;simp only at m f;simp(disch:=omega)[kD];refine aw (zAS n) ?_;unfold jS;rw[c,m];obtain⟨y,w,h,ways⟩:=r;simp only at f |-;have d:∀j:Int,(j<256)=(j<=255):=λj=>propext an;have o:∀b:Bool,b=true->True:=λ_ _=>trivial;cases h
 .by_cases q:x.k=0
  .simp[q];refine aw (Yi n) ?_;rw[f];cases ways
   .by_cases a:x.jt=0
    .by_cases c:x.jf=0<;>simp[a,c,aG]
    .simp[a,aG]
   .by_cases a:0<=x.jt
    .by_cases c:x.jt<=255
     .by_cases e:0<=x.jf
      .by_cases l:x.jf<=255<;>simp[d,a,c,e,l]
      .simp[d,a,c,e]
     .simp[d,a,c]
    .simp[a]
  .have v:((x.k:Int) !=0)=true:=ki an;simp[q,v]
 .simp;refine aw (Yi n) ?_;rw[f];cases ways
  .by_cases a:x.jt=0
   .by_cases c:x.jf=0<;>simp[a,c,aG]
   .simp[a,aG]
  .by_cases a:0<=x.jt
   .by_cases c:x.jt<=255
    .by_cases e:0<=x.jf
     .by_cases l:x.jf<=255<;>simp[d,a,c,e,l]
     .simp[d,a,c,e]
    .simp[d,a,c]
   .simp[a]
def Aq(tab:List Nat)(j:Nat):Bool:=(abk tab.length).any λn=>tab[n]? !=tab[n ^^^ 2^j]?
def BA(vars:List Int)(tab:List Nat)(j:Nat):Prop :=
 ∃v,vars[j]?=some v/\0<=v/\v<34/\(∀u,0<j->vars[j-1]?=some u->u<v)/\Aq tab j=true
def Right(vars:List Int)(tab:List Nat):Prop:=vars.length<=4/\tab.length=2^vars.length/\∀j,j<vars.length->BA vars tab j
open Classical in
noncomputable def uJ(vars:List Int)(tab:List Nat):Bool:=decide (Right vars tab)
def Gd{vars:List Int}{tab:List Nat}:uJ vars tab=true↔Right vars tab:=by simp[uJ]
abbrev Up(l:List Int):Prop:=l.Pairwise (·<·)
def zAT:∀{a b:List Int},Up a->Up b->(∀v,v∈a↔v∈b)->a=b
 | [],[],_,_,_=>rfl
 | [],y::b,_,_,h=>absurd ((h y).2 ir) ir
 | x::a,[],_,_,h=>absurd ((h x).1 ir) ir
 | x::a,y::b,g,i,h=>by
  have d:=aap.1 g;have f:=aap.1 i
  have j:x=y:=by
   rcases aah.1 ((h x).1 ir) with e|e
   .exact e
   rcases aah.1 ((h y).2 ir) with e'|e'
   .exact e'.symm
   have:=f.1 x e;have:=d.1 y e';omega
  subst j;rw[zAT d.2 f.2 λv=>?_];constructor
  .intro c;have k:=d.1 v c
   rcases aah.1 ((h v).1 (by simp[c])) with e|e
   .omega
   .exact e
  .intro c;have k:=f.1 v c
   rcases aah.1 ((h v).2 (by simp[c])) with e|e
   .omega
   .exact e
def Up.nodup{l:List Int}(h:Up l):l.Nodup:=h.imp (λh e=>by omega)
def zNd{l:List Int}(h:∀j,0<j->∀u v,l[j-1]?=some u->l[j]?=some v->u<v):Up l:=by
 induction l with
 | nil=>simp
 | cons x l c =>
  rw[Up,aap]
  have b:Up l:=c (λj f u v d a=>by
   refine h (j+1) an u v ?_ (by simpa using a);obtain⟨k,rfl⟩:∃k,j=k+1:=⟨j-1,an⟩
   simpa using d)
  refine⟨?_,b⟩;intro v a
  cases l with
  | nil=>cases a
  | cons y l =>
   have g:x<y:=h 1 an x y ir ir
   rcases aah.1 a with e|e
   .omega
   .have:=(aap.1 b).1 v e;omega
def Right.up{vars:List Int}{tab:List Nat}(h:Right vars tab):Up vars:=zNd λj c u v d a=>by
 have e:j<vars.length:=by
  rcases acS j vars.length with h|h
  .exact h
  .rw[abp h] at a;cases a
 obtain⟨w,b,_,_,f,_⟩:=h.2.2 j e;rw[a] at b;cases b;exact f u c d
def Right.mem{vars:List Int}{tab:List Nat}(h:Right vars tab){v:Int}(c:v∈vars):0<=v/\v<34:=by obtain⟨j,a,rfl⟩:=ab1.1 c;obtain⟨w,b,d,e,_⟩:=h.2.2 j a;rw[aae a] at b;cases b;exact⟨d,e⟩
def Yk{l:List Int}(h:l.Nodup){i j:Nat}{hi:i<l.length}{b:j<l.length}(e:l[i]=l[j]):i=j:=by
 rcases Nat.lt_trichotomy i j with a|a|a
 .exact absurd e (ab3.1 h _ _ _ _ a)
 .exact a
 .exact absurd e.symm (ab3.1 h _ _ _ _ a)
def fy:List Int->List Int->List Int
 | [],b=>b
 | a,[]=>a
 | x::a,y::b=>if x<y then x::fy a (y::b) else if y<x then y::fy (x::a) b else x::fy a b
termination_by a b=>a.length+b.length
def zxX(a:List Int):fy a []=a:=by cases a<;>simp[fy]
def BC{v:Int}(a b:List Int):v∈fy a b↔v∈a\/v∈b:=by
 fun_induction fy a b with
 | case1 b=>simp
 | case2 a h=>simp
 | case3 x a y b h c =>
  simp only[aah,c];constructor
  .rintro(h|h|h|h)<;>simp[h]
  .rintro((h|h)|h|h)<;>simp[h]
 | case4 x a y b h d c =>
  simp only[aah,c];constructor
  .rintro(h|(h|h)|h)<;>simp[h]
  .rintro((h|h)|h|h)<;>simp[h]
 | case5 x a y b h d c =>
  have:x=y:=an
  subst this;simp[c];constructor
  .rintro(h|h|h)<;>simp[h]
  .rintro((h|h)|h|h)<;>simp[h]
def zAU(a b:List Int)(g:Up a)(i:Up b):Up (fy a b):=by
 fun_induction fy a b with
 | case1 b=>exact i
 | case2 a h=>exact g
 | case3 x a y b h j =>
  have d:=aap.1 g;have f:=aap.1 i;refine aap.2 ⟨λv k=>?_,j d.2 i⟩
  rcases(BC _ _).1 k with c|c
  .exact d.1 v c
  .rcases aah.1 c with e|e
   .omega
   .have:=f.1 v e;omega
 | case4 x a y b h l j =>
  have d:=aap.1 g;have f:=aap.1 i;refine aap.2 ⟨λv k=>?_,j g f.2⟩
  rcases(BC _ _).1 k with c|c
  .rcases aah.1 c with e|e
   .omega
   .have:=d.1 v e;omega
  .exact f.1 v c
 | case5 x a y b h l j =>
  have d:=aap.1 g;have f:=aap.1 i;refine aap.2 ⟨λv k=>?_,j d.2 f.2⟩
  rcases(BC _ _).1 k with c|c
  .exact d.1 v c
  .have:=f.1 v c;omega
def zxY(a b:List Int):(fy a b).length<=a.length+b.length:=by fun_induction fy a b<;>simp_all<;>omega
def K7:∀{a b:List Int},Up a->Up b->(∀v∈a,v∈b)->a.Sublist b
 | [],_,_,_,_=>adD _
 | x::a,[],_,_,h=>absurd (h x ir) ir
 | x::a,y::b,i,j,h=>by
  have d:=aap.1 i;have f:=aap.1 j
  by_cases e:x=y
  .subst e;refine List.Sublist.cons_cons _ (K7 d.2 f.2 λv c=>?_)
   rcases aah.1 (h v (by simp[c])) with e|e
   .have:=d.1 v c;omega
   .exact e
  .refine List.Sublist.cons _ (K7 i f.2 λv c=>?_)
   rcases aah.1 (h v c) with e'|e'
   .subst e'
    rcases aah.1 c with e2|e2
    .exact absurd e2.symm e
    .rcases aah.1 (h x ir) with g|g
     .exact absurd g e
     .have:=d.1 v e2;have:=f.1 x g;omega
   .exact e'
termination_by a b=>a.length+b.length
def idx:List Int->(Int->Bool)->Nat
 | [],_=>0
 | v::vs,p=>(p v).toNat+2*idx vs p
def Ge:∀(vs:List Int) (p:Int->Bool),idx vs p<2^vs.length
 | [],_=>by simp[idx]
 | v::vs,p=>by
  have:=Ge vs p
  have a:(p v).toNat<=1:=by cases p v<;>simp
  simp only[idx,aaq,abb];omega
def Ym(p:Int->Bool):∀(a b:List Int),idx (a++b) p=idx a p+2^a.length*idx b p
 | [],b=>by simp[idx]
 | v::a,b=>by
  simp only[aa_,idx,Ym p a b,aaq,abb]
  have:2^a.length*2*idx b p=2*(2^a.length*idx b p):=by rw[abX (2^a.length) 2,ade]
  omega
def Gf(p:Int->Bool):∀(vs:List Int) (j:Nat),(idx vs p).testBit j=(vs[j]?.map p).getD false
 | [],j=>by simp[idx]
 | v::vs,0=>by
  simp only[idx,Nat.testBit_zero,acT,abT,abJ]
  cases p v<;>simp<;>omega
 | v::vs,j+1=>by
  simp only[ab8,<-Gf p vs j,idx,ace]
  congr 1
  cases p v<;>simp<;>omega
def Ob{p q:Int->Bool}:∀{vs:List Int},(∀v∈vs,p v=q v)->idx vs p=idx vs q
 | [],_=>rfl
 | v::vs,h=>by simp only[idx,h v ir,Ob (vs:=vs) (λu a=>h u (List.mem_cons_of_mem _ a))]
def jb(vs:List Int)(n:Nat):Int->Bool:=λv=>n.testBit (vs.idxOf v)
def Yn{vs:List Int}(h:vs.Nodup){n:Nat}(a:n<2^vs.length):idx vs (jb vs n)=n:=by
 refine aaY λj=>?_;rw[Gf]
 by_cases b:j<vs.length
 .rw[aae b];simp only[abT,abJ,jb];rw[List.Nodup.idxOf_getElem h]
 .rw[abp an];simp only[Option.map_none,Option.getD_none];rw[abe (aav a (aaj ah9 an))]
def zxZ{vs:List Int}{v:Int}(a:v∈vs)(p:Int->Bool):jb vs (idx vs p) v=p v:=by rw[jb,Gf,aae (List.idxOf_lt_length_of_mem a)];simp
def flip(p:Int->Bool)(v:Int):Int->Bool:=λu=>if u=v then !p u else p u
def zvB{vs:List Int}(h:vs.Nodup)(p:Int->Bool){j:Nat}{v:Int}(a:vs[j]?=some v):idx vs (flip p v)=idx vs p ^^^ 2^j:=by
 have d:j<vs.length:=by
  rcases acS j vs.length with h|h
  .exact h
  .rw[abp h] at a;cases a
 refine aaY λi=>?_;rw[adL,Gf,Gf,acw]
 by_cases hi:i<vs.length
 .rw[aae hi];simp only[abT,abJ,flip];rw[aae d] at a;cases a
  by_cases b:i=j
  .subst b;simp
  .have:vs[i]≠vs[j]:=λe=>b (Yk h e);have c:j≠i:=λe=>b e.symm;simp[this,c]
 .rw[abp an]
  have c:j≠i:=an
  simp[c]
def dm(vs:List Int)(tab:List Nat)(p:Int->Bool):Nat:=tab.getD (idx vs p) 0
def zx0{vs:List Int}{tab:List Nat}{p q:Int->Bool}(h:∀v∈vs,p v=q v):dm vs tab p=dm vs tab q:=by rw[dm,dm,Ob h]
def zGb{vs:List Int}{tab:List Nat}(a:vs.Nodup)(c:tab.length=2^vs.length){n:Nat}(h:n<tab.length):tab[n]=dm vs tab (jb vs n):=by have b:=Yn a (n:=n) an;simp[dm,b,aas,h]
def dep(f:(Int->Bool)->Nat)(v:Int):Prop:=∃p,f p≠f (flip p v)
def So{vs:List Int}{tab:List Nat}(h:vs.Nodup)(d:tab.length=2^vs.length){j:Nat}{v:Int}(b:vs[j]?=some v):Aq tab j=true↔dep (dm vs tab) v:=by
 have get (n:Nat) (a:n<tab.length):tab[n]?=some (tab.getD n 0):=by rw[aae a,aas,aae a];rfl
 have f:j<vs.length:=by
  rcases acS j vs.length with h|h
  .exact h
  .rw[abp h] at b;cases b
 simp only[Aq,adE,adU,bne_iff_ne,ne_eq,dep,dm];constructor
 .rintro⟨n,a,g⟩;refine⟨jb vs n,λe=>g ?_⟩;rw[zvB h _ b,Yn h an] at e;rw[get n a,get _ (by rw[d] at a |-;exact abA a (abf ah9 f)),e]
 .rintro⟨p,i⟩
  have c:idx vs p<tab.length:=by rw[d];exact Ge vs p
  refine⟨idx vs p,c,λe=>i ?_⟩;rw[zvB h _ b];rw[get _ c,get _ (by rw[d] at c |-;exact abA c (abf ah9 f))] at e;exact abc.inj e
def Right.Oc{vs:List Int}{tab:List Nat}(h:Right vs tab){v:Int}(b:v∈vs):dep (dm vs tab) v:=by obtain⟨j,a,rfl⟩:=ab1.1 b;obtain⟨w,d,_,_,_,c⟩:=h.2.2 j a;exact(So h.up.nodup h.2.1 (aae a)).1 c
def Right.of{vs:List Int}{tab:List Nat}(f:vs.length<=4)(b:tab.length=2^vs.length)(c:Up vs)(d:∀v∈vs,0<=v/\v<34)(hd:∀v∈vs,dep (dm vs tab) v):Right vs tab:=by refine⟨f,b,λj a=>⟨vs[j],aae a,(d _ (aak a)).1,(d _ (aak a)).2,?_,(So c.nodup b (aae a)).2 (hd _ (aak a))⟩⟩;intro u g e;rw[aae an] at e;cases e;exact ab3.1 c _ _ _ _ an
def zx1{vs:List Int}{tab:List Nat}{v:Int}(a:v∉vs):¬dep (dm vs tab) v:=by rintro⟨p,b⟩;refine b ?_;simp only[dm];rw[Ob (p:=p) (q:=flip p v) λu c=>?_];have:u≠v:=λe=>a (e▸c);simp[flip,this]
def zFt{vs a:List Int}{tab c:List Nat}(h:Right vs tab)(d:Right a c)(f:∀p,dm vs tab p=dm a c p):vs=a/\tab=c:=by
 have g:dm vs tab=dm a c:=funext f
 have b:vs=a:=zAT h.up d.up λv=>by
  constructor
  .intro b;have:=h.Oc b;rw[g] at this;exact Decidable.byContradiction λe=>zx1 e this
  .intro b;have:=d.Oc b;rw[<-g] at this;exact Decidable.byContradiction λe=>zx1 e this
 subst b;refine⟨rfl,adG (by rw[h.2.1,d.2.1]) λn i j=>?_⟩;have:=f (jb vs n);simp only[dm] at this;rw[Yn h.up.nodup (by rw[<-h.2.1];exact i)] at this;simpa[aas,aae i,aae j] using this
def qC(tab:List Nat)(j:Nat):List Nat:=((abk tab.length).filter λn=>!n.testBit j).map λn=>tab.getD n 0
def ins(j m:Nat):Nat:=2^(j+1)*(m/2^j)+m%2^j
def Sp(j m i:Nat):(ins j m).testBit i=if i<j then m.testBit i else if i=j then false else m.testBit (i-1):=by
 have b:m%2^j<2^(j+1):=aav (abg _ (abB j)) (aaj ah9 an);rw[ins,abi _ b]
 by_cases h:i<j
 .rw[if_pos an,if_pos h,ab9];simp[h]
 .rw[if_neg h]
  by_cases a:i=j
  .subst a;rw[if_pos an,if_pos rfl,ab9];simp
  .rw[if_neg an,if_neg a,ab_]
   congr 1;omega
def zH0{j k m:Nat}(b:j<=k)(a:m<2^k):ins j m<2^(k+1):=by
 refine acR _ λi hi=>?_;rw[Sp,if_neg an];split
 .rfl
 .exact abe (aav a (aaj ah9 an))
def zDo{j a b:Nat}(h:a<b):ins j a<ins j b:=by
 have f:a/2^j<=b/2^j:=Nat.div_le_div_right (Nat.le_of_lt h);have d:=adP a (2^j);have g:=adP b (2^j);have i:=abg a (abB j);have k:=abg b (abB j);simp only[ins,abb]
 rcases acS (a/2^j) (b/2^j) with c|c
 .have:2^j*(a/2^j+1)<=2^j*(b/2^j):=Nat.mul_le_mul_left _ c
  have l:2^j*2*(a/2^j)=2*(2^j*(a/2^j)):=by rw[abX (2^j) 2,ade]
  have m:2^j*2*(b/2^j)=2*(2^j*(b/2^j)):=by rw[abX (2^j) 2,ade]
  rw[ad4] at this;omega
 .have e:a/2^j=b/2^j:=an
  rw[e] at d |-;omega
def zDp{j n:Nat}(h:n.testBit j=false):∃m,ins j m=n/\(∀k,j<=k->n<2^(k+1)->m<2^k):=by
 refine⟨2^j*(n/2^(j+1))+n%2^j,?_,?_⟩
 .refine aaY λi=>?_;have a:n%2^j<2^j:=abg _ (abB j);rw[Sp,abi _ a,abi _ a]
  by_cases b:i<j
  .rw[if_pos b,if_pos b,ab9];simp[b]
  .rw[if_neg b]
   by_cases c:i=j
   .subst c;simp[h]
   .rw[if_neg c,if_neg an,ab_]
    congr 1;omega
 .intro k e d;have a:n%2^j<2^j:=abg _ (abB j);refine acR _ λi hi=>?_;rw[abi _ a,if_neg an,ab_];exact abe (aav d (aaj ah9 an))
def zAV:∀{a b:List Nat},a.Pairwise (·<·)->b.Pairwise (·<·)->(∀v,v∈a↔v∈b)->a=b
 | [],[],_,_,_=>rfl
 | [],y::b,_,_,h=>absurd ((h y).2 ir) ir
 | x::a,[],_,_,h=>absurd ((h x).1 ir) ir
 | x::a,y::b,g,i,h=>by
  have d:=aap.1 g;have f:=aap.1 i
  have j:x=y:=by
   rcases aah.1 ((h x).1 ir) with e|e
   .exact e
   rcases aah.1 ((h y).2 ir) with e'|e'
   .exact e'.symm
   have:=f.1 x e;have:=d.1 y e';omega
  subst j;rw[zAV d.2 f.2 λv=>?_];constructor
  .intro c;have k:=d.1 v c
   rcases aah.1 ((h v).1 (by simp[c])) with e|e
   .omega
   .exact e
  .intro c;have k:=f.1 v c
   rcases aah.1 ((h v).2 (by simp[c])) with e|e
   .omega
   .exact e
def zAW{k j:Nat}(b:j<=k):((abk (2^(k+1))).filter λn=>!n.testBit j)=(abk (2^k)).map (ins j):=by
 refine zAV (List.Pairwise.filter _ ac0) ?_ λn=>?_
 .rw[List.pairwise_map];exact ac0.imp λh=>zDo h
 .simp only[ab4,adU,aaE,Bool.not_eq_true'];constructor
  .rintro⟨c,d⟩;obtain⟨m,a,e⟩:=zDp d;exact⟨m,e k b c,a⟩
  .rintro⟨m,a,rfl⟩;refine⟨zH0 b a,?_⟩;rw[Sp,if_neg an,if_pos rfl]
def zDq{tab:List Nat}{k j:Nat}(a:tab.length=2^(k+1))(b:j<=k):(qC tab j).length=2^k:=by rw[qC,a,zAW b];simp
def zDr{tab:List Nat}{k j m:Nat}(a:tab.length=2^(k+1))(b:j<=k)(c:m<2^k):(qC tab j).getD m 0=tab.getD (ins j m) 0:=by rw[qC,a,zAW b];simp[aas,c]
def zGc{vs:List Int}{tab:List Nat}(h:vs.Nodup)(d:tab.length=2^vs.length){j:Nat}(f:j<vs.length)(g:Aq tab j=false)(p:Int->Bool) :
  dm (vs.eraseIdx j) (qC tab j) p=dm vs tab p:=by
 obtain⟨k,o⟩:∃k,vs.length=k+1:=⟨vs.length-1,an⟩
 have a:(vs.eraseIdx j).length=k:=by rw[acD f];omega
 have r:idx (vs.eraseIdx j) p<2^k:=by have:=Ge (vs.eraseIdx j) p;rwa[a] at this
 have l:vs[j]?=some vs[j]:=aae f
 have s:¬dep (dm vs tab) vs[j]:=λhd=>by rw[(So h d l).2 hd] at g;cases g
 have b:ins j (idx (vs.eraseIdx j) p)=idx vs (λu=>if u=vs[j] then false else p u):=by
  refine aaY λi=>?_;rw[Sp,Gf,Gf,Gf,ac1,ac1]
  by_cases c:i<j
  .rw[if_pos c,if_pos c];rw[aae an]
   have:vs[i]≠vs[j]:=λe=>by have:=Yk h e;omega
   simp[this]
  .rw[if_neg c]
   by_cases m:i=j
   .subst m;rw[if_pos rfl,l];simp
   .rw[if_neg m,if_neg an,show i-1+1=i by omega]
    by_cases t:i<vs.length
    .rw[aae t]
     have:vs[i]≠vs[j]:=λe=>by have:=Yk h e;omega
     simp[this]
    .rw[abp an];simp
 simp only[dm];rw[zDr (by rw[d,o]) an r,b];show dm vs tab _=dm vs tab p
 by_cases n:p vs[j]=false
 .simp only[dm];rw[Ob (q:=p)];intro u _
  by_cases e:u=vs[j]
  .simp[e,n]
  .simp[e]
 .have:dm vs tab p=dm vs tab (flip p vs[j]):=Decidable.byContradiction λe=>s ⟨p,e⟩;rw[this];simp only[dm];rw[Ob (q:=flip p vs[j])];intro u _
  by_cases e:u=vs[j]
  .simp only[flip,e,if_true];cases v:p vs[j]
   .exact absurd v n
   .rfl
  .simp[flip,e]
def fN(f:Nat->Bool):Nat->Nat
 | 0=>0
 | k+1=>fN f k+2^k*(f k).toNat
def vV(f:Nat->Bool):∀k,fN f k<2^k
 | 0=>by simp[fN]
 | k+1=>by
  have:=vV f k;simp only[fN,abb]
  cases f k<;>simp<;>omega
def BD(f:Nat->Bool)(i:Nat):∀k,(fN f k).testBit i=(decide (i<k)&&f i)
 | 0=>by simp[fN]
 | k+1=>by
  rw[fN,abI,abi _ (vV f k)]
  by_cases h:i<k
  .rw[if_pos h,BD f i k];simp[h,show i<k+1 by omega]
  .rw[if_neg h]
   by_cases a:i=k
   .subst a;simp
    cases f i<;>simp
   .have b:¬i<k+1:=an
    simp only[b,decide_false,ac3];have:(f k).toNat<2^(i-k):=aav (by cases f k<;>simp:(f k).toNat<2^1) (aaj ah9 an);exact abe this
def Sq{f g:Nat->Bool}:∀{k:Nat},(∀i,i<k->f i=g i)->fN f k=fN g k
 | 0,_=>rfl
 | k+1,h=>by rw[fN,fN,Sq λi hi=>h i an,h k an]
def Sr{w:Nat}(h:w<2^32):fN w.testBit 32=w:=by
 refine aaY λi=>?_;rw[BD]
 by_cases hi:i<32
 .simp[hi]
 .simp only[hi,decide_false,ac3];exact(abe (aav h (aaj ah9 an))).symm
def val(vs:List Int)(tab:List Nat)(r:Int->Nat):Nat:=fN (λi=>(dm vs tab λv=>(r v).testBit i).testBit i) 32
def CT(k:Nat):Nat:=if k<16 then 2^(k+2) else 0
def zvC[dh G](k:Nat):FP G 166 [.int .u32 (k:Int)] (.int .u32 (CT k:Nat)):=by
 refine bw dh.ahm (aab rfl) ?_;simp
 by_cases h:16<=k
 .simp[show(16:Int)<=(k:Int) from an,CT,show¬k<16 from an]
 .have b:k<16:=an
  have c:jz .u32 4 (k:Int)=((4*2^k%4294967296:Nat):Int):=N5 (a:=4) an
  have d:4*2^k%4294967296=2^(k+2):=by
   rw[aaQ]
   .rw[ad5,abX]
   .have:2^k<=2^15:=aaj ah9 an;omega
  simp(disch:=omega)[D5,kD,c,d,CT,b,-aaf]
def uK(op:Int):Bool:=(bf op).2.1||decide (op∈[29,45,61,77])
def K9{op:Int}(h:(bf op).2.2=true):op∈[4,20,36,52,68,84,100,116,164,12,28,44,60,76,92,108,124,172]:=by
 unfold bf at h;split at h
 .rename_i a;simp only[aah,aa1,or_false] at a |-;omega
 .split at h
  .rename_i a;simp only[aah,aa1,or_false] at a |-;omega
  .cases h
def zH1[aE G][dh G](x:af):FP G 167 [IV x] (.bool (uK x.op)):=by
 refine bw dh.ahn (aab rfl) ?_;have c:=K5 (G:=G) x;simp[IV,af.cs] at c |-;refine aw c ?_;unfold uK;cases h:(bf x.op).2.2
 .have f:(bf x.op).2.1=false:=by
   unfold bf at h |-;split at h
   .cases h
   .split at h
    .cases h
    .rename_i a b;rw[if_neg a,if_neg b]
  simp[f]
  by_cases a:x.op=29
  .simp[a]
  by_cases b:x.op=45
  .simp[b]
  by_cases d:x.op=61
  .simp[d]
  by_cases e:x.op=77
  .simp[e]
  simp[a,b,d,e,aG]
 .have a:=K9 h
  have b:∀p∈[4,20,36,52,68,84,100,116,164,12,28,44,60,76,92,108,124,172],decide (p∈[29,45,61,(77:Int)])=false:=by decide
  simp;have:=b _ a;simp at this;simp[this]
def kX(x:af)(part:Nat):Bool :=
 if part=0 then(bf x.op).2.2||aX x.op||decide (x.op∈[2,7,132,22])
 else if part=1 then uK x.op||decide (x.op∈[3,135])
 else decide ((x.op=96\/x.op=97)/\x.k+2=part)
def mg(x:af)(part:Nat):Bool :=
 if part=0 then(bf x.op).2.2||decide (x.op∈[0,32,96,135,132])
 else if part=1 then decide (x.op∈[1,97,7])
 else decide ((x.op=2\/x.op=3)/\x.k+2=part)
def Gg(x:af):Nat:=fN (kX x) 18
def D_(x:af):Nat:=fN (mg x) 18
def zx2{f:Nat->Bool}{m:Nat}(h:∀i,i<18->m.testBit i=f i)(a:m<2^18):fN f 18=m:=by
 refine aaY λi=>?_;rw[BD]
 by_cases hi:i<18
 .simp[hi,h i hi]
 .simp only[hi,decide_false,ac3];exact(abe (aav a (aaj ah9 an))).symm
def zDs(k:Nat):CT k<2^18:=by
 unfold CT;split
 .have:2^(k+2)<=2^17:=aaj ah9 an;omega
 .decide
def zAX(k i:Nat)(hi:i<18):(CT k).testBit i=decide (k+2=i):=by
 unfold CT;split
 .rw[acw]
 .simp;omega
def Yo(m i:Nat)(a:m<4):m.testBit i=if i=0 then decide (m%2=1) else if i=1 then decide (2<=m) else false:=by
 match m,a with
 | 0,_=>simp
 | 1,_ => 
  match i with
  | 0=>rfl
  | i+1=>simp[ace]
 | 2,_ =>
  match i with
  | 0=>rfl
  | 1=>rfl
  | i+2=>simp[ace]
 | 3,_ =>
  match i with
  | 0=>rfl
  | 1=>rfl
  | i+2=>simp[ace]
def Iu{f:Nat->Bool}{m:Nat}(c:m<4)(d:f 0=decide (m%2=1))(e:f 1=decide (2<=m))(g:∀i,2<=i->i<18->f i=false):fN f 18=m:=by
 refine zx2 (λi hi=>?_) an;rw[Yo m i c]
 by_cases a:i=0
 .subst a;simp[d]
 .by_cases b:i=1
  .subst b;simp[e]
  .simp[a,b,g i an hi]
def ztA{f:Nat->Bool}{k:Nat}(c:f 0=false)(d:f 1=false)(e:∀i,2<=i->i<18->f i=decide (k+2=i)):fN f 18=CT k:=by
 refine zx2 (λi hi=>?_) (zDs k);rw[zAX k i hi]
 by_cases a:i=0
 .subst a;simp[c]
 .by_cases b:i=1
  .subst b;simp[d]
  .rw[e i an hi]
def zNe{op:Int}(h:(bf op).2.1=true):(bf op).2.2=true:=by
 unfold bf at h |-;split
 .rfl
 .split
  .rfl
  .rename_i a b;rw[if_neg a,if_neg b] at h;cases h
def zGd[aE G][dh G](x:af):FP G 168 [IV x] (.int .u32 (Gg x:Nat)):=by
 refine bw dh.aho (aab rfl) ?_;have q:=K5 (G:=G) x;have r:=zH1 (G:=G) x;have s:=zL (G:=G) x;simp[IV,af.cs] at q r s |-;refine aw q ?_
 have p:(x.op=96\/x.op=97)->(bf x.op).2.2=false/\uK x.op=false/\aX x.op=false:=by rintro(h|h)<;>rw[h]<;>decide
 have A:(x.op=3\/x.op=135)->(bf x.op).2.2=false/\uK x.op=false/\aX x.op=false:=by rintro(h|h)<;>rw[h]<;>decide
 by_cases d:x.op=96\/x.op=97
 .have a:=p d
  have f:Gg x=CT x.k:=ztA
   (by rcases d with h|h<;>(have a:=a;rw[h] at a;simp[kX,a.1,a.2.2,h])) (by rcases d with h|h<;>(have a:=a;rw[h] at a;simp[kX,a.2.1,h]))
   (λi g B=>by simp[kX,show¬i=0 from an,show¬i=1 from an,d])
  rcases d with h|h<;>simp[h,aG]<;>refine aw (zvC x.k) ?_<;>simp[f]
 have t:¬x.op=96:=λh=>d (.inl h);have u:¬x.op=97:=λh=>d (.inr h)
 have hi:∀i,2<=i->i<18->kX x i=false:=λi g B=>by simp[kX,show¬i=0 from an,show¬i=1 from an,t,u]
 by_cases e:x.op=3\/x.op=135
 .have a:=A e;have f:Gg x=2:=Iu ah9 (by rcases e with h|h<;>(have a:=a;rw[h] at a;simp[kX,a.1,a.2.2,h])) (by rcases e with h|h<;>simp[kX,h]) hi
  rcases e with h|h<;>simp[h,aG,f]
 have v:¬x.op=3:=λh=>e (.inl h);have w:¬x.op=135:=λh=>e (.inr h);simp[t,u,v,w,aG];refine aw r ?_;cases hb:uK x.op
 case true =>
  have j:kX x 0=true:=by
   simp only[uK,Bool.or_eq_true,decide_eq_true_eq] at hb
   rcases hb with hb|hb
   .simp[kX,zNe hb]
   .have:aX x.op=true:=by simp only[aX,decide_eq_true_eq];simp only[aah,aa1,or_false] at hb |-;omega
    simp[kX,this]
  have f:Gg x=3:=Iu ah9 (by rw[j];rfl) (by simp[kX,hb]) hi;simp[f]
 have g:kX x 1=false:=by simp[kX,hb,v,w]
 have c:∀b:Bool,kX x 0=b->Gg x=b.toNat:=by
  intro b j;cases b
  .exact Iu ah9 (by rw[j];rfl) (by rw[g];rfl) hi
  .exact Iu ah9 (by rw[j];rfl) (by rw[g];rfl) hi
 cases y:(bf x.op).2.2
 case true=>simp[c true (by simp[kX,y])]
 simp;refine aw s ?_;cases z:aX x.op
 case true=>simp[c true (by simp[kX,z])]
 by_cases l:x.op=2
 .simp[l,c true (by simp[kX,l])]
 by_cases m:x.op=7
 .simp[m,c true (by simp[kX,m])]
 by_cases n:x.op=132
 .simp[n,c true (by simp[kX,n])]
 by_cases o:x.op=22
 .simp[o,c true (by simp[kX,o])]
 simp[l,m,n,o,aG,c false (by simp[kX,y,z,l,m,n,o])]
def zGe[aE G][dh G](x:af):FP G 169 [IV x] (.int .u32 (D_ x:Nat)):=by
 refine bw dh.ahp (aab rfl) ?_;have z:=K5 (G:=G) x;simp[IV,af.cs] at z |-;refine aw z ?_
 have l:∀(j:mg x 0=true) (c:mg x 1=false) (d:¬x.op=2) (e:¬x.op=3),D_ x=1:=λj c d e =>
  Iu ah9 (by rw[j];rfl) (by rw[c];rfl) λi a b=>by simp[mg,show¬i=0 from an,show¬i=1 from an,d,e]
 cases w:(bf x.op).2.2
 case true =>
  have A:=K9 w
  have f:∀p∈[4,20,36,52,68,84,100,116,164,12,28,44,60,76,92,108,124,(172:Int)],decide (p∈[1,97,(7:Int)])=false/\¬p=2/\¬p=3:=by decide
  have k:=f _ A;have:D_ x=1:=l (by simp[mg,w]) (by simp only[mg];simp;simpa using k.1) k.2.1 k.2.2;simp[this]
 simp
 have CU:∀p∈[0,32,96,135,(132:Int)],x.op=p->D_ x=1:=by
  intro p m B
  have f:∀p∈[0,32,96,135,(132:Int)],decide (p∈[1,97,(7:Int)])=false/\¬p=2/\¬p=3:=by decide
  have k:=f p m;rw[<-B] at k m;exact l (by simp only[mg];simp at m |-;simp[m]) (by simp only[mg];simp;simpa using k.1) k.2.1 k.2.2
 by_cases n:x.op=0
 .simp[n,CU 0 ah9 n]
 by_cases o:x.op=32
 .simp[o,CU 32 ah9 o]
 by_cases q:x.op=96
 .simp[q,CU 96 ah9 q]
 by_cases r:x.op=135
 .simp[r,CU 135 ah9 r]
 by_cases s:x.op=132
 .simp[s,CU 132 ah9 s]
 have j:mg x 0=false:=by simp[mg,w,n,o,q,r,s]
 have two:∀(c:mg x 1=true) (d:¬x.op=2) (e:¬x.op=3),D_ x=2:=λc d e =>
  Iu ah9 (by rw[j];rfl) (by rw[c];rfl) λi a b=>by simp[mg,show¬i=0 from an,show¬i=1 from an,d,e]
 by_cases t:x.op=1
 .simp[t,aG,two (by simp[mg,t]) an an]
 by_cases u:x.op=97
 .simp[u,aG,two (by simp[mg,u]) an an]
 by_cases v:x.op=7
 .simp[v,aG,two (by simp[mg,v]) an an]
 have c:mg x 1=false:=by simp[mg,t,u,v]
 by_cases g:x.op=2\/x.op=3
 .have y:D_ x=CT x.k:=ztA j c (λi a b=>by simp[mg,show¬i=0 from an,show¬i=1 from an,g])
  rcases g with h|h<;>simp[h,aG]<;>refine aw (zvC x.k) ?_<;>simp[y]
 .have d:¬x.op=2:=λh=>g (.inl h);have e:¬x.op=3:=λh=>g (.inr h)
  have y:D_ x=0:=Iu ah9 (by rw[j];rfl) (by rw[c];rfl) λi a b=>by simp[mg,show¬i=0 from an,show¬i=1 from an,d,e]
  simp[n,o,q,r,s,t,u,v,d,e,aG,y]
def FV(vars:List Int)(tab:List Nat):V:=.agg [.vs (ints .i64 vars) .no,.vs (aq .u32 tab) .no]
def Yq(h:bJ G)(vars:List Int)(tab:List Nat)(j:Nat)(s:j<10)(d:tab.length<=100)(c:∀n,n<tab.length->n ^^^ 2^j<tab.length) :
  FP G 100 [FV vars tab,.int .i64 j] (.bool (Aq tab j)):=by
 refine bw h.aef (aab rfl) ?_;simp[FV]
 refine aO tab.length (λn=>[(1,.int .i64 j),(2,.ptr 0 0),(8,.int .i64 tab.length),(9,.int .i64 n)])
  (λ_=>[some (.cells [.vs (ints .i64 vars) .no,.vs (aq .u32 tab) .no])]) (λn=>∀m,m<n->tab[m]?=tab[m ^^^ 2^j]?) ?_ ?_
 .simp[av,ak]
 intro n t e
 by_cases a:n<tab.length
 .have f:tab[n]?=some tab[n]:=aae a;have g:tab[n ^^^ 2^j]?=some (tab[n ^^^ 2^j]'(c n a)):=aae (c n a);have i:2^j<2^63:=abf ah9 an;have k:jz .i64 1 (j:Int)=((2^j:Nat):Int):=vS an;have l:vB .i64 (n:Int) ((2^j:Nat):Int)=((n ^^^ 2^j:Nat):Int):=zNa an i
  have o:¬(j:Int)<0:=an
  have p:aC .i64 (n:Int) 1=((n+1:Nat):Int):=XW a an;simp[a,k,l,o,c n a,-aaf,-aaa];rw[XE];split
  .rename_i b;simp at b;simp only[zMX,zDg,zM4,Ws];simp[Aq];exact⟨n,a,by rw[f,g];simpa using b⟩
  .rename_i b;simp at b;simp[a,p,av,ak,-aaa];intro m u
   by_cases q:m=n
   .subst q;rw[f,g,b]
   .exact e m an
 .have r:n=tab.length:=an
  subst r;simp[Aq];exact e
def Yr{vars:List Int}{tab:List Nat}(h:vars.length<=4)(b:tab.length=2^vars.length){j:Nat}(c:j<vars.length):∀n,n<tab.length->n ^^^ 2^j<tab.length:=by intro n a;rw[b] at a |-;exact abA a (abf ah9 c)
def CV{vars:List Int}{tab:List Nat}(h:vars.length<=4)(a:tab.length=2^vars.length):tab.length<=16:=by rw[a];exact aaj ah9 h
def yJ(l:bJ G)(vars:List Int)(tab:List Nat)(a:vars.length<=9223372036854775807)(A:tab.length<=9223372036854775807):FP G 101 [FV vars tab] (.bool (uJ vars tab)):=by
 refine bw l.aeg (aab rfl) ?_;simp[FV]
 by_cases e:vars.length<=4
 .by_cases b:tab.length=2^vars.length
  .have B:=CV e b;simp(disch:=omega)[kD,vS,b,-aaf]
   refine aO vars.length (λn=>[(1,.ptr 0 0),(20,.vs (ints .i64 vars) .no),(21,.int .i64 vars.length),(22,.int .i64 n)])
    (λ_=>[some (.cells [.vs (ints .i64 vars) .no,.vs (aq .u32 tab) .no])]) (λn=>∀m,m<n->BA vars tab m) ?_ ?_
   .simp[av,ak]
   intro n C o
   by_cases c:n<vars.length
   .have f:¬BA vars tab n->uJ vars tab=false:=λh=>by simp only[uJ,decide_eq_false_iff_not];exact λs=>h (s.2.2 n c)
    have t:BA vars tab n->∀m,m<n+1->BA vars tab m:=λh m D=>by
     by_cases w:m=n
     .subst w;exact h
     .exact o m an
    have g:vars[n]?=some vars[n]:=aae c
    by_cases E:vars[n]<0
    .simp(disch:=omega)[nY,bC];exact f (by rintro⟨v,a,k,_⟩;rw[g] at a;cases a;omega)
    by_cases p:vars[n]<34
    .by_cases hd:0<n
     .have q:vars[n-1]?=some vars[n-1]:=aae an
      by_cases r:vars[n-1]<vars[n]
      .simp(disch:=omega)[nY,D5,bC,kD,gV,N4,-aaa];refine aw (Yq l vars tab n an an (Yr e b c)) ?_
       cases i:Aq tab n<;>simp(disch:=omega)[c,av,ak,bA,-aaa]
       .exact f (by rintro⟨v,a,k,_,_,j⟩;rw[i] at j;cases j)
       .exact t ⟨_,g,an,p,λu _ d=>by rw[q] at d;cases d;exact r,i⟩
      .simp(disch:=omega)[nY,D5,bC,kD,gV,N4,-aaa];exact f (by rintro⟨v,a,k,_,d,_⟩;rw[g] at a;cases a;exact r (d _ hd q))
     .have x:n=0:=an
      subst x;simp(disch:=omega)[D5,kD,gV,-aaa];refine aw (Yq l vars tab 0 an an (Yr e b c)) ?_
      cases i:Aq tab 0<;>simp(disch:=omega)[c,av,ak,eB]
      .exact f (by rintro⟨v,a,k,_,_,j⟩;rw[i] at j;cases j)
      .exact⟨_,g,an,p,λu d=>absurd d an,i⟩
    .simp(disch:=omega)[nY,bC,kD];exact f (by rintro⟨v,a,k,_⟩;rw[g] at a;cases a;omega)
   .have y:n=vars.length:=an
    subst y
    have:uJ vars tab=true:=by simp only[uJ,decide_eq_true_eq];exact⟨e,b,o⟩
    simp[this]
  .have z:¬((tab.length:Int)=((2^vars.length:Nat):Int)):=by simp only[Int.ofNat_inj];exact b
   simp(disch:=omega)[kD,vS,ki z,-aaf];simp[uJ,Right,b]
 .simp(disch:=omega)[bC];simp[uJ,Right,e]
def cC(kind:Int)(a b:Nat):Nat×Bool :=
 if kind=4 then((a+b)%4294967296,true) else if kind=20 then((a+4294967296-b)%4294967296,true) else if kind=36 then(a*b%4294967296,true)
 else if kind=52 then(if b=0 then(0,false) else(a/b,true)) else if kind=68 then(a ||| b,true) else if kind=84 then(a &&& b,true)
 else if kind=100 then(a*2^(b%32)%4294967296,true) else if kind=116 then(a/2^(b%32),true) else if kind=164 then(a ^^^ b,true) else(0,false)
def Gh(n:Int):IntKind.u32.wrap n=n%4294967296:=rfl
def K_(g:dT G)(kind:Int)(a b:Nat)(d:a<4294967296)(c:b<4294967296) :
  FP G 107 [.int .i64 kind,.int .u32 a,.int .u32 b] (.bc [.int .u32 ((cC kind a b).1:Nat),.bool (cC kind a b).2]):=by
 refine bw g.ad9 (aab rfl) ?_;simp
 by_cases h:kind=4
 .subst h;simp[cC];simp[aC,Gh]
 by_cases h:kind=20
 .subst h;simp[cC];simp[bO,Gh];omega
 by_cases h:kind=36
 .subst h;simp[cC];simp[dS,Gh]
 by_cases h:kind=52
 .subst h
  by_cases e:b=0
  .subst e;simp[cC]
  .simp(disch:=omega)[cC,e,aG];simp[X0 d e]
 by_cases h:kind=68
 .subst h;simp[cC];exact zH d c
 by_cases h:kind=84
 .subst h;simp[cC];exact Ir d c
 by_cases h:kind=100
 .subst h
  have f:b%32<=32:=an
  simp(disch:=omega)[cC,zFr c,N5 f,kD,-aai]
 by_cases h:kind=116
 .subst h
  have f:b%32<=32:=an
  simp(disch:=omega)[cC,zFr c,Bu f,kD,-aai]
 by_cases h:kind=164
 .subst h;simp[cC];exact XV d c
 simp(disch:=omega)[cC,aG, *]
def zvE(a:bJ G)(c:Nat):FP G 102 [.int .u32 (c:Int)] (FV [] [c]):=by refine bw a.aeh (aab rfl) ?_;simp[FV,aq]
def zH2(a:bJ G)(i:Int):FP G 103 [.int .i64 i] (if 0<=i/\i<34 then .bc [FV [i] [0,4294967295],.int .i64 0] else .bc [FV [] [],.int .i64 1]):=by
 refine bw a.aei (aab rfl) ?_
 by_cases b:i<0
 .simp(disch:=omega)[FV,aq,ints,D5,bC]
 .by_cases c:i<34
  .simp(disch:=omega)[FV,aq,ints,nY,D5,bC,kD]
  .simp(disch:=omega)[FV,aq,ints,nY,kD]
def Og(h:bJ G)(a b:List Int)(i:a.length+b.length<=1000) :
  FP G 104 [.vs (ints .i64 a) .no,.vs (ints .i64 b) .no] (.vs (ints .i64 (fy a b)) .no):=by
 refine bw h.aej (aab rfl) ?_;simp
 refine u5 (λs:List Int×List Int×List Int=>s.2.1.length+s.2.2.length)
  (λs=>[(0,.vs (ints .i64 s.2.1) .no),(1,.vs (ints .i64 s.2.2) .no),(5,.vs (ints .i64 s.1) (.own 0))]) (λs=>[some (.zone s.1.length)])
  (λs=>s.1++fy s.2.1 s.2.2=fy a b/\s.1.length+s.2.1.length+s.2.2.length<=1000) ([],a,b) ?_ ?_
 .simp[av,ak,i]
 rintro⟨d,x,y⟩ ⟨c,e⟩;simp only at c e
 cases x with
 | nil =>
  cases y with
  | nil=>simp[fy] at c;simp[eB,c]
  | cons v y =>
   simp only[aaq,acX] at e;simp(disch:=omega)[eB,bC,aB,D4,aG,tC,nY];refine⟨(d++[v],[],y),?_⟩;simp[fy] at c;simp[c,av,ak,fy]
   omega
 | cons u x =>
  cases y with
  | nil =>
   simp only[aaq,acX] at e;simp(disch:=omega)[eB,bC,aB,D4,tC,nY];refine⟨(d++[u],x,[]),?_⟩;simp[zxX] at c;simp[c,av,ak,zxX]
   omega
  | cons v y =>
   simp only[aaq] at e;rw[fy] at c
   by_cases f:u<v
   .simp(disch:=omega)[eB,bC,aB,D4,aG,tC,nY];refine⟨(d++[u],x,v::y),?_⟩;simp[f] at c;simp[c,av,ak,D4];omega
   .by_cases g:v<u
    .simp(disch:=omega)[eB,bC,kD,aB,D4,aG,tC,nY];refine⟨(d++[v],u::x,y),?_⟩;simp[f,g] at c;simp[c,av,ak,D4];omega
    .simp(disch:=omega)[eB,bC,kD,aB,D4,aG,tC,nY];refine⟨(d++[u],x,y),?_⟩;simp[f,g] at c;simp[c,av,ak];omega
def zAY{k j b:Nat}(a:k<2^j)(c:b<=1):k ||| b*2^j=k+2^j*b:=by rw[abX b,adz,<-ab0 a];omega
def xD(n i:Nat):n/2^i%2=(n.testBit i).toNat:=by
 rw[acf]
 rcases Nat.mod_two_eq_zero_or_one (n/2^i) with h|h<;>simp[h]
def rK{b:Nat}(c:b<9223372036854775808):jY .i64 (b:Int) 1=((b%2:Nat):Int):=by have:=zNb (a:=b) (b:=1) c ah9;rw[show((1:Nat):Int)=1 from rfl] at this;rw[this,show(1:Nat)=2^1-1 from rfl,abU]
def Sw(l:bJ G)(fv:List Int)(tab:List Nat)(vs:List Int)(n:Nat)(w:tab.length=2^fv.length)(g:fv.Sublist vs)(m:vs.Nodup)(x:vs.length<=30)(y:n<2^31) :
  FP G 105 [FV fv tab,.vs (ints .i64 vs) .no,.int .i64 n] (.int .u32 (dm fv tab (jb vs n):Nat)):=by
 have z:=g.length_le;refine bw l.aek (aab rfl) ?_;simp[FV]
 refine u5 (λs:Nat×Nat=>vs.length-s.1)
  (λs=>[(2,.int .i64 n),(3,.ptr 0 0),(7,.int .i64 (idx (fv.take s.2) (jb vs n):Nat)),(8,.int .i64 s.2),(11,.vs (ints .i64 vs) .no),(12,.int .i64 vs.length),(13,.int .i64 s.1)])
  (λ_=>[some (.cells [.vs (ints .i64 fv) .no,.vs (aq .u32 tab) .no])]) (λs=>s.1<=vs.length/\s.2<=fv.length/\(fv.drop s.2).Sublist (vs.drop s.1)) (0,0) ?_ ?_
 .simp[av,ak,g,idx]
 rintro⟨i,j⟩ ⟨hi,e,a⟩;simp only at hi e a
 by_cases o:i<vs.length
 .have b:vs.drop i=vs[i]::vs.drop (i+1):=aaF o
  by_cases d:j<fv.length
  .have f:fv.drop j=fv[j]::fv.drop (j+1):=aaF d
   by_cases c:fv[j]=vs[i]
   .have p:idx (fv.take j) (jb vs n)<2^j:=by have:=Ge (fv.take j) (jb vs n);rwa[abn,ach e] at this
    have q:2^j<=2^30:=aaj ah9 an;have t:n/2^i<9223372036854775808:=aau (aaD _ _) an
    have k:n/2^i%2<=1:=an
    have A:n/2^i%2*2^j<=1*2^j:=acj _ k
    have u:idx (fv.take (j+1)) (jb vs n)=idx (fv.take j) (jb vs n) ||| n/2^i%2*2^j:=by rw[zAY p k,aaJ,Ym,aae d,abn,ach e,xD];simp only[acz,idx,jb,c,List.Nodup.idxOf_getElem m,adZ,ad0]
    simp(disch:=omega)[bC,c,Ap,rK t,Se,Iq,bA,kD,-aaa,-aaI,-aaf,-aai,-aao];refine⟨(i+1,j+1),?_⟩;simp[av,ak,u,-aaa]
    and_intros<;>first|omega|skip
    rw[f,b,c] at a;exact List.cons_sublist_cons.1 a
   .simp(disch:=omega)[bC,bA,aG c,-aaa];refine⟨(i+1,j),?_⟩;simp[av,ak,-aaa]
    and_intros<;>first|omega|skip
    rw[f,b] at a;rw[f]
    rcases List.sublist_cons_iff.1 a with h|⟨r,v,_⟩
    .exact h
    .exact absurd (ad6.inj v).1 c
  .simp(disch:=omega)[bC,kD,bA,-aaa];refine⟨(i+1,j),?_⟩;simp[av,ak,-aaa]
   and_intros<;>first|omega|skip
   rw[abV (as:=fv) an];exact adD _
 .have d:j=fv.length:=by rw[abV (as:=vs) an] at a;have:=ack.1 (List.sublist_nil.1 a);omega
  subst d;have:=Ge fv (jb vs n);simp(disch:=omega)[kD,dm,aas]
def iq(H:ae):Prop:=∀m,H.length<=m->H.map (ab7 (ay.cl m))=H
def La{H:ae}(h:iq H)(r:ae)(n:Nat):ak (H.length+n) (H++r)=H++(r.take n).map (ab7 (ay.cl (H.length+n))):=by
 unfold ak;rw[List.take_append,acm]
 congr 1
 .rw[abd an];exact h _ an
 .congr 2;omega
def vh{ro:Bool}{f:Nat}{args:List V}{r:V}{H H1:ae}{K:List Kt}{e:Env}{Q:Ex->Env->ae->Prop}{base:Nat}{d:Option Nat}{os:List aF}(h:bE G (.F f args H r H1))(a:ro=true->base<=H.length/\H1.take H.length=H)
  (b:WO G base os K (e.put d r) H1 Q):zFp G ro f args base d os K e H Q:=⟨r,H1,h,a,b⟩
def oJ(a:Nat):Nat:=(4294967296-a)%4294967296
def Sx(kind:Int){a b:Nat}(d:a<4294967296)(c:b<4294967296):(cC kind a b).1<4294967296:=by
 have e:=acI (n:=32) d c;have f:=acA (n:=32) a c;have g:=abA (n:=32) d c;have h:a/b<=a:=aaD _ _;have i:a/2^(b%32)<=a:=aaD _ _;unfold cC
 repeat' split
 all_goals first
  | (simp only;omega)
  | (simp only;exact abg _ ah9)
def oK(l:List Bool):List (List V):=l.map λb=>[.bool b]
@[simp] theorem zH3 (l:List Bool):(oK l).length=l.length:=by simp[oK]
@[simp] theorem zNO (l:List Bool) (i:Nat):(oK l)[i]?=(l[i]?).map λb=>[.bool b]:=by simp[oK]
@[simp] theorem zNP:oK []=[]:=rfl
@[simp] theorem zNf (l:List Bool) (x:Bool):oK l++[[.bool x]]=oK (l++[x]):=by simp[oK]
@[simp] theorem zOa (l:List Bool):(∀f∈oK l,f.length=1)=True:=by simp only[eq_iff_iff,iff_true];intro f a;simp only[oK,aaE] at a;obtain⟨x,_,rfl⟩:=a;rfl
def j5(tab:List Nat)(j n:Nat):List Nat:=((abk n).filter λn=>!n.testBit j).map λn=>tab.getD n 0
def Sy(tab:List Nat)(j n:Nat):(j5 tab j n).length<=n:=by have:=List.length_filter_le (λn=>!n.testBit j) (abk n);simp[j5] at this |-;exact this
def Sz{tab:List Nat}{j n:Nat}(h:n.testBit j=false):j5 tab j (n+1)=j5 tab j n++[tab.getD n 0]:=by simp[j5,abt,adj,h]
def SA{tab:List Nat}{j n:Nat}(h:n.testBit j=true):j5 tab j (n+1)=j5 tab j n:=by simp[j5,abt,adj,h]
def zDt(P:bJ G)(vs:List Int)(tab:List Nat)(U:tab.length=2^vs.length)(h4:vs.length<=4)(z:vs.Nodup) :
  ∃c g,FP G 106 [FV vs tab] (FV c g)/\c.Sublist vs/\g.length=2^c.length/\(∀p,dm c g p=dm vs tab p)/\∀v∈c,dep (dm c g) v:=by
 suffices h:∃r,FP G 106 [FV vs tab] r/\∃c g,r=FV c g/\c.Sublist vs/\g.length=2^c.length/\(∀p,dm c g p=dm vs tab p)/\∀v∈c,dep (dm c g) v by
  obtain⟨r,W,c,g,rfl,A⟩:=h;exact⟨c,g,W,A⟩
 refine DA P.ael (aab rfl) ?_;simp[FV]
 refine u5 (λs:List Int×Tk×List Nat×Nat=>s.1.length*100+(50-s.2.2.2))
  (λs=>[(1,.ptr 0 0),(2,.ptr 1 0),(3,.int .i64 s.2.2.2)])
  (λs=>[some (.cells [.vs (ints .i64 s.1) s.2.1,.vs (aq .u32 s.2.2.1) .no]),some (.cells [.vs [] .full,.vs [] .full])])
  (λs=>s.1.Sublist vs/\(s.2.1=.no\/s.2.1=.full)/\s.2.2.1.length=2^s.1.length/\(∀p,dm s.1 s.2.2.1 p=dm vs tab p)/\s.2.2.2<=s.1.length/\∀m,m<s.2.2.2->Aq s.2.2.1 m=true)
  (vs,.no,tab,0) ?_ ?_
 .simp[av,ak,U]
 rintro⟨a,tk,tb,j⟩ ⟨y,B,q,D,X,L⟩;simp only at y B q D X L;have yw:=y.length_le;have Q:a.Nodup:=z.sublist y
 have h2:tb.length<=16:=by rw[q,show 16=2^4 from rfl];exact aaj ah9 an
 by_cases E:j<a.length
 .simp(disch:=omega)[bC]
  have mw:V.nf (V.cl 0 (.agg [.vs (ints .i64 a) tk,.vs (aq .u32 tb) .no]))=FV a tb:=by rcases B with rfl|rfl<;>simp[FV]
  refine aw (Yq P a tb j an an (Yr an q E)) ?_;cases R:Aq tb j
  case true =>
   simp(disch:=omega)[bA,-aaa];refine⟨(a,tk,tb,j+1),?_⟩
   have Y:∀m,m<j+1->Aq tb m=true:=λm hm=>by
    by_cases e:m=j
    .subst e;exact R
    .exact L m an
   rcases B with rfl|rfl<;>(simp[av,ak,y,q,D,-aaa];exact⟨an,an,Y⟩)
  case false =>
   have f:∀n,Tk.cl n tk=tk:=λn=>by rcases B with rfl|rfl<;>rfl
   have Z:a≠[]:=λe=>by simp[e] at E
   have S:(a.drop (j+1)).take (a.length-(j+1))=a.drop (j+1):=by rw[abd];simp
   have t:a.eraseIdx j=a.take j++a.drop (j+1):=List.eraseIdx_eq_take_drop_succ a j;obtain⟨k,hk⟩:∃k,a.length=k+1:=⟨a.length-1,an⟩
   have ha:(a.take j++a.drop (j+1)).length=k:=by rw[<-t,acD E];omega
   have F:(qC tb j).length=2^k:=zDq (by rw[q,hk]) an
   have H:∀p,dm (a.take j++a.drop (j+1)) (qC tb j) p=dm vs tab p:=λp=>by rw[<-t,zGc Q q E R,D]
   have I:(a.take j++a.drop (j+1)).Sublist vs:=by rw[<-t];exact(List.eraseIdx_sublist a j).trans y
   have J:min j a.length+(a.length-(j+1))=k:=an
   have K:j5 tb j tb.length=qC tb j:=rfl
   by_cases T:j=0
   .have C:a.take j=[]:=by rw[T];rfl
    by_cases zO:a.length=j+1
    .have o:a.drop (j+1)=[]:=abV an;simp(disch:=omega)[tC,nY,Sf,aB,Sb,D6,o,-aaa]
     refine aO tb.length (λn=>[(1,.ptr 0 0),(2,.ptr 1 0),(3,.int .i64 j),(4,.ptr 2 0),(32,.int .i64 tb.length),(33,.int .i64 n)])
      (λn=>[some (.cells [.vs (ints .i64 a) tk,.vs (aq .u32 tb) .no]),some (.cells [.vs [] .full,.vs [] .full]),some (.cells [.vs (ints .i64 (a.take j++a.drop (j+1))) .full,.vs (aq .u32 (j5 tb j n)) (.own 5)]),none,none,some (.zone (j5 tb j n).length)])
      (λ_=>True) ?_ ?_
     .simp[av,ak,j5,f,C,o]
     intro n z _
     by_cases d:n<tb.length
     .have M:=Sy tb j n;have l:n/2^j<9223372036854775808:=aau (aaD _ _) an;cases b:n.testBit j
      .have u:n/2^j%2=0:=by rw[xD,b];rfl
       have N:tb.getD n 0=tb[n]:=by simp[aas,d]
       simp(disch:=omega)[bC,kD,Ap,rK l,u,aB,bA,av,ak,d,Sz b,f,-aaa,-aao,-aai]
      .have w:n/2^j%2=1:=by rw[xD,b];rfl
       simp(disch:=omega)[bC,kD,Ap,rK l,w,bA,av,ak,d,SA b,f,-aaa,-aao,-aai]
     .have x:n=tb.length:=an
      subst x;simp(disch:=omega)[eB];refine⟨(a.eraseIdx j,.full,qC tb j,0),?_⟩;simp[av,ak,t,K,F,H,I,J];omega
    .have o:a.drop (j+1)≠[]:=λe=>by have:=ack.1 e;omega
     simp(disch:=omega)[tC,nY,Sf,aB,XS,Sb,XR,D6,S,o,-aaa]
     refine aO tb.length (λn=>[(1,.ptr 0 0),(2,.ptr 1 0),(3,.int .i64 j),(4,.ptr 2 0),(32,.int .i64 tb.length),(33,.int .i64 n)])
      (λn=>[some (.cells [.vs (ints .i64 a) tk,.vs (aq .u32 tb) .no]),some (.cells [.vs [] .full,.vs [] .full]),some (.cells [.vs (ints .i64 (a.take j++a.drop (j+1))) (.own 4),.vs (aq .u32 (j5 tb j n)) (.own 5)]),none,some (.zone (a.length-(j+1))),some (.zone (j5 tb j n).length)])
      (λ_=>True) ?_ ?_
     .simp[av,ak,j5,f,C]
     intro n z _
     by_cases d:n<tb.length
     .have M:=Sy tb j n;have l:n/2^j<9223372036854775808:=aau (aaD _ _) an;cases b:n.testBit j
      .have u:n/2^j%2=0:=by rw[xD,b];rfl
       have N:tb.getD n 0=tb[n]:=by simp[aas,d]
       simp(disch:=omega)[bC,kD,Ap,rK l,u,aB,bA,av,ak,d,Sz b,f,-aaa,-aao,-aai]
      .have w:n/2^j%2=1:=by rw[xD,b];rfl
       simp(disch:=omega)[bC,kD,Ap,rK l,w,bA,av,ak,d,SA b,f,-aaa,-aao,-aai]
     .have x:n=tb.length:=an
      subst x;simp(disch:=omega)[eB];refine⟨(a.eraseIdx j,.no,qC tb j,0),?_⟩;simp[av,ak,t,K,F,H,I,J];omega
   .have C:a.take j≠[]:=λe=>by rcases List.take_eq_nil_iff.1 e with h|h;exact T h;exact Z h
    by_cases zO:a.length=j+1
    .have o:a.drop (j+1)=[]:=abV an;simp(disch:=omega)[tC,nY,Sf,aB,XS,Sb,XR,D6,C,o,-aaa]
     refine aO tb.length (λn=>[(1,.ptr 0 0),(2,.ptr 1 0),(3,.int .i64 j),(4,.ptr 2 0),(32,.int .i64 tb.length),(33,.int .i64 n)])
      (λn=>[some (.cells [.vs (ints .i64 a) tk,.vs (aq .u32 tb) .no]),some (.cells [.vs [] .full,.vs [] .full]),some (.cells [.vs (ints .i64 (a.take j++a.drop (j+1))) (.own 3),.vs (aq .u32 (j5 tb j n)) (.own 5)]),some (.zone j),none,some (.zone (j5 tb j n).length)])
      (λ_=>True) ?_ ?_
     .simp[av,ak,j5,f,o]
     intro n z _
     by_cases d:n<tb.length
     .have M:=Sy tb j n;have l:n/2^j<9223372036854775808:=aau (aaD _ _) an;cases b:n.testBit j
      .have u:n/2^j%2=0:=by rw[xD,b];rfl
       have N:tb.getD n 0=tb[n]:=by simp[aas,d]
       simp(disch:=omega)[bC,kD,Ap,rK l,u,aB,bA,av,ak,d,Sz b,f,-aaa,-aao,-aai]
      .have w:n/2^j%2=1:=by rw[xD,b];rfl
       simp(disch:=omega)[bC,kD,Ap,rK l,w,bA,av,ak,d,SA b,f,-aaa,-aao,-aai]
     .have x:n=tb.length:=an
      subst x;simp(disch:=omega)[eB];refine⟨(a.eraseIdx j,.no,qC tb j,0),?_⟩;simp[av,ak,t,K,F,H,I,J];omega
    .have o:a.drop (j+1)≠[]:=λe=>by have:=ack.1 e;omega
     simp(disch:=omega)[tC,nY,Sf,aB,XS,Sb,XR,zxj,D6,S,C,o,-aaa]
     refine aO tb.length (λn=>[(1,.ptr 0 0),(2,.ptr 1 0),(3,.int .i64 j),(4,.ptr 2 0),(32,.int .i64 tb.length),(33,.int .i64 n)])
      (λn=>[some (.cells [.vs (ints .i64 a) tk,.vs (aq .u32 tb) .no]),some (.cells [.vs [] .full,.vs [] .full]),some (.cells [.vs (ints .i64 (a.take j++a.drop (j+1))) (.own 3),.vs (aq .u32 (j5 tb j n)) (.own 5)]),some (.zone (j+(a.length-(j+1)))),none,some (.zone (j5 tb j n).length)])
      (λ_=>True) ?_ ?_
     .simp[av,ak,j5,f]
     intro n z _
     by_cases d:n<tb.length
     .have M:=Sy tb j n;have l:n/2^j<9223372036854775808:=aau (aaD _ _) an;cases b:n.testBit j
      .have u:n/2^j%2=0:=by rw[xD,b];rfl
       have N:tb.getD n 0=tb[n]:=by simp[aas,d]
       simp(disch:=omega)[bC,kD,Ap,rK l,u,aB,bA,av,ak,d,Sz b,f,-aaa,-aao,-aai]
      .have w:n/2^j%2=1:=by rw[xD,b];rfl
       simp(disch:=omega)[bC,kD,Ap,rK l,w,bA,av,ak,d,SA b,f,-aaa,-aao,-aai]
     .have x:n=tb.length:=an
      subst x;simp(disch:=omega)[eB];refine⟨(a.eraseIdx j,.no,qC tb j,0),?_⟩;simp[av,ak,t,K,F,H,I,J];omega
 .have O:j=a.length:=an
  subst O;simp(disch:=omega);refine⟨a,tb,?_⟩
  have hd:∀v∈a,dep (dm a tb) v:=λv hv=>by
   obtain⟨i,hi,rfl⟩:=ab1.1 hv;exact(So Q q (aae hi)).1 (L i hi)
  rcases B with rfl|rfl<;>simp[y,q,D]<;>exact hd
def SB{vs:List Int}{tab:List Nat}(h:∀w∈tab,w<4294967296)(p:Int->Bool):dm vs tab p<4294967296:=by
 simp only[dm,aas]
 cases a:tab[idx vs p]? with
 | none=>simp
 | some w=>exact h w (abu a)
def Yu(a:bJ G)(kind:Int)(fv gv vs:List Int)(ft gt:List Nat)(e f g:Option ay)(x:V)(n:Nat)
  (h:ft.length=2^fv.length) (i:gt.length=2^gv.length) (j:∀w∈ft,w<4294967296) (k:∀w∈gt,w<4294967296)
  (l:fv.Sublist vs) (m:gv.Sublist vs) (b:vs.Nodup) (c:vs.length<=30) (d:n<2^31)
  (H:ae) (o:H=[some (.cells [.int .i64 kind]),some (.cells [.vs (ints .i64 fv) .no,.vs (aq .u32 ft) .no]),some (.cells [.vs (ints .i64 gv) .no,.vs (aq .u32 gt) .no]),e,some (.cells [.vs (ints .i64 vs) .no,x]),f,g]) :
  bE G (.F 108 [.int .i64 n,.ptr 0 0,.ptr 1 0,.ptr 4 0,.ptr 2 0] H (.int .u32 ((cC kind (dm fv ft (jb vs n)) (dm gv gt (jb vs n))).1:Nat)) H):=by
 subst o;refine fg a.aem (aab rfl) ?_;simp;refine aw (Sw a fv ft vs n h l b c d) ?_;simp;refine aw (Sw a gv gt vs n i m b c d) ?_;simp;refine aw (K_ a.todT kind _ _ (SB j _) (SB k _)) ?_;simp
def pN(kind:Int)(fv gv:List Int)(ft gt:List Nat):Prop:=(kind=68\/kind=84\/kind=164)/\Right fv ft/\Right gv gt/\(fy fv gv).length<=4
def zH4{kind:Int}{a b:Nat}(h:kind=68\/kind=84\/kind=164)(d:a<4294967296)(c:b<4294967296):(cC kind a b).1<4294967296:=by
 rcases h with rfl|rfl|rfl<;>simp[cC]
 .exact acI (n:=32) d c
 .exact acA (n:=32) _ c
 .exact abA (n:=32) d c
def zFu(a:bJ G)(kind:Int)(fv gv:List Int)(ft gt:List Nat)(q:fv.length<=9223372036854775807)(u:gv.length<=9223372036854775807)(s:ft.length<=9223372036854775807)(x:gt.length<=9223372036854775807)
  (B:∀w∈ft,w<4294967296) (C:∀w∈gt,w<4294967296) :
  ∃r,FP G 109 [.int .i64 kind,FV fv ft,FV gv gt] r /\
   ((¬pN kind fv gv ft gt/\r=.bc [FV [] [],.bool false]) \/
    (pN kind fv gv ft gt/\∃vs tab,r=.bc [FV vs tab,.bool true]/\Right vs tab/\(∀w∈tab,w<4294967296)/\∀p,dm vs tab p=(cC kind (dm fv ft p) (dm gv gt p)).1)):=by
 refine DA a.aen (aab rfl) ?_;simp[FV]
 by_cases c:kind=68\/kind=84\/kind=164
 case neg =>
  have P:kind≠68:=λe=>c (.inl e);have Q:kind≠84:=λe=>c (.inr (.inl e));have R:kind≠164:=λe=>c (.inr (.inr e));simp[P,Q,R,ki,pN]
 have S:∀b:Bool,uJ fv ft=b->True:=λ_ _=>trivial;cases d:uJ fv ft
 .have I:¬Right fv ft:=λh=>by rw[Gd.2 h] at d;cases d
  rcases c with rfl|rfl|rfl<;>(simp;refine aw (yJ a fv ft q s) ?_;simp[d,pN,I])
 cases g:uJ gv gt
 .have I:¬Right gv gt:=λh=>by rw[Gd.2 h] at g;cases g
  rcases c with rfl|rfl|rfl<;>(simp;refine aw (yJ a fv ft q s) ?_;simp[d];refine aw (yJ a gv gt u x) ?_;simp[g,pN,I])
 have i:=Gd.1 d;have j:=Gd.1 g;have ux:=zxY fv gv;have T:=i.1;have U:=j.1
 by_cases y:(fy fv gv).length<=4
 case neg =>
  rcases c with rfl|rfl|rfl<;>(simp;refine aw (yJ a fv ft q s) ?_;simp[d];refine aw (yJ a gv gt u x) ?_;simp[g];refine aw (Og a fv gv an) ?_;simp(disch:=omega)[bC,pN,y])
 have D:=zAU fv gv i.up j.up;have E:=D.nodup;have J:fv.Sublist (fy fv gv):=K7 i.up D λv f=>(BC _ _).2 (.inl f);have K:gv.Sublist (fy fv gv):=K7 j.up D λv f=>(BC _ _).2 (.inr f);have W:pN kind fv gv ft gt:=⟨c,i,j,y⟩
 have Gj:2^(fy fv gv).length<=16:=by rw[show 16=2^4 from rfl];exact aaj ah9 y
 obtain⟨k,l,L,M,N,X,Y⟩:=zDt a (fy fv gv) ((abk (2^(fy fv gv).length)).map λn=>(cC kind (dm fv ft (jb (fy fv gv) n)) (dm gv gt (jb (fy fv gv) n))).1) ir y E
 have z:∀p,dm k l p=(cC kind (dm fv ft p) (dm gv gt p)).1:=λp=>by
  rw[X];have m:=Ge (fy fv gv) p;have Z:dm fv ft (jb (fy fv gv) (idx (fy fv gv) p))=dm fv ft p:=zx0 λv f=>zxZ ((BC _ _).2 (.inl f)) p;have e2:dm gv gt (jb (fy fv gv) (idx (fy fv gv) p))=dm gv gt p:=zx0 λv f=>zxZ ((BC _ _).2 (.inr f)) p;rw[dm];simp[aas,m,Z,e2]
 have O:Up k:=D.sublist M
 have F:Right k l:=by
  refine Right.of (ad1 M.length_le y) N O (λv f=>?_) Y
  rcases(BC _ _).1 (M.subset f) with h|h
  .exact i.mem h
  .exact j.mem h
 have t:∀w∈l,w<4294967296:=λw t=>by
  obtain⟨n,H,rfl⟩:=ab1.1 t;rw[zGb O.nodup N H,z];exact zH4 c (SB B _) (SB C _)
 have o:pN kind fv gv ft gt/\∃vs tab,V.bc [FV k l,.bool true]=.bc [FV vs tab,.bool true]/\Right vs tab/\(∀w∈tab,w<4294967296)/\∀p,dm vs tab p=(cC kind (dm fv ft p) (dm gv gt p)).1 :=
  ⟨W,k,l,rfl,F,t,z⟩
 rcases c with rfl|rfl|rfl
 .simp;refine aw (yJ a fv ft q s) ?_;simp[d];refine aw (yJ a gv gt u x) ?_;simp[g];refine aw (Og a fv gv an) ?_;simp(disch:=omega)[kD,vS,-aaf]
  refine aO (2^(fy fv gv).length) (λn=>[(6,.ptr 3 0),(8,.ptr 4 0),(9,.fn 108 [.ptr 0 0,.ptr 1 0,.ptr 4 0,.ptr 2 0]),(47,.int .i64 (2^(fy fv gv).length:Nat)),(48,.int .i64 n)])
   (λn=>[some (.cells [.int .i64 68]),some (.cells [.vs (ints .i64 fv) .no,.vs (aq .u32 ft) .no]),some (.cells [.vs (ints .i64 gv) .no,.vs (aq .u32 gt) .no]),some (.cells [.vs [] .full,.vs [] .full]),
    some (.cells [.vs (ints .i64 (fy fv gv)) .no,.vs (aq .u32 ((abk n).map λn=>(cC 68 (dm fv ft (jb (fy fv gv) n)) (dm gv gt (jb (fy fv gv) n))).1)) (.own 5)]),some (.zone n)])
   (λ_=>True) ?_ ?_
  .simp[av,ak,-aaf]
  intro n H _
  by_cases m:n<2^(fy fv gv).length
  .simp(disch:=omega)[bC,-aaf,-aaa];refine kW (Yu a 68 fv gv (fy fv gv) ft gt _ _ _ _ n i.2.1 j.2.1 B C J K E an an _ rfl) (by simp[ak]) ?_;simp(disch:=omega)[aB,bA,ak,av,m,abt,-aaf,-aaa]
  .have A:n=2^(fy fv gv).length:=an
   subst A;simp(disch:=omega)[-aaf];refine aw L ?_;simp[FV];exact⟨o.1,k,l,⟨rfl,rfl⟩,F,t,z⟩
 .simp;refine aw (yJ a fv ft q s) ?_;simp[d];refine aw (yJ a gv gt u x) ?_;simp[g];refine aw (Og a fv gv an) ?_;simp(disch:=omega)[kD,vS,-aaf]
  refine aO (2^(fy fv gv).length) (λn=>[(6,.ptr 3 0),(8,.ptr 4 0),(9,.fn 108 [.ptr 0 0,.ptr 1 0,.ptr 4 0,.ptr 2 0]),(47,.int .i64 (2^(fy fv gv).length:Nat)),(48,.int .i64 n)])
   (λn=>[some (.cells [.int .i64 84]),some (.cells [.vs (ints .i64 fv) .no,.vs (aq .u32 ft) .no]),some (.cells [.vs (ints .i64 gv) .no,.vs (aq .u32 gt) .no]),some (.cells [.vs [] .full,.vs [] .full]),
    some (.cells [.vs (ints .i64 (fy fv gv)) .no,.vs (aq .u32 ((abk n).map λn=>(cC 84 (dm fv ft (jb (fy fv gv) n)) (dm gv gt (jb (fy fv gv) n))).1)) (.own 5)]),some (.zone n)])
   (λ_=>True) ?_ ?_
  .simp[av,ak,-aaf]
  intro n H _
  by_cases m:n<2^(fy fv gv).length
  .simp(disch:=omega)[bC,-aaf,-aaa];refine kW (Yu a 84 fv gv (fy fv gv) ft gt _ _ _ _ n i.2.1 j.2.1 B C J K E an an _ rfl) (by simp[ak]) ?_;simp(disch:=omega)[aB,bA,ak,av,m,abt,-aaf,-aaa]
  .have A:n=2^(fy fv gv).length:=an
   subst A;simp(disch:=omega)[-aaf];refine aw L ?_;simp[FV];exact⟨o.1,k,l,⟨rfl,rfl⟩,F,t,z⟩
 .simp;refine aw (yJ a fv ft q s) ?_;simp[d];refine aw (yJ a gv gt u x) ?_;simp[g];refine aw (Og a fv gv an) ?_;simp(disch:=omega)[kD,vS,-aaf]
  refine aO (2^(fy fv gv).length) (λn=>[(6,.ptr 3 0),(8,.ptr 4 0),(9,.fn 108 [.ptr 0 0,.ptr 1 0,.ptr 4 0,.ptr 2 0]),(47,.int .i64 (2^(fy fv gv).length:Nat)),(48,.int .i64 n)])
   (λn=>[some (.cells [.int .i64 164]),some (.cells [.vs (ints .i64 fv) .no,.vs (aq .u32 ft) .no]),some (.cells [.vs (ints .i64 gv) .no,.vs (aq .u32 gt) .no]),some (.cells [.vs [] .full,.vs [] .full]),
    some (.cells [.vs (ints .i64 (fy fv gv)) .no,.vs (aq .u32 ((abk n).map λn=>(cC 164 (dm fv ft (jb (fy fv gv) n)) (dm gv gt (jb (fy fv gv) n))).1)) (.own 5)]),some (.zone n)])
   (λ_=>True) ?_ ?_
  .simp[av,ak,-aaf]
  intro n H _
  by_cases m:n<2^(fy fv gv).length
  .simp(disch:=omega)[bC,-aaf,-aaa];refine kW (Yu a 164 fv gv (fy fv gv) ft gt _ _ _ _ n i.2.1 j.2.1 B C J K E an an _ rfl) (by simp[ak]) ?_;simp(disch:=omega)[aB,bA,ak,av,m,abt,-aaf,-aaa]
  .have A:n=2^(fy fv gv).length:=an
   subst A;simp(disch:=omega)[-aaf];refine aw L ?_;simp[FV];exact⟨o.1,k,l,⟨rfl,rfl⟩,F,t,z⟩
def qg(r:List Nat):Int->Nat:=λv=>r.getD v.toNat 0
def zGf(w i:Nat):w &&& 2^i=2^i*(w.testBit i).toNat:=by
 refine aaY λj=>?_;rw[acY,acw,Nat.testBit_two_pow_mul]
 by_cases h:i=j
 .subst h;cases w.testBit i<;>simp
 .by_cases a:i<=j
  .have:(w.testBit i).toNat<2^(j-i):=aav (by cases w.testBit i<;>simp:(w.testBit i).toNat<2^1) (aaj ah9 an);rw[abe this];simp[h]
  .simp[h,a]
def zFv{b:Nat}(c:b<4294967296):jY .u32 (b:Int) 1=((b%2:Nat):Int):=by have:=Ir (a:=b) (b:=1) c ah9;rw[show((1:Nat):Int)=1 from rfl] at this;rw[this,show(1:Nat)=2^1-1 from rfl,abU]
def zAZ{b:Nat}(a:b<9223372036854775808):fc .i64 (b:Int)=(b:Int):=Ip a
def zNg{i:Nat}(hi:i<32):jz .u32 1 (i:Int)=((2^i:Nat):Int):=by have:=N5 (a:=1) (j:=i) an;rw[ad3,aaQ (show 2^i<4294967296 from abf (a:=2) (n:=32) ah9 hi)] at this;exact this
def zxp{f:Nat->Bool}{i:Nat}(w:Nat)(h:f i=w.testBit i):fN f i ||| (w &&& 2^i)=fN f (i+1):=by rw[zGf,fN,h,adz,<-ab0 (vV f i)];omega
def zGg(k:je G)(vs:List Int)(tab:List Nat)(r:List Nat)(m:vs.length<=9223372036854775807)(o:tab.length<=9223372036854775807)
  (p:∀w∈tab,w<4294967296) (D:r.length=34) (q:∀w∈r,w<4294967296) :
  FP G 110 [FV vs tab,.agg (ax .u32 r)] (.bc [.int .u32 (if uJ vs tab then(val vs tab (qg r):Nat) else(0:Nat)),.bool (uJ vs tab)]):=by
 have s:bJ G:=k.tobJ;refine bw k.aeo (aab rfl) ?_;simp[FV];refine aw (yJ s vs tab m o) ?_;cases t:uJ vs tab
 .simp
 have R:=Gd.1 t;have E:=R.1;simp
 refine aO 32 (λi=>[(2,.ptr 0 0),(3,.ptr 1 0),(6,.int .u32 (fN (λi=>(dm vs tab λv=>(qg r v).testBit i).testBit i) i:Nat)),(14,.int .i64 i)])
  (λ_=>[some (.cells [.vs (ints .i64 vs) .no,.vs (aq .u32 tab) .no]),some (.cells (ax .u32 r))]) (λ_=>True) ?_ ?_
 .simp[av,ak,fN]
 intro i hi _
 by_cases c:i<32
 .simp(disch:=omega)[bC,-aaa]
  refine aO vs.length (λj=>[(2,.ptr 0 0),(3,.ptr 1 0),(6,.int .u32 (fN (λi=>(dm vs tab λv=>(qg r v).testBit i).testBit i) i:Nat)),(7,.int .i64 i),(8,.int .i64 (idx (vs.take j) (λv=>(qg r v).testBit i):Nat)),(14,.int .i64 i),(18,.vs (ints .i64 vs) .no),(19,.int .i64 vs.length),(20,.int .i64 j)])
   (λ_=>[some (.cells [.vs (ints .i64 vs) .no,.vs (aq .u32 tab) .no]),some (.cells (ax .u32 r))]) (λ_=>True) ?_ ?_
  .simp[av,ak,idx]
  intro j F _
  by_cases d:j<vs.length
  .have H:=R.mem (aak d)
   have e:vs[j].toNat<r.length:=an
   have u:=su .u32 r vs[j].toNat e;have g:=q _ (aak e);have hd:r[vs[j].toNat]/2^i<4294967296:=aau (aaD _ _) g
   have b:idx (vs.take j) (λv=>(qg r v).testBit i)<2^j:=by have:=Ge (vs.take j) (λv=>(qg r v).testBit i);rwa[abn,ach an] at this
   have x:2^j<=2^30:=aaj ah9 an
   have l:r[vs[j].toNat]/2^i%2<=1:=an
   have I:r[vs[j].toNat]/2^i%2*2^j<=1*2^j:=acj _ l
   have y:idx (vs.take (j+1)) (λv=>(qg r v).testBit i)=idx (vs.take j) (λv=>(qg r v).testBit i) ||| r[vs[j].toNat]/2^i%2*2^j:=by
    rw[zAY b l,aaJ,Ym,aae d,abn,ach an,xD]
    have:qg r vs[j]=r[vs[j].toNat]:=by simp[qg,aas,e]
    simp only[acz,idx,this,adZ,ad0]
   simp(disch:=omega)[bC,kD,nY,aB,u,Bu,zFv hd,zAZ,Se,Iq,bA,av,ak,d,y,-aaa,-aaI,-aaf,-aai,-aao,-List.getElem?_drop]
  .have h:j=vs.length:=an
   subst h;have b:=Ge vs (λv=>(qg r v).testBit i);rw[<-R.2.1] at b;have z:=p _ (aak b);have A:2^i<4294967296:=abf (a:=2) (n:=32) ah9 c;have J:fN (λi=>(dm vs tab λv=>(qg r v).testBit i).testBit i) i<4294967296:=Nat.lt_trans (vV _ i) A;have K:tab[idx vs (λv=>(qg r v).testBit i)] &&& 2^i<4294967296:=aau acZ z
   have B:dm vs tab (λv=>(qg r v).testBit i)=tab[idx vs (λv=>(qg r v).testBit i)]:=by simp[dm,aas,b]
   have C:=zxp (f:=λi=>(dm vs tab λv=>(qg r v).testBit i).testBit i) (i:=i) (tab[idx vs (λv=>(qg r v).testBit i)]) (by simp only[B]);simp(disch:=omega)[kD,nY,zNg c,Ir,zH,C,bA,av,ak,c,-aaa,-aaf]
 .have h:i=32:=an
  subst h;simp[val]
def jo(vs:List Int)(p:Int->Bool):List Nat:=(abk 34).map fun(i:Nat)=>if(i:Int)∈vs/\p (i:Int)=true then 4294967295 else 0
def zDu(p:Int->Bool):jo [] p=aR 34:=by simp[jo,aR];rfl
def zA0{vs:List Int}(f:vs.Nodup)(p:Int->Bool){j:Nat}(c:j<vs.length)(g:0<=vs[j]) :
  jo (vs.take (j+1)) p=(jo (vs.take j) p).set vs[j].toNat (if p vs[j] then 4294967295 else 0):=by
 refine adG (by simp[jo]) λi h k=>?_;simp only[jo,List.getElem_map,List.getElem_range,List.getElem_set]
 have d:vs.take (j+1)=vs.take j++[vs[j]]:=by rw[aaJ,aae c];rfl
 have a:((i:Int)∈vs.take (j+1))↔((i:Int)∈vs.take j\/(i:Int)=vs[j]):=by rw[d];simp only[aa2,aaZ]
 by_cases e:vs[j].toNat=i
 .rw[if_pos e]
  have:(i:Int)=vs[j]:=an
  have b:=a.2 (.inr this);rw[this] at b;simp only[this,b,true_and]
 .rw[if_neg e]
  have:¬(i:Int)=vs[j]:=an
  simp only[a,this,or_false]
def Oi(fv gv:List Int)(ft gt:List Nat):Option Nat:=(abk (2^(fy fv gv).length)).find? λn=>dm fv ft (jb (fy fv gv) n) !=dm gv gt (jb (fy fv gv) n)
noncomputable def yM(fv gv:List Int)(ft gt:List Nat):List Nat×Bool :=
 if uJ fv ft=true/\uJ gv gt=true then(match Oi fv gv ft gt with
  | some n=>(jo (fy fv gv) (jb (fy fv gv) n),true)
  | none=>(aR 34,false)) else(aR 34,false)
def zvF(C:dU G)(fv gv:List Int)(ft gt:List Nat)(J:fv.length<=9223372036854775807)(K:gv.length<=9223372036854775807)(L:ft.length<=9223372036854775807)(N:gt.length<=9223372036854775807)
  (X:∀w∈ft,w<4294967296) (Y:∀w∈gt,w<4294967296) :
  FP G 112 [FV fv ft,FV gv gt] (.bc [.agg (ax .u32 (yM fv gv ft gt).1),.bool (yM fv gv ft gt).2]):=by
 have c:bJ G:=C.tobJ;refine bw C.aep (aab rfl) ?_;simp[FV];refine aw (yJ c fv ft J L) ?_;cases d:uJ fv ft
 .simp[yM,d]
 simp[-abD];refine aw (yJ c gv gt K N) ?_;cases k:uJ gv gt
 .simp[yM,d,k]
 have e:=Gd.1 d;have f:=Gd.1 k;have Z:=zxY fv gv;have O:=e.1;have P:=f.1;simp[-abD];refine aw (Og c fv gv an) ?_;have q:=zAU fv gv e.up f.up;have l:=q.nodup;have Q:fv.Sublist (fy fv gv):=K7 e.up q λv g=>(BC _ _).2 (.inl g);have R:gv.Sublist (fy fv gv):=K7 f.up q λv g=>(BC _ _).2 (.inr g)
 have S:2^(fy fv gv).length<=256:=by rw[show 256=2^8 from rfl];exact aaj ah9 an
 have T:∀v∈fy fv gv,0<=v/\v<34:=λv g=>by
  rcases(BC _ _).1 g with h|h
  .exact e.mem h
  .exact f.mem h
 generalize r:fy fv gv=M at *;simp(disch:=omega)[kD,vS,-aaf]
 refine aO (2^M.length) (λn=>[(2,.ptr 0 0),(3,.ptr 1 0),(4,.ptr 2 0),(6,.ptr 3 0),(7,.vs (ints .i64 M) .no),(27,.int .i64 (2^M.length:Nat)),(28,.int .i64 n)])
  (λn=>[some (.cells [.vs (ints .i64 fv) .no,.vs (aq .u32 ft) .no]),some (.cells [.vs (ints .i64 gv) .no,.vs (aq .u32 gt) .no]),some (.cells (ax .u32 (aR 34))),some (.cells (ax .u32 (aR 34)))])
  (λn=>∀m,m<n->dm fv ft (jb M m)=dm gv gt (jb M m)) ?_ ?_
 .simp[av,ak,-aaf]
 intro n hn s
 by_cases D:n<2^M.length
 .simp(disch:=omega)[bC,-aaf,-aaa];refine aw (Sw c fv ft M n e.2.1 Q l an an) ?_;simp[-aaf,-aaa];refine aw (Sw c gv gt M n f.2.1 R l an an) ?_
  by_cases t:dm fv ft (jb M n)=dm gv gt (jb M n)
  .simp(disch:=omega)[t,bA,av,ak,D,-aaf,-aaa];intro m b
   by_cases U:m=n
   .subst U;exact t
   .exact s m an
  .have u:Oi fv gv ft gt=some n:=by rw[Oi,r,List.find?_range_eq_some];exact⟨by simpa using t,by simpa using D,λm b=>by simpa using s m b⟩
   have x:yM fv gv ft gt=(jo M (jb M n),true):=by simp[yM,d,k,u,r]
   simp(disch:=omega)[aG,-aaf,-aaa]
   refine aO M.length (λj=>[(4,.ptr 2 0),(6,.ptr 3 0),(8,.int .i64 n),(40,.vs (ints .i64 M) .no),(41,.int .i64 M.length),(42,.int .i64 j)])
    (λj=>[some (.cells [.vs (ints .i64 fv) .no,.vs (aq .u32 ft) .no]),some (.cells [.vs (ints .i64 gv) .no,.vs (aq .u32 gt) .no]),some (.cells (ax .u32 (aR 34))),some (.cells (ax .u32 (jo (M.take j) (jb M n))))])
    (λj=>True) ?_ ?_
   .simp[av,ak,zDu]
   intro j hj _
   by_cases o:j<M.length
   .have b:=T _ (aak o)
    have a:(jo (M.take j) (jb M n)).length=34:=by simp[jo]
    have E:=wQ .u32 (jo (M.take j) (jb M n)) M[j].toNat;have F:n/2^j<9223372036854775808:=aau (aaD _ _) an;have i:=zA0 l (jb M n) o b.1
    have W:jb M n M[j]=n.testBit j:=by simp only[jb];rw[List.Nodup.idxOf_getElem l]
    rw[W] at i;have p:=xD n j;cases H:n.testBit j
    .rw[H] at i p;have y:=E 0 an
     have z:dS .u32 4294967295 (fc .u32 0)=0:=by decide
     simp(disch:=omega)[bC,kD,nY,Ap,rK F,p,bA,av,ak,o,i,aB,a,z,-aaf,-aaa,-aao,-aai];have A:aZ 4 ((ax .u32 (jo (M.take j) (jb M n))).take M[j].toNat++V.int .u32 0::(ax .u32 (jo (M.take j) (jb M n))).drop (M[j].toNat+1))=ax .u32 ((jo (M.take j) (jb M n)).set M[j].toNat 0):=(congrArg (aZ 4) y).trans (zvs 4 _ _);exact A
    .rw[H] at i p;have y:=E 4294967295 an
     have z:dS .u32 4294967295 (fc .u32 1)=4294967295:=by decide
     simp(disch:=omega)[bC,kD,nY,Ap,rK F,p,bA,av,ak,o,i,aB,a,z,-aaf,-aaa,-aao,-aai];have A:aZ 4 ((ax .u32 (jo (M.take j) (jb M n))).take M[j].toNat++V.int .u32 4294967295::(ax .u32 (jo (M.take j) (jb M n))).drop (M[j].toNat+1))=ax .u32 ((jo (M.take j) (jb M n)).set M[j].toNat 4294967295):=(congrArg (aZ 4) y).trans (zvs 4 _ _);exact A
   .have B:j=M.length:=an
    subst B
    have I:(jo M (jb M n)).length=34:=by simp[jo]
    simp(disch:=omega)[x,I,eA I]
 .have B:n=2^M.length:=an
  subst B
  have u:Oi fv gv ft gt=none:=by
   rw[Oi,r,List.find?_range_eq_none]
   exact λm b=>by simpa using s m b
  have x:yM fv gv ft gt=(aR 34,false):=by simp[yM,d,k,u]
  simp(disch:=omega)[x,-aaf]
def Yz{a:Nat}:gn (a:Int) 2=((a%2:Nat):Int):=wT (b:=2)
def Ol{n:Nat}(h:n<18446744073709551616):IntKind.u64.wrap (n:Int)=n:=by show((n:Int)%18446744073709551616)=n;omega
def YA{b:Nat}(a:b<18446744073709551616):fc .u64 (b:Int)=(b:Int):=Ol a
def Gk{b:Nat}(a:b<4294967296):fc .u32 (b:Int)=(b:Int):=sM a
def YB{a b:Nat}(c:a<18446744073709551616):kF .u64 (a:Int) (b:Int)=((a/b:Nat):Int):=by
 unfold kF;rw[Int.tdiv_eq_ediv_of_nonneg an]
 have h:((a:Int)/(b:Int))=((a/b:Nat):Int):=by rw[aao]
 rw[h];exact Ol (aau (aaD a b) c)
def zA1{a b:Nat}(h:a+b<18446744073709551616):aC .u64 (a:Int) (b:Int)=((a+b:Nat):Int):=by unfold aC;rw[<-aaa];exact Ol h
def YC{a b:Nat}(h:a*b<18446744073709551616):dS .u64 (a:Int) (b:Int)=((a*b:Nat):Int):=by unfold dS;rw[<-aaI];exact Ol h
def zA2{a:Nat}:gn (a:Int) 32=((a%32:Nat):Int):=wT (b:=32)
def SD{a:Nat}:gn (a:Int) 4294967296=((a%4294967296:Nat):Int):=wT (b:=4294967296)
def YD{a b:Nat}(h:a+b<4294967296):aC .u32 (a:Int) (b:Int)=((a+b:Nat):Int):=by unfold aC;rw[<-aaa];exact sM h
def zvJ{a:Nat}(h:a+1<4294967296):aC .u32 (a:Int) 1=((a+1:Nat):Int):=YD (b:=1) h
def SG{a b:Nat}(h:a*b<4294967296):dS .u32 (a:Int) (b:Int)=((a*b:Nat):Int):=by unfold dS;rw[<-aaI];exact sM h
def zDv{b:Nat}(h:2*b<4294967296):dS .u32 2 (b:Int)=((2*b:Nat):Int):=SG (a:=2) h
def zDw{a:Nat}(h:a*2<18446744073709551616):dS .u64 (a:Int) 2=((a*2:Nat):Int):=YC (b:=2) h
def SH(a:mO G)(n:Nat)(d:n<4294967296):FP G 125 [.int .u32 n] (.int .u64 (2^(n%32):Nat)):=by
 refine bw a.aea (aab rfl) ?_;simp[-aaf];refine aO (n%32) (λi=>[(0,.int .u32 n),(3,.int .u64 (2^i:Nat)),(4,.int .u32 i)]) (λ_=>[]) (λ_=>True) ?_ ?_
 .simp[av,ak,-aaf]
 intro i hi _
 by_cases b:i<n%32
 .have e:2^i*2<=2^62:=by rw[<-abb];exact aaj ah9 an
  simp(disch:=omega)[zA2,bC,zDw,zvJ,av,ak,b,abb,-aaf,-aaa,-aaI,-aai]
 .have c:i=n%32:=an
  subst c;simp(disch:=omega)[zA2,-aaf,-aai]
def zx3(b:mO G)(a i:Nat)(e:a<4294967296)(hi:i<32):FP G 126 [.int .u32 a,.int .u32 i] (.int .u32 ((a.testBit i).toNat:Nat)):=by
 have f:0<2^(i%32):=abB _;have c:i%32=i:=aaQ hi;have d:=xD a i
 have g:(a.testBit i).toNat<2:=by cases a.testBit i<;>simp
 refine bw b.aeb (aab rfl) ?_;simp[-aaf];refine aw (SH b i an) ?_;simp(disch:=omega)[YA,YB,Yz,eqF,c,d,Gk,-aaf,-aao,-aai]
def YE(h:mO G)(a b c d f g:Nat)(o:a<4294967296)(p:b<4294967296)(t:c<=1)(u:d<=1)(v:f<=1)(w:g<=1) :
  FP G 127 [.int .u32 a,.int .u32 b,.vs (aq .u32 [c,d,f,g]) .no]
   (.int .u32 (fN (λi=>([c,d,f,g][2*(a.testBit i).toNat+(b.testBit i).toNat]?.getD 0)==1) 32:Nat)):=by
 refine bw h.aec (aab rfl) ?_;simp
 refine aO 32 (λi=>[(0,.int .u32 a),(1,.int .u32 b),(2,.vs (aq .u32 [c,d,f,g]) .no),(7,.int .u32 (fN (λi=>([c,d,f,g][2*(a.testBit i).toNat+(b.testBit i).toNat]?.getD 0)==1) i:Nat)),(8,.int .u32 i)])
  (λ_=>[]) (λ_=>True) ?_ ?_
 .simp[av,ak,fN]
 intro i hi _
 by_cases j:i<32
 case neg =>
  have q:i=32:=an
  subst q;simp
 have x:(a.testBit i).toNat<=1:=by cases a.testBit i<;>simp
 have y:(b.testBit i).toNat<=1:=by cases b.testBit i<;>simp
 simp(disch:=omega)[bC,-aaa];refine aw (zx3 h a i o j) ?_;simp;refine aw (zx3 h b i p j) ?_;generalize l:2*(a.testBit i).toNat+(b.testBit i).toNat=k
 have m:k<[c,d,f,g].length:=by simp;omega
 have n:[c,d,f,g][k]<=1:=by have:[c,d,f,g][k]∈[c,d,f,g]:=aak m;simp only[aah,aa1,or_false] at this;omega
 generalize z:[c,d,f,g]=says at *;have A:=vV (λi=>(says[2*(a.testBit i).toNat+(b.testBit i).toNat]?.getD 0)==1) i;have B:2^i<=2^31:=aaj ah9 an;have r:i%32=i:=aaQ j;have C:says[k]*2^i<=1*2^i:=acj _ n
 have s:fN (λi=>(says[2*(a.testBit i).toNat+(b.testBit i).toNat]?.getD 0)==1) (i+1)=fN (λi=>(says[2*(a.testBit i).toNat+(b.testBit i).toNat]?.getD 0)==1) i+says[k]*2^i:=by
  rw[fN];simp only[l,aae m,abJ]
  rcases Nat.le_one_iff_eq_zero_or_eq_one.1 n with e|e<;>simp[e]
 simp(disch:=omega)[zDv,YD,l,zAZ,nY,-aaa,-aaI];refine aw (SH h i an) ?_;simp(disch:=omega)[r,Gk,SG,YD,zvJ,av,ak,j,s,-aaa,-aaI,-aaf]
def YF{f:Nat->Bool}{w:Nat}(a:w<2^32)(h:∀i,i<32->f i=w.testBit i):fN f 32=w:=by rw[Sq h,Sr a]
def YG(e:mO G)(kind:Int)(a b:Nat)(d:a<4294967296)(c:b<4294967296) :
  FP G 122 [.int .i64 kind,.int .u32 a,.int .u32 b] (.bc [.int .u32 ((cC kind a b).1:Nat),.bool (cC kind a b).2]):=by
 refine bw e.aed (aab rfl) ?_;have j:2^(b%32)<=2^31:=aaj ah9 an;have l:0<2^(b%32):=abB _;simp(disch:=omega)[YA]
 by_cases h:kind=4
 .subst h;simp(disch:=omega)[cC,zA1,SD,Gk,-aaa,-aai]
 by_cases h:kind=20
 .subst h;have f:aC .u64 (a:Int) 4294967296=((a+4294967296:Nat):Int):=zA1 (b:=4294967296) an
  have k:bO .u64 ((a+4294967296:Nat):Int) (b:Int)=((a+4294967296-b:Nat):Int):=by unfold bO;rw[<-Int.natCast_sub an];exact Ol an
  simp(disch:=omega)[cC,f,k,SD,Gk,-aaa,-aai]
 by_cases h:kind=36
 .subst h
  have f:a*b<18446744073709551616:=by have:a*b<=4294967295*4294967295:=adV an an;omega
  simp(disch:=omega)[cC,YC,SD,Gk,-aaI,-aai]
 by_cases h:kind=52
 .subst h
  by_cases g:b=0
  .subst g;simp[cC]
  .have f:a/b<4294967296:=aau (aaD _ _) d;simp(disch:=omega)[cC,g,aG,YB,Gk,-aao]
 by_cases h:kind=68
 .subst h;simp;refine aw (by simpa[aq] using YE e a b 0 1 1 1 d c ah9 ah9 ah9 ah9) ?_
  have:fN (λi=>([0,1,1,1][2*(a.testBit i).toNat+(b.testBit i).toNat]?.getD 0)==1) 32=a ||| b:=YF (acI d c) λi hi=>by
   rw[adX];cases a.testBit i<;>cases b.testBit i<;>rfl
  simp[cC,this]
 by_cases h:kind=84
 .subst h;simp;refine aw (by simpa[aq] using YE e a b 0 0 0 1 d c ah9 ah9 ah9 ah9) ?_
  have:fN (λi=>([0,0,0,1][2*(a.testBit i).toNat+(b.testBit i).toNat]?.getD 0)==1) 32=a &&& b:=YF (acA _ c) λi hi=>by
   rw[acY];cases a.testBit i<;>cases b.testBit i<;>rfl
  simp[cC,this]
 by_cases h:kind=100
 .subst h;simp;refine aw (SH e b c) ?_
  have f:a*2^(b%32)<18446744073709551616:=by have:a*2^(b%32)<=4294967295*2^31:=adV an j;omega
  simp(disch:=omega)[cC,YC,SD,Gk,-aaI,-aai,-aaf]
 by_cases h:kind=116
 .subst h;simp;refine aw (SH e b c) ?_;have f:a/2^(b%32)<4294967296:=aau (aaD _ _) d;simp(disch:=omega)[cC,YB,Gk,eqF,-aao,-aaf]
 by_cases h:kind=164
 .subst h;simp;refine aw (by simpa[aq] using YE e a b 0 1 1 0 d c ah9 ah9 ah9 ah9) ?_
  have:fN (λi=>([0,1,1,0][2*(a.testBit i).toNat+(b.testBit i).toNat]?.getD 0)==1) 32=a ^^^ b:=YF (abA d c) λi hi=>by
   rw[adL];cases a.testBit i<;>cases b.testBit i<;>rfl
  simp[cC,this]
 simp(disch:=omega)[cC,aG, *]
def zGh[mZ G](a:Nat)(g:a<4294967296):FP G 173 [.int .u32 a] (.int .u32 (oJ a:Nat)):=by
 refine bw mZ.aee (aab rfl) ?_;have c:=YA (b:=a) an
 have d:bO .u64 4294967296 (a:Int)=((4294967296-a:Nat):Int):=by unfold bO;rw[show(4294967296:Int)-(a:Int)=((4294967296-a:Nat):Int) by omega];exact IntWalk.u64_in _ ⟨an,an⟩
 have e:gn ((4294967296-a:Nat):Int) 4294967296=((oJ a:Nat):Int):=wT (b:=4294967296)
 have f:fc .u32 ((oJ a:Nat):Int)=((oJ a:Nat):Int):=by unfold fc;exact sM (abg _ ah9)
 simp[c,d,e,f]
structure St where
 a:Nat
 x:Nat
 m:List Nat
 deriving DecidableEq
def St.cs(s:St):List V:=.int .u32 (s.a:Int)::.int .u32 (s.x:Int)::ax .u32 s.m
def SV(s:St):V:=.agg s.cs
def St.ok(s:St):Prop:=s.a<4294967296/\s.x<4294967296/\s.m.length=16/\∀w∈s.m,w<4294967296
structure Da where
 nr:Nat
 aA:Nat
 ip:Nat
 args:List Nat
def Da.cs(d:Da):List V:=.int .u32 (d.nr:Int)::.int .u32 (d.aA:Int)::.int .u64 (d.ip:Int)::ax .u64 d.args
def DV(d:Da):V:=.agg d.cs
def Da.ok(d:Da):Prop:=d.nr<4294967296/\d.aA<4294967296/\d.ip<18446744073709551616/\d.args.length=6/\∀w∈d.args,w<18446744073709551616
def SI(a b:V)(l:List V)(n:Nat):(a::b::l).take (2+n)=a::b::l.take n:=by rw[abI];rfl
def YH(a b:V)(l:List V)(n:Nat):(a::b::l).drop (2+n)=l.drop n:=by rw[abI];rfl
def On(a:V)(l:List V)(n:Nat):(a::l).drop (2+n)=l.drop (n+1):=by rw[show 2+n=(n+1)+1 by omega];rfl
def YI(a b:V)(l:List V)(n:Nat):(a::b::l).drop (2+n+1)=l.drop (n+1):=by rw[show 2+n+1=(n+1)+2 by omega];rfl
def bG(s:St)(x:af):Bool :=
 let b:=if x.op∈[29,45,61,77] then s.x else x.k
 if x.op=21\/x.op=29 then decide (s.a=b) else if x.op=37\/x.op=45 then decide (b<s.a) else if x.op=53\/x.op=61 then decide (b<=s.a) else if x.op=69\/x.op=77 then decide (s.a &&& b≠0) else false
def zDx[lI G](s:St)(x:af)(l:s.ok)(q:x.k<4294967296):FP G 165 [SV s,IV x] (.bool (bG s x)):=by
 refine bw lI.ahl (aab rfl) ?_;simp[SV,IV,af.cs,St.cs];have m:=l.1;have r:=l.2.1;have n:∀a b:Nat,((a:Int)<(b:Int))=(a<b):=λa b=>propext an;have o:∀a b:Nat,((a:Int)<=(b:Int))=(a<=b):=λa b=>propext an
 have p:∀a:Nat,((a:Int) !=0)=decide (a≠0):=λa=>by rw[aaw];simp
 by_cases c:x.op=29
 .simp[c,bG,gW]
 by_cases d:x.op=45
 .simp[d,bG,gW,n]
 by_cases e:x.op=61
 .simp[e,bG,gW,o]
 by_cases f:x.op=77
 .simp[f,bG,gW,Ir m r,p]
 by_cases g:x.op=21
 .simp[g,bG,gW]
 by_cases h:x.op=37
 .simp[h,bG,gW,n]
 by_cases i:x.op=53
 .simp[i,bG,gW,o]
 by_cases j:x.op=69
 .simp[j,bG,gW,Ir m q,p]
 simp[c,d,e,f,g,h,i,j,aG,bG]
def xJ{op:Int}(h:aX op=true):op=21\/op=37\/op=53\/op=69\/op=29\/op=45\/op=61\/op=77:=by simpa[aX] using h
def YJ{s:St}{x:af}(h:aX x.op=false):bG s x=false:=by
 have h:∀p,aX p=true->x.op≠p:=λp a e=>by rw[e,a] at h;cases h
 have b:=h 21 rfl;have c:=h 37 rfl;have d:=h 53 rfl;have f:=h 69 rfl;have g:=h 29 rfl;have i:=h 45 rfl;have j:=h 61 rfl;have k:=h 77 rfl;simp[bG,b,c,d,f,g,i,j,k]
def zA3[eE G][c:mO G][q9 G](s:St)(x:af)(d:s.ok)(l:x.k<4294967296):FP G 191 [SV s,IV x] (.bool (bG s x)):=by
 refine bw q9.ahJ (aab rfl) ?_;have e:=Yj (G:=G) x;simp[SV,IV,af.cs,St.cs] at e |-;refine aw e ?_;have f:=d.1;have m:=d.2.1;have g:∀a b:Nat,((a:Int)<(b:Int))=(a<b):=λa b=>propext an;have i:∀a b:Nat,((a:Int)<=(b:Int))=(a<=b):=λa b=>propext an;have pos:∀a:Nat,(0<a)=(a≠0):=λa=>propext an;cases j:aX x.op
 .simp[YJ j]
 .have n:gn 21 16=5:=by decide
  have o:gn 37 16=5:=by decide
  have p:gn 53 16=5:=by decide
  have q:gn 69 16=5:=by decide
  have r:gn 29 16=13:=by decide
  have t:gn 45 16=13:=by decide
  have u:gn 61 16=13:=by decide
  have v:gn 77 16=13:=by decide
  have w:bO .i64 29 8=21:=by decide
  have y:bO .i64 45 8=37:=by decide
  have z:bO .i64 61 8=53:=by decide
  have A:bO .i64 77 8=69:=by decide
  rcases xJ j with h|h|h|h|h|h|h|h
  .simp[h,n,bG,gW]
  .simp[h,o,bG,gW,g]
  .simp[h,p,bG,gW,i]
  .simp[h,q];refine aw (YG c 84 s.a x.k f l) ?_;simp[cC,bG,h,pos]
  .simp[h,r,w,bG,gW]
  .simp[h,t,y,bG,gW,g]
  .simp[h,u,z,bG,gW,i]
  .simp[h,v,A];refine aw (YG c 84 s.a s.x f m) ?_;simp[cC,bG,h,pos]
def zGi(m i:Nat):(m/2^i%2==1)=m.testBit i:=by rw[acf,aaw];simp
def lo(v:Nat):Nat:=v%4294967296
def hi(v:Nat):Nat:=v/4294967296%4294967296
def iV(d:Da):List Nat:=[d.nr,d.aA,lo d.ip,hi d.ip]++d.args.flatMap λa=>[lo a,hi a]
def zA4(l:List Nat):(l.flatMap λa=>[lo a,hi a]).length=2*l.length:=by
 induction l with
 | nil=>rfl
 | cons a l b=>simp only[acP,aa6,b,aaq,acX];omega
def ztB:∀(l:List Nat) (i:Nat) (h:i<l.length),(l.flatMap λa=>[lo a,hi a])[2*i]?=some (lo l[i])/\(l.flatMap λa=>[lo a,hi a])[2*i+1]?=some (hi l[i])
 | [],i,h=>by simp at h
 | a::l,0,_=>by simp
 | a::l,i+1,h=>by
  have:=ztB l i (by simpa using h);rw[show 2*(i+1)=2*i+2 by omega,show 2*i+2+1=2*i+1+2 by omega];simpa using this
def As{d:Da}(h:d.args.length=6):(iV d).length=16:=by rw[iV,aa6,zA4,h];rfl
def Oo(v:Nat):lo v<4294967296:=abg _ ah9
def Oq(v:Nat):hi v<4294967296:=abg _ ah9
def YK{d:Da}(h:d.ok):∀w∈iV d,w<4294967296:=by
 intro w b;simp only[iV,aa2,aah,aa1,or_false,List.mem_flatMap] at b
 rcases b with(rfl|rfl|rfl|rfl)|⟨a,_,rfl|rfl⟩
 .exact h.1
 .exact h.2.1
 .exact Oo _
 .exact Oq _
 .exact Oo _
 .exact Oq _
def zGj(v:Nat):fc .u32 (v:Int)=((lo v:Nat):Int):=rfl
def YL(v:Nat)(h:v<18446744073709551616):jZ .u64 (v:Int) 32=((v/4294967296:Nat):Int):=by
 unfold jZ
 have:(min (32:Int).toNat IntKind.u64.bits)=32:=by decide
 rw[this];change (v:Int).fdiv 4294967296=_;rw[acE _ ah9];rfl
def zNh(v:Nat):lo (v/4294967296)=hi v:=rfl
def H4(cs:List V)(l:List Nat)(n:Nat):ae:=[some (.cells cs),some (.cells (ax .u32 (aR 16))),some (.cells (ax .u32 l)),some (.cells [.int .i64 n])]
def YM[bQ G](cs:List V)(l:List Nat)(n v:Nat)(a:l.length=16)(m:n+1<16)(b:v<18446744073709551616) :
  bE G (.F 159 [.int .u64 v,.ptr 2 0,.ptr 3 0] (H4 cs l n) (.bc []) (H4 cs ((l.set n (lo v)).set (n+1) (hi v)) (n+2))):=by
 refine fg bQ.ahf (aab rfl) ?_;have c:=wQ .u32 l n (lo v) an;have d:=wQ .u32 (l.set n (lo v)) (n+1) (hi v) (by simp;omega);have e:aC .i64 (n:Int) 1=((n+1:Nat):Int):=bA an;have f:aC .i64 (n:Int) 2=((n+2:Nat):Int):=N0 (n:=2) an;have g:=YL v b;have h:((n:Int)<16)=True:=bC an;have i:(((n+1:Nat):Int)<16)=True:=bC an;have j:(n+1<=16)=True:=aB an
 have o:(n+1+1<=16)=True:=aB an;have k:(n<=14)=True:=aB an;simp[H4,e,f,g,zGj,zNh,a,h,i,j,k,c,d,-aaa,-aao]
def Ot(v:Nat)(h:v<18446744073709551616):fc .u64 (v:Int)=(v:Int):=by unfold fc;exact IntWalk.u64_in _ ⟨an,an⟩
def zA5(a b:Nat)(e:a<4294967296)(f:b<4294967296):vA .u64 (a:Int) (jz .u64 (b:Int) 32)=((a+b*4294967296:Nat):Int):=by
 have c:jz .u64 (b:Int) 32=((b*4294967296:Nat):Int):=by
  unfold jz
  have:(min (32:Int).toNat IntKind.u64.bits)=32:=by decide
  rw[this];rw[show((b:Int)*2^32)=((b*4294967296:Nat):Int) by omega];exact IntWalk.u64_in _ ⟨an,an⟩
 rw[c];change IntKind.u64.wrap ((abM 64 (a:Int) ||| abM 64 ((b*4294967296:Nat):Int)).toNat:Int)=_;rw[sv,sv]
 have d:(ab6 64 a ||| ab6 64 (b*4294967296)).toNat=a+b*4294967296:=by rw[BitVec.toNat_or,acB,acB,aaQ an,aaQ an];have:=ab0 (i:=32) (b:=a) an b;rw[adz,abX,show(4294967296:Nat)=2^32 from rfl,<-this];omega
 rw[d];exact IntWalk.u64_in _ ⟨an,an⟩
def Au(d:Da)(i:Nat):List Nat:=(iV d).take (4+2*i)++aR (12-2*i)
def ztC{d:Da}(h:d.args.length=6){i:Nat}(hi:i<=6):(Au d i).length=16:=by simp[Au,As h];omega
def ztD{d:Da}(h:d.args.length=6){i:Nat}(hi:i<=6)(j:Nat):(Au d i)[j]?=if j<4+2*i then(iV d)[j]? else if j<16 then some 0 else none:=by
 have c:=As h;rw[Au,List.getElem?_append,abn,c,List.getElem?_take]
 by_cases a:j<4+2*i
 .rw[if_pos an,if_pos a,if_pos a]
 .rw[if_neg an,if_neg a]
  by_cases b:j<16
  .rw[if_pos b];simp[aR,acU];omega
  .rw[if_neg b];simp[aR,acU];omega
def zzC{d:Da}(h:d.args.length=6){i:Nat}(m:i<6):((Au d i).set (4+2*i) (lo d.args[i])).set (4+2*i+1) (hi d.args[i])=Au d (i+1):=by
 have f:=ztC h (show i<=6 by omega);have a:=ztB d.args i an
 have g:(iV d)[4+2*i]?=some (lo d.args[i]):=by rw[iV,abm ir];simpa using a.1
 have k:(iV d)[4+2*i+1]?=some (hi d.args[i]):=by rw[iV,abm (by simp;omega)];simpa[show 4+2*i+1-4=2*i+1 by omega] using a.2
 apply aca;intro j;rw[ztD h an,abC,abC,acn,f,ztD h an]
 by_cases b:4+2*i+1=j
 .subst b;rw[if_pos rfl,if_pos an,if_pos an,k]
 .rw[if_neg b]
  by_cases c:4+2*i=j
  .subst c;rw[if_pos rfl,if_pos an,if_pos an,g]
  .rw[if_neg c]
   by_cases e:j<4+2*i
   .rw[if_pos e,if_pos an]
   .rw[if_neg e]
    by_cases l:j<4+2*(i+1)
    .omega
    .rw[if_neg l]
def zGk(d:Da)(h:d.args.length=6):((((aR 16).set 0 d.nr).set 1 d.aA).set 2 (lo d.ip)).set 3 (hi d.ip)=Au d 0:=by have:aR 16=0::0::0::0::aR 12:=rfl;rw[this];simp[Au,iV]
def zGl(d:Da)(h:d.args.length=6):Au d 6=iV d:=by simp only[Au,show 12-2*6=0 from rfl,aR,List.replicate_zero,List.append_nil];exact abd (by rw[As h];exact aaH _)
def zvO[bQ G](d:Da)(hd:d.ok):FP G 160 [DV d] (.agg (ax .u32 (iV d))):=by
 obtain⟨e,f,g,a,h⟩:=hd;refine bw bQ.ahg (aab rfl) ?_;have o:=zA5 d.nr d.aA e f
 have j:lo (d.nr+d.aA*4294967296)=d.nr:=by unfold lo;omega
 have l:hi (d.nr+d.aA*4294967296)=d.aA:=by unfold hi;omega
 have p1:=YM (G:=G) d.cs (aR 16) 0 (d.nr+d.aA*4294967296) ir ah9 an;have p2:=YM (G:=G) d.cs (((aR 16).set 0 d.nr).set 1 d.aA) 2 d.ip ir ah9 g;rw[j,l] at p1;have m:=eA (k:=.u64) a;simp[H4,Da.cs,-aaa,-aaI] at p1 p2;simp(disch:=omega)[DV,Da.cs,Ot,o,-aaa,-aaI];refine kW p1 ir ?_;simp[ak];refine kW p2 ir ?_;simp[ak,a,m]
 refine aO 6 (λi=>[(2,.ptr 1 0),(3,.ptr 2 0),(5,.fn 159 [.ptr 2 0,.ptr 3 0]),(24,.agg (ax .u64 d.args)),(25,.int .i64 i)])
  (λi=>H4 d.cs (Au d i) (4+2*i)) (λ_=>True) ?_ ?_
 .simp[av,ak,H4,Da.cs,zGk d a]
 intro i hi _
 by_cases b:i<6
 .have p3:=YM (G:=G) d.cs (Au d i) (4+2*i) d.args[i] (ztC a hi) an (h _ (aak _));rw[zzC a b] at p3;have n:=su .u64 d.args i an;simp[H4,Da.cs,-aaa,-aaI] at p3;simp(disch:=omega)[bC,aB,a,n,H4,Da.cs,-aaa,-aaI];refine kW p3 ir ?_;simp(disch:=omega)[ak,bA,b,av,show 4+2*(i+1)=4+2*i+2 from an,-aaa,-aaI]
 .have p:i=6:=an
  subst p;have c:=As a;have q:=eA (k:=.u32) c;simp[H4,zGl d a,c,q]
def pO(d:Da)(a:Nat):Nat×Bool:=if a%4=0/\a<64 then((iV d).getD (a/4) 0,true) else(0,false)
def zvP[bQ G](n:Nat)(d:n<4294967296):FP G 158 [.int .u32 n] (.bool (decide (n%4=0/\n<64))):=by
 refine bw bQ.ahe (aab rfl) ?_;have a:gn (n:Int) 4=((n%4:Nat):Int):=wT (b:=4)
 by_cases h:n%4=0
 .have c:((n:Int)<64)=(n<64):=propext an;simp[a,h,c]
 .have:((n%4:Nat):Int)≠0:=an
  simp[a,h,aG this,-aai]
def zx4[bQ G](d:Da)(n:Nat)(hd:d.ok)(a:n<4294967296):FP G 161 [DV d,.int .u32 n] (.bc [.int .u32 ((pO d n).1:Nat),.bool (pO d n).2]):=by
 refine bw bQ.ahh (aab rfl) ?_;have e:=zvO (G:=G) d hd;have g:=eA (k:=.u64) hd.2.2.2.1;have f:=hd.2.2.2.1;simp[DV,Da.cs] at e |-;refine aw (zvP n a) ?_
 by_cases h:n%4=0/\n<64
 .have i:kF .u32 (n:Int) 4=((n/4:Nat):Int):=X0 (b:=4) a ah9;have j:=As f;have c:=su .u32 (iV d) (n/4) an
  have l:(iV d).getD (n/4) 0=(iV d)[n/4]'(by omega):=by simp[abG,aae (show n/4<(iV d).length by omega)]
  simp[h,f,g,pO];refine aw e ?_;simp(disch:=omega)[i,bC,aB,j,c,-aao]
 .simp[h,pO]
def yN(s:St)(k:Nat):Nat:=if k<16 then s.m.getD k 0 else 0
def vi(s:St)(k v:Nat):St:=if k<16 then{ s with m:=s.m.set k v } else s
def ic(s:St)(x:af)(d:Da):St :=
 if x.op=0 then{ s with a:=x.k } else if x.op=1 then{ s with x:=x.k } else if x.op=32 then{ s with a:=(pO d x.k).1 }
 else if x.op=96 then{ s with a:=yN s x.k } else if x.op=97 then{ s with x:=yN s x.k } else if x.op=2 then vi s x.k s.a else if x.op=3 then vi s x.k s.x
 else if x.op=7 then{ s with x:=s.a } else if x.op=135 then{ s with a:=s.x } else if x.op=132 then{ s with a:=oJ s.a } else s
def jq(s:St)(x:af):Nat:=if(bf x.op).2.1 then s.x else x.k
def kj(s:St)(x:af):Nat×Bool:=cC (bf x.op).1 s.a (jq s x)
def dJ(s:St)(x:af)(d:Da):St×Bool :=
 if(bf x.op).2.2 then(if(kj s x).2 then{ s with a:=(kj s x).1 } else s,(kj s x).2) else(ic s x d,true)
def zDy[cW G](s:St)(k:Nat)(a:s.ok)(g:k<4294967296):FP G 162 [SV s,.int .u32 k] (.int .u32 (yN s k:Nat)):=by
 refine bw cW.ahi (aab rfl) ?_;have b:=a.2.2.1
 by_cases h:16<=k
 .have:(16:Int)<=(k:Int):=an
  simp[SV,St.cs,this,yN,show¬k<16 from an]
 .have d:k<16:=an
  have c:=su .u32 s.m k an
  have i:s.m.getD k 0=s.m[k]'(by omega):=by simp[abG,aae (show k<s.m.length by omega)]
  have e:((16:Int)<=(k:Int))=False:=D5 an;have f:((k:Int)<16)=True:=bC an;have j:(2+k+1<=16+1+1)=True:=aB an;simp[SV,St.cs,e,f,b,On,c,yN,d,show 2+k<=17 from an]
def ztE[cW G](s:St)(k v:Nat)(d:s.ok)(i:k<4294967296):FP G 163 [SV s,.int .u32 k,.int .u32 v] (SV (vi s k v)):=by
 refine bw cW.ahj (aab rfl) ?_;have a:=d.2.2.1;have e:=eA (k:=.u32) a
 by_cases b:k<16
 .have c:=wQ .u32 s.m k v an;have f:((k:Int)<16)=True:=bC an;have g:(ax .u32 (s.m.set k v)).take 16=ax .u32 (s.m.set k v):=eA (by simp[a]);simp[SV,St.cs,f,a,On,SI,c,vi,b,g,show 2+k<=17 from an]
 .have h:((k:Int)<16)=False:=kD an;simp[SV,St.cs,h,vi,b,a,e]
def zH5[dy G](a:Nat)(b:a<4294967296):FP G 138 [.int .u32 a] (.int .u32 (oJ a:Nat)):=by
 refine bw dy.agY (aab rfl) ?_
 have:AK .u32 (a:Int)=((oJ a:Nat):Int):=by unfold AK oJ;rw[Gh];omega
 simp[this]
def zru{s:St}(a:s.ok){k v:Nat}(b:v<4294967296):(vi s k v).ok:=by
 unfold vi;split
 .refine⟨a.1,a.2.1,by simp[a.2.2.1],λw c=>?_⟩
  rcases List.mem_or_eq_of_mem_set c with h|h
  .exact a.2.2.2 w h
  .rw[h];exact b
 .exact a
def zDz{s:St}(a:s.ok)(k:Nat):yN s k<4294967296:=by
 unfold yN;split
 .rename_i h;rw[abG,aae (show k<s.m.length by rw[a.2.2.1];exact h),abJ];exact a.2.2.2 _ (aak _)
 .decide
def zvQ{d:Da}(hd:d.ok)(k:Nat):(pO d k).1<4294967296:=by
 unfold pO;split
 .rename_i h;have a:=As hd.2.2.2.1;simp only[abG,aae (show k/4<(iV d).length by omega),abJ];exact YK hd _ (aak _)
 .decide
def YN{s:St}(a:s.ok){x:af}(b:x.k<4294967296):jq s x<4294967296:=by
 unfold jq;split
 .exact a.2.1
 .exact b
def zDA{s:St}(i:s.ok){x:af}(g:x.k<4294967296){d:Da}(hd:d.ok):(ic s x d).ok:=by
 obtain⟨f,e,b,c⟩:=i;have j:oJ s.a<4294967296:=abg _ ah9;have h:=zDz ⟨f,e,b,c⟩ x.k;have l:=zvQ hd x.k;unfold ic
 repeat' split
 all_goals first
  | exact⟨g,e,b,c⟩
  | exact⟨f,g,b,c⟩
  | exact⟨l,e,b,c⟩
  | exact⟨h,e,b,c⟩
  | exact⟨f,h,b,c⟩
  | exact zru ⟨f,e,b,c⟩ f
  | exact zru ⟨f,e,b,c⟩ e
  | exact⟨f,f,b,c⟩
  | exact⟨e,e,b,c⟩
  | exact⟨j,e,b,c⟩
  | exact⟨f,e,b,c⟩
def Gl{s:St}(a:s.ok){x:af}(b:x.k<4294967296){d:Da}(hd:d.ok):(dJ s x d).1.ok:=by
 unfold dJ;split
 .simp only;split
  .exact⟨Sx _ a.1 (YN a b),a.2⟩
  .exact a
 .exact zDA a b hd
def zx5[dT G][dy G][aE G][bQ G][cW G](s:St)(x:af)(d:Da)(f:s.ok)(g:x.k<4294967296)(hd:d.ok) :
  FP G 164 [SV s,IV x,DV d] (.bc [SV (dJ s x d).1,.bool (dJ s x d).2]):=by
 refine bw cW.ahk (aab rfl) ?_;have b:=f.2.2.1;have c:=eA (k:=.u32) b;have q:=hd.2.2.2.1;have J:=eA (k:=.u64) q;have r:=K5 (G:=G) x;have l:=K_ (G:=G) inferInstance (bf x.op).1 s.a (jq s x) f.1 (YN f g);have t:=zx4 (G:=G) d x.k hd g;have n:=zDy (G:=G) s x.k f g;have h:=ztE (G:=G) s x.k s.a f g;have i:=ztE (G:=G) s x.k s.x f g;have K:=zH5 (G:=G) s.a f.1
 have o:∀v,(vi s x.k v).m.length=16:=λv=>by unfold vi;split<;>simp[b]
 have j:=λv=>eA (k:=.u32) (o v);simp[SV,IV,DV,af.cs,St.cs,Da.cs] at r t n h i |-;refine aw r ?_;cases u:(bf x.op).2.2
 case true =>
  simp
  have e:dJ s x d=(if(kj s x).2 then{ s with a:=(kj s x).1 } else s,(kj s x).2):=by simp[dJ,u]
  cases w:(bf x.op).2.1
  .have:jq s x=x.k:=by simp[jq,w]
   rw[this] at l;simp;refine aw l ?_
   cases p:(cC (bf x.op).1 s.a x.k).2<;>simp[p,e,kj,this,b,c]
  .have:jq s x=s.x:=by simp[jq,w]
   rw[this] at l;simp;refine aw l ?_
   cases p:(cC (bf x.op).1 s.a s.x).2<;>simp[p,e,kj,this,b,c]
 simp
 have e:dJ s x d=(ic s x d,true):=by simp[dJ,u]
 rw[e]
 by_cases y:x.op=0
 .simp[y,ic,b,c]
 by_cases z:x.op=1
 .simp[z,aG,ic,b,c]
 by_cases A:x.op=32
 .simp[A,aG,ic,q,J];refine aw t ?_;simp[b,c]
 by_cases B:x.op=96
 .simp[B,aG,ic,b,c];refine aw n ?_;simp[b,c]
 by_cases C:x.op=97
 .simp[C,aG,ic,b,c];refine aw n ?_;simp[b,c]
 by_cases D:x.op=2
 .simp[D,aG,ic,b,c];refine aw h ?_;simp[b,o,j]
 by_cases E:x.op=3
 .simp[E,aG,ic,b,c];refine aw i ?_;simp[b,o,j]
 by_cases F:x.op=7
 .simp[F,aG,ic,b,c]
 by_cases H:x.op=135
 .simp[H,aG,ic,b,c]
 by_cases I:x.op=132
 .simp[I,aG,ic];refine aw K ?_;simp[b,c]
 simp[y,z,A,B,C,D,E,F,H,I,aG,ic,b,c]
def kJ(x:af):Bool :=
 if x.op=32 then decide (x.k%4=0/\x.k<64) else if x.op=52 then decide (x.k≠0) else if x.op=2\/x.op=3\/x.op=96\/x.op=97 then decide (x.k<16) else if x.op=100\/x.op=116 then decide (x.k<32) else true
def cd(x:af)(left:Nat):Bool:=jS x&&kJ x&&(if x.op=5 then decide (x.k<left) else true)&&(if aX x.op then decide (x.jt<left/\x.jf<left) else true)
def jF:List af->Bool
 | []=>true
 | x::f=>cd x f.length&&jF f
def kK(f:List af):Bool:=match f.getLast? with|some x=>fW x.op|none=>false
def du(f:List af):Bool:=decide (f.length<=4096)&&jF f&&kK f
def zP:List (V×V):=[(.int .i64 32,.fn 152 [.ptr 0 0]),(.int .i64 52,.fn 153 [.ptr 0 0]),(.int .i64 2,.fn 150 [.ptr 0 0]),(.int .i64 3,.fn 150 [.ptr 0 0]),(.int .i64 96,.fn 150 [.ptr 0 0]),(.int .i64 97,.fn 150 [.ptr 0 0]),
 (.int .i64 100,.fn 151 [.ptr 0 0]),(.int .i64 116,.fn 151 [.ptr 0 0])]
def zDB[aD G]:bE G (.F 154 [] [] (.mp 1) [some (.cells [.fn 149 []]),some (.map zP)]):=by refine fg aD.aha (aab rfl) ?_;simp[zP]
def Ou[aD G](H:ae)(b:Bool)(n:Int):bE G (.F 149 [.bool b,.int .i64 n] H (.int .i64 (if b then 0 else n)) H):=by
 refine fg aD.ag5 (aab rfl) ?_
 cases b<;>simp
def RH(x:af):ae:=[some (.cells [.fn 149 []]),some (.map zP),some (.cells x.cs)]
def qD(n:Nat)(h:0<n):zP.map (λp=>(p.1.cl n,p.2.cl n))=zP:=by simp[zP,h]
def Ov{f:Nat}[aD G](x:af)(e:Int)(h:f=150/\e=(if decide (x.k<16) then 0 else 7)\/f=151/\e=(if decide (x.k<32) then 0 else 1)\/f=152/\e=(if decide (x.k%4=0/\x.k<64) then 0 else 6)\/f=153/\e=(if decide (x.k≠0) then 0 else 8)) :
  bE G (.F f [IV x,.ptr 0 0] (RH x) (.int .i64 e) (RH x++[some (.cells x.cs)])):=by
 have g:gn (x.k:Int) 4=((x.k%4:Nat):Int):=wT (b:=4);have a:((x.k:Int)<16)=(x.k<16):=propext an;have c:((x.k:Int)<32)=(x.k<32):=propext an;have d:((x.k:Int)<64)=(x.k<64):=propext an
 have j:((x.k:Int) !=0)=decide (x.k≠0):=by rw[aaw];simp
 rcases h with⟨rfl,rfl⟩|⟨rfl,rfl⟩|⟨rfl,rfl⟩|⟨rfl,rfl⟩
 .refine fg aD.ag6 (aab rfl) ?_;simp[IV,af.cs,RH,a];refine kW (Ou _ _ _) ir ?_;simp[ak,qD]
 .refine fg aD.ag7 (aab rfl) ?_;simp[IV,af.cs,RH,c];refine kW (Ou _ _ _) ir ?_;simp[ak,qD]
 .refine fg aD.ag8 (aab rfl) ?_
  by_cases i:x.k%4=0
  .simp[IV,af.cs,RH,g,i,d];refine kW (Ou _ _ _) ir ?_;simp[ak,qD]
  .have:((x.k%4:Nat):Int)≠0:=an
   simp[IV,af.cs,RH,g,i,aG this,-aai];refine kW (Ou _ _ _) ir ?_;simp[ak,qD]
 .refine fg aD.ag9 (aab rfl) ?_;simp[IV,af.cs,RH,j];refine kW (Ou _ _ _) ir ?_;simp[ak,qD]
def ei(x:af)(a:Nat):List Int:=if fW x.op then [] else if x.op=5 then [((a+1+x.k:Nat):Int)] else if aX x.op then [(a:Int)+1+min x.jt x.jf,(a:Int)+1+max x.jt x.jf] else [((a+1:Nat):Int)]
def af.Ee(x:af):Prop:=aX x.op=true->0<=x.jt/\x.jt<=255/\0<=x.jf/\x.jf<=255
def Av{x:af}(h:jS x=true):x.Ee:=by
 intro b;unfold jS at h;split at h
 .rename_i r c
  have a:∀r∈pg,aX r.1=r.2.2.2:=by decide
  obtain⟨d,e⟩:=Gc c;have:=a r e;rw[d,b] at this;simp only[<-this,if_true,aaA,decide_eq_true_eq] at h;exact h.2
 .cases h
def CW(n:Nat)(h:n<4294967296):fc .i64 (n:Int)=(n:Int):=by unfold fc;exact IntWalk.i64_in _ ⟨an,an⟩
def oH[aE G][aD G](x:af)(c:Nat)(j:x.k<4294967296)(l:x.Ee)(v:c<=5000):FP G 155 [IV x,.int .i64 c] (.vs (ints .i64 (ei x c)) .no):=by
 refine bw aD.ahb (aab rfl) ?_;have h:=N_ (G:=G) x;have i:=zL (G:=G) x;have m:aC .i64 (c:Int) 1=((c+1:Nat):Int):=bA an;simp[IV,af.cs,m,-aaa] at h i |-;refine aw h ?_;cases d:fW x.op
 .have w:fW x.op=false:=d;simp
  by_cases e:x.op=5
  .have y:aC .i64 ((c+1:Nat):Int) (x.k:Int)=((c+1+x.k:Nat):Int):=qA an
   have f:aC .i64 ((c:Int)+1) (x.k:Int)=((c+1+x.k:Nat):Int):=by rw[<-qA (a:=c+1) (b:=x.k) an];rfl
   have n:fW 5=false:=by decide
   simp[e,n,CW x.k j,f,ei,ints,-aaa]
  .simp[e,aG];refine aw i ?_;cases g:aX x.op
   .simp[ei,d,e,g,ints]
   .obtain⟨z,A,B,C⟩:=l g
    have o:(if x.jf<x.jt then x.jf else x.jt)=min x.jt x.jf:=an
    have p:(if x.jf>x.jt then x.jf else x.jt)=max x.jt x.jf:=an
    have D:aC .i64 ((c+1:Nat):Int) (min x.jt x.jf)=(c:Int)+1+min x.jt x.jf:=by rw[eB]<;>omega
    have E:aC .i64 ((c+1:Nat):Int) (max x.jt x.jf)=(c:Int)+1+max x.jt x.jf:=by rw[eB]<;>omega
    have q:(if x.jt<x.jf then x.jf else x.jt)=max x.jt x.jf:=an
    have r:(if x.jt>x.jf then x.jf else x.jt)=min x.jt x.jf:=an
    have s:(if x.jt<=x.jf then x.jt else x.jf)=min x.jt x.jf:=an
    have t:aC .i64 ((c:Int)+1) (min x.jt x.jf)=(c:Int)+1+min x.jt x.jf:=by rw[eB]<;>omega
    have u:aC .i64 ((c:Int)+1) (max x.jt x.jf)=(c:Int)+1+max x.jt x.jf:=by rw[eB]<;>omega
    simp[o,p,t,u,ei,d,e,g,ints,-aaa]
 .simp[ei,d]
def xK(op:Int):Option (Nat×Nat) :=
 if op=32 then some (0,152) else if op=52 then some (1,153) else if op=2 then some (2,150) else if op=3 then some (3,150) else if op=96 then some (4,150) else if op=97 then some (5,150) else
 if op=100 then some (6,151) else if op=116 then some (7,151) else none
def zzD(op:Int):kc (.sc .int) (.int .i64 op) zP 0=some ((xK op).map λp=>(p.1,.fn p.2 [.ptr 0 0])):=by
 unfold xK zP
 by_cases a:op=32;· subst a;rfl
 by_cases b:op=52;· subst b;rfl
 by_cases c:op=2;· subst c;rfl
 by_cases d:op=3;· subst d;rfl
 by_cases e:op=96;· subst e;rfl
 by_cases f:op=97;· subst f;rfl
 by_cases g:op=100;· subst g;rfl
 by_cases h:op=116;· subst h;rfl
 simp[kc,ka,qP,a,b,c,d,e,f,g,h,aG]
def zGm[aD G](x:af){i f:Nat}(h:xK x.op=some (i,f)):∃e:Int,bE G (.F f [IV x,.ptr 0 0] (RH x) (.int .i64 e) (RH x++[some (.cells x.cs)]))/\(e=0↔kJ x=true):=by
 unfold xK at h
 have r4 (a:Bool) (n:Int) (j:n≠0):((if a=true then 0 else n)=0↔a=true):=by cases a<;>simp[j]
 unfold kJ;split at h
 .rename_i b;cases h;exact⟨_,Ov x _ (.inr (.inr (.inl ⟨rfl,rfl⟩))),by rw[r4 _ _ ah9,if_pos b]⟩
 split at h
 .rename_i d b;cases h;exact⟨_,Ov x _ (.inr (.inr (.inr ⟨rfl,rfl⟩))),by rw[r4 _ _ ah9,if_neg d,if_pos b]⟩
 have two:¬x.op=32->¬x.op=52->x.op=2\/x.op=3\/x.op=96\/x.op=97->some (i,f)=some (i,150)->∃e:Int,bE G (.F f [IV x,.ptr 0 0] (RH x) (.int .i64 e) (RH x++[some (.cells x.cs)])) /\
   (e=0↔(if x.op=32 then decide (x.k%4=0/\x.k<64) else if x.op=52 then decide (x.k≠0) else if x.op=2\/x.op=3\/x.op=96\/x.op=97 then decide (x.k<16) else if x.op=100\/x.op=116 then decide (x.k<32) else true)=true):=by
  intro d b l m;cases m;exact⟨_,Ov x _ (.inl ⟨rfl,rfl⟩),by rw[r4 _ _ ah9,if_neg d,if_neg b,if_pos l]⟩
 rename_i n1 c;split at h
 .rename_i b;cases h;exact two n1 c (.inl b) rfl
 split at h
 .rename_i b;cases h;exact two n1 c (.inr (.inl b)) rfl
 split at h
 .rename_i b;cases h;exact two n1 c (.inr (.inr (.inl b))) rfl
 split at h
 .rename_i b;cases h;exact two n1 c (.inr (.inr (.inr b))) rfl
 rename_i o p q r
 have g:¬(x.op=2\/x.op=3\/x.op=96\/x.op=97):=an
 split at h
 .rename_i b;cases h;exact⟨_,Ov x _ (.inr (.inl ⟨rfl,rfl⟩)),by rw[r4 _ _ ah9,if_neg n1,if_neg c,if_neg g,if_pos (.inl b)]⟩
 split at h
 .rename_i b;cases h;exact⟨_,Ov x _ (.inr (.inl ⟨rfl,rfl⟩)),by rw[r4 _ _ ah9,if_neg n1,if_neg c,if_neg g,if_pos (.inr b)]⟩
 cases h
def zA6{x:af}(h:xK x.op=none):kJ x=true:=by
 unfold xK at h;unfold kJ
 repeat' split at h
 all_goals first|(cases h;done)|skip
 rw[if_neg an,if_neg an,if_neg an,if_neg an]
def zrv{f:List af}{i:Nat}(h:i<f.length):jF (f.drop i)=(cd f[i] (f.length-1-i)&&jF (f.drop (i+1))):=by
 rw[aaF h];simp only[jF,aby]
 congr 2;omega
def sC{f:List af}{i:Nat}(h:i<f.length):(IL f)[i]?=some f[i].cs:=by simp[aae h]
def YP(f:List af)(v:V):Prop:=∃i e:Int,v=.bc [.int .i64 i,.int .i64 e]/\(e=0↔du f=true)
def zvR{f:List af}(a:f≠[])(b:f.length<=4096)(c:jF f=true)(d:fW (f[f.length-1]'(by have:=aaU.2 a;omega)).op=true):du f=true:=by
 have:f.getLast?=some (f[f.length-1]'(by have:=aaU.2 a;omega)):=by rw[ab5];exact aae _
 simp[du,kK,b,c,this,d]
def zpT{f:List af}(a:f≠[])(b:fW (f[f.length-1]'(by have:=aaU.2 a;omega)).op=false):du f=false:=by
 have:f.getLast?=some (f[f.length-1]'(by have:=aaU.2 a;omega)):=by rw[ab5];exact aae _
 simp[du,kK,this,b]
def zrw{f:List af}(h:jF f=false):du f=false:=by simp[du,h]
def H2:ae:=[some (.cells [.fn 149 []]),some (.map zP)]
def Gm{x:af}{i n:Nat}(h:i<n)(e:(x.op==5||aX x.op)=true) :
  (∀w∈ei x i,w<(n:Int))↔((if x.op=5 then decide (x.k<n-1-i) else true)&&(if aX x.op then decide (x.jt<(n-1-i:Nat)/\x.jf<(n-1-i:Nat)) else true))=true:=by
 by_cases a:x.op=5
 .have d:fW x.op=false:=by rw[a];decide
  have f:aX x.op=false:=by rw[a];decide
  rw[if_pos a,f];rw[a] at d;simp only[ei,d,a,aa7,if_false,if_true,aaZ,forall_eq,adf,decide_eq_true_eq];omega
 .have b:aX x.op=true:=by simpa[a,aG] using e
  have g:fW x.op=false:=by
   have c:∀p∈[21,37,53,69,29,45,61,(77:Int)],fW p=false:=by decide
   exact c _ (by simpa[aX] using b)
  rw[if_neg a,if_pos b];simp only[ei,g,a,b,aa7,if_false,if_true,aah,aa1,or_false,forall_eq_or_imp,forall_eq,abR,decide_eq_true_eq];omega
def SK{x:af}(a:(x.op==5||aX x.op)=false)(left:Nat):((if x.op=5 then decide (x.k<left) else true)&&(if aX x.op then decide (x.jt<left/\x.jf<left) else true))=true:=by simp only[Bool.or_eq_false_iff,beq_eq_false_iff_ne] at a;simp[a.1,a.2]
def Gn{x:af}{left:Nat}(a:jS x=true)(b:kJ x=true):cd x left=((if x.op=5 then decide (x.k<left) else true)&&(if aX x.op then decide (x.jt<left/\x.jf<left) else true)):=by simp[cd,a,b]
def SL(x:af)(i:Nat):(ei x i).length<=2:=by unfold ei;split;simp;split;simp;split<;>simp
def zDC[aE G][aD G](f:List af)(hf:f.length<=maxLen)(hk:∀x∈f,x.k<4294967296):∃v,FP G 156 [FL f] v/\YP f v:=by
 refine DA aD.ahc (aab rfl) ?_
 by_cases O:f=[]
 .subst O;simp[FL];exact⟨0,5,rfl,ah9⟩
 have az:0<f.length:=aaU.2 O;have hz:((f.length:Int)=0)=False:=ah8
 by_cases Iy:f.length>4096
 .have z:((4096:Int)<(f.length:Int))=True:=ah7
  have:du f=false:=by simp[du,show¬f.length<=4096 by omega]
  simp[FL,O,z,gW];exact⟨0,3,rfl,by simp[this]⟩
 have z:((4096:Int)<(f.length:Int))=False:=ah8;simp[FL,O,z,gW];refine vh zDB ir ?_;simp;refine aO f.length (λi=>[(0,FL f),(4,.mp 1),(22,FL f),(23,.int .i64 f.length),(24,.int .i64 i)]) (λ_=>H2) (λi=>jF (f.take 0)=true/\jF f=jF (f.drop i)) ?_ ?_
 .simp[av,ak,H2,qD,FL,jF]
 intro i hi P
 by_cases q:i<f.length
 .have Q:=sC q;have X:f[i]∈f:=aak q;have R:=hk _ X;have F:=zrv q
  have r:cd f[i] (f.length-1-i)=false->∀j e:Int,e≠0->YP f (.bc [.int .i64 j,.int .i64 e]):=by intro h j e H;rw[h] at F;exact⟨j,e,rfl,by simp[H,zrw (P.2.trans F)]⟩
  generalize f[i]=x at Q R F X r;have Y:=Oa (G:=G) x;have U:=zL (G:=G) x;simp[IV,af.cs] at Y U;simp(disch:=omega)[H2,bC,FL,Q,af.cs,-aaa];refine aw Y ?_;cases y:jS x
  .simp;exact r (by simp[cd,y]) _ _ ah9
  simp[zzD]
  cases S:xK x.op with
  | none =>
   have D:=zA6 S
   by_cases E:x.op=5
   .have I:(x.op==5||aX x.op)=true:=by simp[E]
    have V:(x.op==5)=true:=by simp[E]
    simp[V];have s:=oH (G:=G) x i R (Av y) an;simp[IV,af.cs] at s;have b:=bb (x.op==5||aX x.op);obtain⟨a,b⟩:=b;have J:=SL x i
    have d:(a=true->∀w∈ei x i,w<(f.length:Int))->jF f=jF (f.drop (i+1)):=by
     intro K;rw[P.2,F,Gn y D]
     cases a with
     | false=>rw[SK b.symm];simp
     | true=>rw[(Gm q b.symm).1 (K rfl)];simp
    have A:a=true->∀w∈ei x i,¬w<(f.length:Int)->cd x (f.length-1-i)=false:=by intro m w c L;rw[Gn y D];rw[m] at b;rw[<-abQ];intro h;exact L ((Gm q b.symm).2 h w c)
    have g:∀(w:List Int),w.length<=2->(∀v∈w,v∈ei x i)->True:=λ_ _ _=>trivial;generalize ei x i=w at s J d A g;refine aw s ?_;simp
    refine aO w.length (λj=>[(0,FL f),(4,.mp 1),(5,.int .i64 i),(9,.bool a),(22,FL f),(23,.int .i64 f.length),(24,.int .i64 i),(55,.vs (ints .i64 w) .no),(56,.int .i64 w.length),(57,.int .i64 j)])
     (λ_=>[some (.cells [.fn 149 []]),some (.map zP),some (.cells [.int .i64 x.op,.int .i64 x.jt,.int .i64 x.jf,.int .u32 (x.k:Int)])]) (λj=>a=true->∀v∈w.take j,v<(f.length:Int)) ?_ ?_
    .simp[av,ak,FL,qD,b.trans I]
    intro j W t
    by_cases o:j<w.length
    .by_cases l:a=true/\¬w[j]<(f.length:Int)
     .have z:=A l.1 _ (aak o) l.2;have u:((f.length:Int)<=w[j])=True:=ah7;simp(disch:=omega)[bC,l.1,u,FL,-aaa];exact r z i 4 ah9
     .have B:a=true->∀v∈w.take (j+1),v<(f.length:Int):=by
       intro m v c;rw[aaJ,aae o] at c;simp only[acF,aa2,aaZ] at c
       rcases c with c|rfl
       .exact t m v c
       .exact ac8.1 λh=>l ⟨m,an⟩
      cases C:a with
      | false =>
       simp(disch:=omega)[bC,o,FL,av,ak,qD,bA,-aaa]
      | true =>
       have u:((f.length:Int)<=w[j])=False:=eq_false λh=>l ⟨C,an⟩;simp(disch:=omega)[bC,o,FL,u,av,ak,qD,bA,-aaa];rw[C] at B;exact B rfl
    .have M:j=w.length:=an
     subst M;rw[abz] at t;have N:=d t;simp(disch:=omega)[q,av,ak,qD,FL,bA,N,jF,-aaa]
   .have I:(x.op==5||aX x.op)=aX x.op:=by simp[E]
    simp[aG,E];refine aw U ?_;simp;have s:=oH (G:=G) x i R (Av y) an;simp[IV,af.cs] at s;have b:=bb (x.op==5||aX x.op);obtain⟨a,b⟩:=b;have J:=SL x i
    have d:(a=true->∀w∈ei x i,w<(f.length:Int))->jF f=jF (f.drop (i+1)):=by
     intro K;rw[P.2,F,Gn y D]
     cases a with
     | false=>rw[SK b.symm];simp
     | true=>rw[(Gm q b.symm).1 (K rfl)];simp
    have A:a=true->∀w∈ei x i,¬w<(f.length:Int)->cd x (f.length-1-i)=false:=by intro m w c L;rw[Gn y D];rw[m] at b;rw[<-abQ];intro h;exact L ((Gm q b.symm).2 h w c)
    have g:∀(w:List Int),w.length<=2->(∀v∈w,v∈ei x i)->True:=λ_ _ _=>trivial;generalize ei x i=w at s J d A g;refine aw s ?_;simp
    refine aO w.length (λj=>[(0,FL f),(4,.mp 1),(5,.int .i64 i),(9,.bool a),(22,FL f),(23,.int .i64 f.length),(24,.int .i64 i),(55,.vs (ints .i64 w) .no),(56,.int .i64 w.length),(57,.int .i64 j)])
     (λ_=>[some (.cells [.fn 149 []]),some (.map zP),some (.cells [.int .i64 x.op,.int .i64 x.jt,.int .i64 x.jf,.int .u32 (x.k:Int)])]) (λj=>a=true->∀v∈w.take j,v<(f.length:Int)) ?_ ?_
    .simp[av,ak,FL,qD,b.trans I]
    intro j W t
    by_cases o:j<w.length
    .by_cases l:a=true/\¬w[j]<(f.length:Int)
     .have z:=A l.1 _ (aak o) l.2;have u:((f.length:Int)<=w[j])=True:=ah7;simp(disch:=omega)[bC,l.1,u,FL,-aaa];exact r z i 4 ah9
     .have B:a=true->∀v∈w.take (j+1),v<(f.length:Int):=by
       intro m v c;rw[aaJ,aae o] at c;simp only[acF,aa2,aaZ] at c
       rcases c with c|rfl
       .exact t m v c
       .exact ac8.1 λh=>l ⟨m,an⟩
      cases C:a with
      | false =>
       simp(disch:=omega)[bC,o,FL,av,ak,qD,bA,-aaa]
      | true =>
       have u:((f.length:Int)<=w[j])=False:=eq_false λh=>l ⟨C,an⟩;simp(disch:=omega)[bC,o,FL,u,av,ak,qD,bA,-aaa];rw[C] at B;exact B rfl
    .have M:j=w.length:=an
     subst M;rw[abz] at t;have N:=d t
     simp(disch:=omega)[q,av,ak,qD,FL,bA,N,jF,-aaa]
  | some p =>
   obtain⟨n,fn⟩:=p;obtain⟨e,H,Z⟩:=zGm (G:=G) x S;simp;simp[RH,af.cs,IV] at H;refine kW H ir ?_
   by_cases T:e=0
   .have D:=Z.1 T;subst T
    by_cases E:x.op=5
    .have I:(x.op==5||aX x.op)=true:=by simp[E]
     have V:(x.op==5)=true:=by simp[E]
     simp[V,ak,qD];have s:=oH (G:=G) x i R (Av y) an;simp[IV,af.cs] at s;have b:=bb (x.op==5||aX x.op);obtain⟨a,b⟩:=b;have J:=SL x i
     have d:(a=true->∀w∈ei x i,w<(f.length:Int))->jF f=jF (f.drop (i+1)):=by
      intro K;rw[P.2,F,Gn y D]
      cases a with
      | false=>rw[SK b.symm];simp
      | true=>rw[(Gm q b.symm).1 (K rfl)];simp
     have A:a=true->∀w∈ei x i,¬w<(f.length:Int)->cd x (f.length-1-i)=false:=by intro m w c L;rw[Gn y D];rw[m] at b;rw[<-abQ];intro h;exact L ((Gm q b.symm).2 h w c)
     have g:∀(w:List Int),w.length<=2->(∀v∈w,v∈ei x i)->True:=λ_ _ _=>trivial;generalize ei x i=w at s J d A g;refine aw s ?_;simp
     refine aO w.length (λj=>[(0,FL f),(4,.mp 1),(5,.int .i64 i),(9,.bool a),(22,FL f),(23,.int .i64 f.length),(24,.int .i64 i),(55,.vs (ints .i64 w) .no),(56,.int .i64 w.length),(57,.int .i64 j)])
      (λ_=>[some (.cells [.fn 149 []]),some (.map zP),some (.cells [.int .i64 x.op,.int .i64 x.jt,.int .i64 x.jf,.int .u32 (x.k:Int)])]) (λj=>a=true->∀v∈w.take j,v<(f.length:Int)) ?_ ?_
     .simp[av,ak,FL,qD,b.trans I]
     intro j W t
     by_cases o:j<w.length
     .by_cases l:a=true/\¬w[j]<(f.length:Int)
      .have z:=A l.1 _ (aak o) l.2;have u:((f.length:Int)<=w[j])=True:=ah7;simp(disch:=omega)[bC,l.1,u,FL,-aaa];exact r z i 4 ah9
      .have B:a=true->∀v∈w.take (j+1),v<(f.length:Int):=by
        intro m v c;rw[aaJ,aae o] at c;simp only[acF,aa2,aaZ] at c
        rcases c with c|rfl
        .exact t m v c
        .exact ac8.1 λh=>l ⟨m,an⟩
       cases C:a with
       | false =>
        simp(disch:=omega)[bC,o,FL,av,ak,qD,bA,-aaa]
       | true =>
        have u:((f.length:Int)<=w[j])=False:=eq_false λh=>l ⟨C,an⟩;simp(disch:=omega)[bC,o,FL,u,av,ak,qD,bA,-aaa];rw[C] at B;exact B rfl
     .have M:j=w.length:=an
      subst M;rw[abz] at t;have N:=d t;simp(disch:=omega)[q,av,ak,qD,FL,bA,N,jF,-aaa]
    .have I:(x.op==5||aX x.op)=aX x.op:=by simp[E]
     simp[aG,E,ak,qD];refine aw U ?_;simp;have s:=oH (G:=G) x i R (Av y) an;simp[IV,af.cs] at s;have b:=bb (x.op==5||aX x.op);obtain⟨a,b⟩:=b;have J:=SL x i
     have d:(a=true->∀w∈ei x i,w<(f.length:Int))->jF f=jF (f.drop (i+1)):=by
      intro K;rw[P.2,F,Gn y D]
      cases a with
      | false=>rw[SK b.symm];simp
      | true=>rw[(Gm q b.symm).1 (K rfl)];simp
     have A:a=true->∀w∈ei x i,¬w<(f.length:Int)->cd x (f.length-1-i)=false:=by intro m w c L;rw[Gn y D];rw[m] at b;rw[<-abQ];intro h;exact L ((Gm q b.symm).2 h w c)
     have g:∀(w:List Int),w.length<=2->(∀v∈w,v∈ei x i)->True:=λ_ _ _=>trivial;generalize ei x i=w at s J d A g;refine aw s ?_;simp
     refine aO w.length (λj=>[(0,FL f),(4,.mp 1),(5,.int .i64 i),(9,.bool a),(22,FL f),(23,.int .i64 f.length),(24,.int .i64 i),(55,.vs (ints .i64 w) .no),(56,.int .i64 w.length),(57,.int .i64 j)])
      (λ_=>[some (.cells [.fn 149 []]),some (.map zP),some (.cells [.int .i64 x.op,.int .i64 x.jt,.int .i64 x.jf,.int .u32 (x.k:Int)])]) (λj=>a=true->∀v∈w.take j,v<(f.length:Int)) ?_ ?_
     .simp[av,ak,FL,qD,b.trans I]
     intro j W t
     by_cases o:j<w.length
     .by_cases l:a=true/\¬w[j]<(f.length:Int)
      .have z:=A l.1 _ (aak o) l.2;have u:((f.length:Int)<=w[j])=True:=ah7;simp(disch:=omega)[bC,l.1,u,FL,-aaa];exact r z i 4 ah9
      .have B:a=true->∀v∈w.take (j+1),v<(f.length:Int):=by
        intro m v c;rw[aaJ,aae o] at c;simp only[acF,aa2,aaZ] at c
        rcases c with c|rfl
        .exact t m v c
        .exact ac8.1 λh=>l ⟨m,an⟩
       cases C:a with
       | false =>
        simp(disch:=omega)[bC,o,FL,av,ak,qD,bA,-aaa]
       | true =>
        have u:((f.length:Int)<=w[j])=False:=eq_false λh=>l ⟨C,an⟩;simp(disch:=omega)[bC,o,FL,u,av,ak,qD,bA,-aaa];rw[C] at B;exact B rfl
     .have M:j=w.length:=an
      subst M;rw[abz] at t;have N:=d t;simp(disch:=omega)[q,av,ak,qD,FL,bA,N,jF,-aaa]
   .have YQ:kJ x=false:=by rw[<-abQ];exact λh=>T (Z.2 h)
    simp[ki,T,ak,qD];exact r (by simp[cd,YQ]) _ _ T
 .have jl:i=f.length:=an
  subst jl
  have q:f.length-1<f.length:=an
  have Q:=sC q;have S:=P.2;rw[adH] at S;have pj:=zvR O an S;have tN:=zpT O;generalize f[f.length-1]=x at Q pj tN;have H:=N_ (G:=G) x;simp[IV,af.cs] at H;have ib:bO .i64 (f.length:Int) 1=((f.length-1:Nat):Int):=N4 (by have:maxLen<=9223372036854775807:=ah9;omega);simp[FL,ib,Q,af.cs];refine aw H ?_;cases yo:fW x.op
  .simp;exact⟨_,5,rfl,by simp[tN yo]⟩
  .simp;exact⟨_,0,rfl,by simp[pj yo]⟩
def Lb[aE G][aD G](f:List af)(a:f.length<=maxLen)(b:∀x∈f,x.k<4294967296):FP G 157 [FL f] (.bool (du f)):=by
 refine bw aD.ahd (aab rfl) ?_;obtain⟨v,c,i,e,rfl,d⟩:=zDC (G:=G) f a b;simp;refine aw c ?_
 have:(e==0)=du f:=by rw[aaw,beq_iff_eq];exact d
 simp[this]
def Ow(n:Nat)(h:n<18446744073709551616):fc .u64 (n:Int)=(n:Int):=by unfold fc;exact IntWalk.u64_in _ ⟨an,an⟩
def zH6[eE G][uo G](x:af)(c n:Nat)(K:x.k<4294967296)(X:c<n)(Y:n<=maxLen):∃v,FP G 186 [IV x,.int .i64 c,.int .i64 n] v/\∃e:Int,v=.int .i64 e/\(e=0↔cd x (n-1-c)=true):=by
 refine DA uo.ahF (aab rfl) ?_;have A:=zzA (G:=G) x;have i:=Yj (G:=G) x
 have Z:maxLen<=9223372036854775807:=by decide
 have s:bO .i64 (n:Int) 1=((n-1:Nat):Int):=N4 an
 have q:bO .i64 ((n-1:Nat):Int) (c:Int)=((n-1-c:Nat):Int):=by rw[nW]<;>omega
 have Q:n-1-c<9223372036854775808:=an
 generalize n-1-c=left at q Q;obtain⟨a,d,f,k⟩:=x;have K:k<4294967296:=K;have B:gn (k:Int) 4=((k%4:Nat):Int):=wT (b:=4);have C:(((k%4:Nat):Int)=0)=(k%4=0):=propext an;have D:(60<(k:Int))=(60<k):=propext an;have L:(15<(k:Int))=(15<k):=propext an;have M:(31<(k:Int))=(31<k):=propext an;have N:fc .u64 (k:Int)=(k:Int):=Ow k an;have O:fc .u64 (left:Int)=(left:Int):=Ow left an
 have t:((left:Int)<=(k:Int))=(left<=k):=propext an;simp[IV,af.cs] at A i |-;refine aw A ?_;cases r:jS ⟨a,d,f,k⟩
 .simp[cd,r]
 clear A;simp
 by_cases E:a=32
 .subst E
  have g:aX 32=false:=by decide
  rw[g] at i
  by_cases m:k%4=0
  .by_cases j:60<k
   .simp[B,C,m,D,j,gW,-aai,cd,kJ];intro _ h;omega
   .have:k<64:=an
    simp[B,C,m,D,j,gW,s,q,-aai];refine aw i ?_;simp[cd,kJ,r,m,this,g]
  .have F:(((k%4:Nat):Int) !=0)=true:=by simp[-aai,C,m]
   simp[B,F,m,D,gW,-aai,cd,kJ]
 by_cases H:a=52
 .subst H
  have g:aX 52=false:=by decide
  rw[g] at i
  by_cases m:k=0
  .simp[m,gW,cd,kJ]
  .have:((k:Int)=0)=False:=ah8;simp[this,m,gW,s,q];refine aw i ?_;simp[cd,kJ,r,m,g]
 by_cases u:a=2\/a=3\/a=96\/a=97
 .have g:aX a=false:=by rcases u with rfl|rfl|rfl|rfl<;>decide
  have l:kJ ⟨a,d,f,k⟩=decide (k<16):=by rcases u with rfl|rfl|rfl|rfl<;>rfl
  have I:¬a=5:=an
  rw[g] at i
  by_cases j:15<k
  .have:cd ⟨a,d,f,k⟩ left=false:=by simp[cd,l];intro _ h;omega
   rcases u with rfl|rfl|rfl|rfl<;>simp[L,j,gW,this]
  .have:cd ⟨a,d,f,k⟩ left=true:=by simp[cd,l,r,g,I];omega
   rcases u with rfl|rfl|rfl|rfl<;>simp[L,j,gW,s,q]<;>refine aw i ?_<;>simp[this]
 by_cases w:a=100\/a=116
 .have g:aX a=false:=by rcases w with rfl|rfl<;>decide
  have l:kJ ⟨a,d,f,k⟩=decide (k<32):=by rcases w with rfl|rfl<;>rfl
  have I:¬a=5:=an
  rw[g] at i
  by_cases j:31<k
  .have:cd ⟨a,d,f,k⟩ left=false:=by simp[cd,l];intro _ h;omega
   rcases w with rfl|rfl<;>simp[M,j,gW,this]
  .have:cd ⟨a,d,f,k⟩ left=true:=by simp[cd,l,r,g,I];omega
   rcases w with rfl|rfl<;>simp[M,j,gW,s,q]<;>refine aw i ?_<;>simp[this]
 have l:kJ ⟨a,d,f,k⟩=true:=by simp[kJ,E,H,u,w]
 by_cases y:a=5
 .subst y
  have g:aX 5=false:=by decide
  rw[g] at i
  by_cases j:left<=k
  .have:cd ⟨5,d,f,k⟩ left=false:=by simp[cd,l];intro _ h;omega
   simp[s,q,N,O,t,j,this]
  .have:cd ⟨5,d,f,k⟩ left=true:=by simp[cd,l,r,g];omega
   simp[s,q,N,O,t,j];refine aw i ?_;simp[this]
 have p:∀o:Int,a≠o->(a==o)=false:=λo h=>aG h;have R:=p 2 an;have S:=p 3 an;have T:=p 96 an;have U:=p 97 an;have V:=p 100 an;have W:=p 116 an;simp[p 32 E,p 52 H,p 5 y,R,S,T,U,V,W,s,q];refine aw i ?_;cases z:aX a
 .simp[cd,r,l,z,y]
 .simp
  by_cases J:(left:Int)<=d
  .have:cd ⟨a,d,f,k⟩ left=false:=by simp[cd,z];intros;omega
   simp[J,this]
  .by_cases P:(left:Int)<=f
   .have:cd ⟨a,d,f,k⟩ left=false:=by simp[cd,z];intros;omega
    simp[J,P,this]
   .have:cd ⟨a,d,f,k⟩ left=true:=by simp[cd,z,r,l,y];omega
    simp[J,P,this]
def zA7[eE G][tu G](f:List af)(t:f.length<=maxLen)(u:∀x∈f,x.k<4294967296):∃v,FP G 187 [FL f] v/\YP f v:=by
 refine DA tu.ahG (aab rfl) ?_
 by_cases b:f=[]
 .subst b;simp[FL];exact⟨0,5,rfl,ah9⟩
 have B:0<f.length:=aaU.2 b
 by_cases C:f.length>4096
 .have m:((4096:Int)<(f.length:Int))=True:=ah7
  have:du f=false:=by simp[du,show¬f.length<=4096 by omega]
  simp[FL,b,m,gW];exact⟨0,3,rfl,by simp[this]⟩
 have m:((4096:Int)<(f.length:Int))=False:=ah8;simp[FL,b,m,gW];refine aO f.length (λi=>[(0,FL f),(4,.int .i64 i)]) (λ_=>[]) (λi=>jF f=jF (f.drop i)) ?_ ?_
 .simp[av,ak,FL]
 intro i hi l
 by_cases a:i<f.length
 .have d:=sC a;have o:f[i]∈f:=aak a;have p:=u _ o;have g:=zrv a;obtain⟨v,n,e,rfl,c⟩:=zH6 (G:=G) f[i] i f.length p a t;generalize f[i]=x at d p g o n c;simp[IV,af.cs] at n;simp(disch:=omega)[bC,FL,d,af.cs,a,-aaa];refine aw n ?_
  by_cases j:e=0
  .have:=c.1 j;rw[this,abR] at g;have w:=l.trans g;simp(disch:=omega)[j,a,bA,av,ak,FL,w,-aaa]
  .have y:cd x (f.length-1-i)=false:=by rw[<-abQ];exact λh=>j (c.2 h)
   rw[y] at g;simp[ki,j];exact⟨_,_,rfl,by simp[j,zrw (l.trans g)]⟩
 .have z:i=f.length:=an
  subst z
  have a:f.length-1<f.length:=an
  have d:=sC a;rw[adH] at l;have q:=zvR b an l;have r:=zpT b;generalize f[f.length-1]=x at d q r;have c:=zDn (G:=G) x;simp[IV,af.cs] at c;have A:bO .i64 (f.length:Int) 1=((f.length-1:Nat):Int):=N4 (by have:maxLen<=9223372036854775807:=ah9;omega);simp[FL,A,d,af.cs];refine aw c ?_;cases s:fW x.op
  .simp;exact⟨_,5,rfl,by simp[r s]⟩
  .simp;exact⟨_,0,rfl,by simp[q s]⟩
def zA8[eE G][tu G](f:List af)(a:f.length<=maxLen)(b:∀x∈f,x.k<4294967296):FP G 188 [FL f] (.bool (du f)):=by
 refine bw tu.ahH (aab rfl) ?_;obtain⟨v,c,i,e,rfl,d⟩:=zA7 (G:=G) f a b;simp;refine aw c ?_
 have:(e==0)=du f:=by rw[aaw,beq_iff_eq];exact d
 simp[this]
def SN{a b:Nat}(d:a<18446744073709551616):kF .u64 (a:Int) (b:Int)=((a/b:Nat):Int):=by have h:a/b<=a:=aaD _ _;unfold kF;have c:((a:Int).tdiv (b:Int))=((a/b:Nat):Int):=rfl;rw[c];exact IntWalk.u64_in _ ⟨adl _,by rw[Int.ofNat_le.symm] at h;omega⟩
def YU{a:Nat}(b:a<256):fc .u8 (a:Int)=(a:Int):=by unfold fc;exact IntWalk.u8_in _ ⟨an,an⟩
def cV(v n:Nat):List Nat:=(abk n).map λj=>v/256^j%256
def ztF(v n:Nat):cV v (n+1)=cV v n++[v/256^n%256]:=by simp[cV,abt]
def BI(v n:Nat):(cV v n).length=n:=by simp[cV]
def zA9[jN G](v n:Nat)(c:v<18446744073709551616)(m:n<=8){H:ae}(d:iq H):bE G (.F 182 [.int .u64 v,.int .i64 n] H (.vs (aq .u8 (cV v n)) (.own H.length)) (H++[some (.zone n)])):=by
 refine fg jN.ahB (aab rfl) ?_;have a:=La d;simp;refine aO n (λi=>[(0,.int .u64 (v/256^i:Nat)),(1,.int .i64 n),(5,.vs (aq .u8 (cV v i)) (.own H.length)),(6,.int .i64 i)]) (λi=>H++[some (.zone i)]) (λ_=>True) ?_ ?_
 .simp[av,cV,a]
 intro i hi _
 by_cases e:i<n
 .have hd:v/256^i<18446744073709551616:=aau (aaD _ _) c;have f:gn ((v/256^i:Nat):Int) 256=((v/256^i%256:Nat):Int):=wT (b:=256)
  have g:kF .u64 ((v/256^i:Nat):Int) 256=((v/256^(i+1):Nat):Int):=by rw[abb,<-abW];exact SN (b:=256) hd
  have h:fc .u8 ((v/256^i%256:Nat):Int)=((v/256^i%256:Nat):Int):=YU (abg _ ah9);have j:=BI v i;have k:=ztF v i;simp(disch:=omega)[bC,f,g,h,j,k,aB,bA,e,av,a,abm,ac4,-aaa,-aao,-aai,-aaf]
 .have l:i=n:=an
  subst l;simp[-aao]
def YV[jN G](v n:Nat)(a:v<18446744073709551616)(b:n<=8):FP G 182 [.int .u64 v,.int .i64 n] (.vs (aq .u8 (cV v n)) .no) :=
 ⟨_,_,zA9 v n a b (H:=[]) (λ_ _=>rfl),ir⟩
def num:List Nat->Nat
 | []=>0
 | b::l=>b+256*num l
def zBa:∀l:List Nat,(∀b∈l,b<256)->num l<256^l.length
 | [],_=>by decide
 | b::l,h=>by
  have d:=zBa l λc a=>h c (by simp[a]);have e:=h b ir;rw[num,aaq,abb];omega
def zBb[jN G](l:List Nat)(B:l.length<=7)(f:∀b∈l,b<256):FP G 183 [.vs (aq .u8 l) .no] (.int .u64 (num l:Nat)):=by
 refine bw jN.ahC (aab rfl) ?_
 have m:bO .i64 (l.length:Int) 1=(l.length:Int)-1:=by rw[nW]<;>omega
 simp[m];refine aO l.length (λi=>[(0,.vs (aq .u8 l) .no),(3,.int .u64 (num (l.drop (l.length-i)):Nat)),(4,.int .i64 ((l.length:Int)-1-i))]) (λ_=>[]) (λ_=>True) ?_ ?_
 .simp[av,ak,num]
 intro i hi _
 by_cases n:i<l.length
 .have g:=bb (l.length-1-i);obtain⟨t,g⟩:=g
  have o:(l.length:Int)-1-i=(t:Int):=an
  have p:l.length-i=t+1:=an
  have r:l.length-(i+1)=t:=an
  have d:t<l.length:=an
  have h:l[t]?=some l[t]:=aae d;have s:=f l[t] (aak d);have j:=aaF d;have u:=zBa (l.drop (t+1)) λc e=>f c (abh e);have C:256^(l.drop (t+1)).length<=256^6:=aaj ah9 (by rw[aby];omega)
  have D:(256:Nat)^6=281474976710656:=by decide
  have v:bO .i64 (t:Int) 1=(l.length:Int)-1-((i+1:Nat):Int):=by rw[nW]<;>omega
  generalize l[t]=b at h s j
  have k:num (l.drop t)=b+256*num (l.drop (t+1)):=by rw[j];rfl
  obtain⟨q,a⟩:=bb (num (l.drop (t+1)));rw[<-a] at u k
  have w:dS .u64 (q:Int) 256=((q*256:Nat):Int):=by unfold dS;rw[show(q:Int)*256=((q*256:Nat):Int) by omega];exact IntWalk.u64_in _ ⟨an,an⟩
  have x:aC .u64 ((q*256:Nat):Int) (b:Int)=((num (l.drop t):Nat):Int):=by unfold aC;rw[k,show((q*256:Nat):Int)+(b:Int)=((b+256*q:Nat):Int) by omega];exact IntWalk.u64_in _ ⟨an,an⟩
  have e:fc .u64 (b:Int)=(b:Int):=Ow b an;obtain⟨_,y⟩:=aan.1 h;rw[p,<-a];simp(disch:=omega)[o,r,nY,y,e,w,x,v,n,av,ak,-aaa,-aaI]
 .have z:i=l.length:=an
  subst z;have A:((l.length:Int)<=(l.length:Int)-1)=False:=ah8;simp[A]
def Ax(d:Da)(n:Nat):List Nat:=cV d.nr 4++cV d.aA 4++cV d.ip 8++(d.args.take n).flatMap λa=>cV a 8
def Oz(v:Nat):cV v 8=cV (lo v) 4++cV (hi v) 4:=by
 simp only[cV,abt,adR,acq,aba,adq,aa_,lo,hi];simp only[Nat.reducePow,ad6.injEq,and_true]
 and_intros<;>omega
def zGn(v:Nat)(h:v<4294967296):num (cV v 4)=v:=by simp only[cV,abt,adR,acq,aba,adq,aa_,num];omega
def zH7(v n:Nat):∀b∈cV v n,b<256:=by intro b a;simp only[cV,aaE] at a;obtain⟨j,_,rfl⟩:=a;exact abg _ ah9
def ztG(d:Da)(n:Nat):(Ax d n).length=16+8*(d.args.take n).length:=by
 have:∀l:List Nat,(l.flatMap λa=>cV a 8).length=8*l.length:=by
  intro l
  induction l with
  | nil=>rfl
  | cons a l b=>rw[acP,aa6,b,BI,aaq];omega
 simp only[Ax,aa6,BI,this]
def zxq(d:Da)(c:d.nr<4294967296)(e:d.aA<4294967296)(f:d.args.length=6):Ax d 6=((iV d).map λw=>cV w 4).flatten:=by
 have h:∀l:List Nat,(l.flatMap λa=>cV a 8)=((l.flatMap λa=>[lo a,hi a]).map λw=>cV w 4).flatten:=by
  intro l
  induction l with
  | nil=>rfl
  | cons a l b=>simp only[acP,acm,List.flatten_append,b];simp[Oz]
 rw[Ax,abd an,h,Oz];simp[iV]
def zDD[jN G](d:Da)(hd:d.ok):FP G 184 [DV d] (.vs (aq .u8 (Ax d 6)) .no):=by
 refine bw jN.ahD (aab rfl) ?_;obtain⟨A,B,q,e,r⟩:=hd;have C:=eA (k:=.u64) e;have s:=Ow d.nr an;have t:=Ow d.aA an;have n1:∀v n:Nat,n≠0->(aq .u8 (cV v n)=[])=False:=λv n h=>eq_false (by rw[zxk];intro u;have:=BI v n;rw[u] at this;exact h this.symm);simp[DV,Da.cs,s,e];refine vh (zA9 d.nr 4 an ah9 (by intro m _;simp)) ir ?_;simp[t]
 refine aw (YV d.aA 4 an ah9) ?_;simp[BI,n1];refine aw (YV d.ip 8 q ah9) ?_;simp[BI,n1,XU]
 refine aO 6 (λi=>[(1,.ptr 0 0),(3,.vs (aq .u8 (Ax d i)) (.own 2)),(4,.int .i64 i)])
  (λi=>[some (.cells (.int .u32 (d.nr:Int)::.int .u32 (d.aA:Int)::.int .u64 (d.ip:Int)::ax .u64 d.args)),none,some (.zone (16+8*i)),none]) (λ_=>True) ?_ ?_
 .simp[av,ak,Ax]
 intro i hi _
 by_cases x:i<6
 .have f:d.args[i]?=some d.args[i]:=aae an;have g:=r _ (aak (show i<d.args.length by omega));have j:=su .u64 d.args i an;have o:=ztG d i
  have p:Ax d (i+1)=Ax d i++cV d.args[i] 8:=by unfold Ax;rw[aaJ,f,acz,List.flatMap_append,<-acQ];simp
  have y:(d.args.take i).length=i:=by rw[abn];omega
  rw[y] at o
  have Gp:∀(a b c:V) (l:List V) (n:Nat),(a::b::c::l).drop (3+n)=l.drop n:=λa b c l n=>by rw[abI];rfl
  generalize d.args[i]=w at f g j p;simp(disch:=omega)[bC,aB,Gp,j,e,-aaa];refine aw (YV w 8 g ah9) ?_;simp(disch:=omega)[BI,n1,XU,o,<-p,aB,bA,x,av,ak,-aaa];omega
 .have z:i=6:=an
  subst z;simp
def zDE{d:Da}(hd:d.ok){j:Nat}(h:j<16):(((Ax d 6).drop (4*j)).take 4)=cV ((iV d).getD j 0) 4:=by rw[zxq d hd.1 hd.2.1 hd.2.2.2.1,abX];have a:=As hd.2.2.2.1;refine Yc (λw=>cV w 4) 4 (λw=>BI w 4) (iV d) j _ ?_;rw[abG,aae (show j<(iV d).length by omega)];rfl
def zDF[jN G](d:Da)(n:Nat)(hd:d.ok)(s:n<4294967296):FP G 185 [DV d,.int .u32 n] (.bc [.int .u32 ((pO d n).1:Nat),.bool (pO d n).2]):=by
 refine bw jN.ahE (aab rfl) ?_;have p:=zDD (G:=G) d hd;have q:=hd;obtain⟨A,B,C,g,D⟩:=hd;have t:=eA (k:=.u64) g;have h:gn (n:Int) 4=((n%4:Nat):Int):=wT (b:=4)
 have E:(((n%4:Nat):Int)==0)=decide (n%4=0):=by rw[aaw];simp[-aai]
 have u:(((n%4:Nat):Int) !=0)=decide (n%4≠0):=by rw[aaw];simp[-aai]
 have v:=CW n s;simp[DV,Da.cs] at p |-
 by_cases c:n%4=0
 .by_cases r:n<64
  .have i:((64:Int)<=(n:Int))=False:=D5 an
   have x:4*(n/4)=n:=an
   have j:=zDE q (show n/4<16 by omega);rw[x] at j;have a:=ztG d 6;rw[abd an,g] at a
   have e:pO d n=((iV d).getD (n/4) 0,true):=by simp[pO,c,r]
   have f:=zvQ q n;rw[e] at f |-;simp only at f;have l:=zGn _ f;have m:=zBb (G:=G) (cV ((iV d).getD (n/4) 0) 4) (by rw[BI];decide) (zH7 _ _)
   have o:aC .i64 (n:Int) 4=((n+4:Nat):Int):=by rw[eB]<;>omega
   simp only at l m |-;generalize(iV d).getD (n/4) 0=w at j l m f
   have y:fc .u32 (w:Int)=(w:Int):=by unfold fc;exact sM f
   simp[h,c,i,v,t,g,-aai];refine aw p ?_
   have F:0<=(n:Int)/\n<=n+4/\n+4<=(Ax d 6).length:=an
   have z:(((n+4:Nat):Int)<=64)=True:=ah7;simp(disch:=omega)[o,a,z,aB,CR,yH,j,-aaa];refine aw m ?_;simp[l,y]
  .have i:((64:Int)<=(n:Int))=True:=nY an
   have e:pO d n=(0,false):=by simp[pO,r]
   rw[e];simp[h,c,i,-aai]
 .have e:pO d n=(0,false):=by simp[pO,c]
  rw[e];simp[h,u,c,-aai]
def j6(s:St)(x:af)(i:Nat):St:=if x.k<i/\x.k<16 then(if x.op=2 then{ s with m:=s.m.set x.k s.a } else if x.op=3 then{ s with m:=s.m.set x.k s.x } else s) else s
def Eg(s:St)(x:af)(i:Nat):Nat:=if x.k<i/\x.k<16 then s.m.getD x.k 0 else 0
def zDG[eE G][U:mO G][mZ G][jN G][pE G](s:St)(x:af)(d:Da)(u:s.ok)(o:x.k<4294967296)(hd:d.ok) :
  FP G 190 [SV s,IV x,DV d] (.bc [SV (dJ s x d).1,.bool (dJ s x d).2]):=by
 refine bw pE.ahI (aab rfl) ?_;have e:=u.2.2.1;have f:=eA (k:=.u32) e;have H:=hd.2.2.2.1;have V:=eA (k:=.u64) H;have I:=zGa (G:=G) x;have v:=YG U (bf x.op).1 s.a (jq s x) u.1 (YN u o);have J:=zDF (G:=G) d x.k hd o;have W:=zGh (G:=G) s.a u.1;simp[SV,IV,DV,af.cs,St.cs,Da.cs] at I J |-;refine aw I ?_;cases K:(bf x.op).2.2
 case true =>
  have g:dJ s x d=(if(kj s x).2 then{ s with a:=(kj s x).1 } else s,(kj s x).2):=by simp[dJ,K]
  cases w:(bf x.op).2.1
  .have:jq s x=x.k:=by simp[jq,w]
   rw[this] at v;simp[w];refine aw v ?_
   cases D:(cC (bf x.op).1 s.a x.k).2<;>simp[D,g,kj,this,e,f]
  .have:jq s x=s.x:=by simp[jq,w]
   rw[this] at v;simp[w];refine aw v ?_
   cases D:(cC (bf x.op).1 s.a s.x).2<;>simp[D,g,kj,this,e,f]
 simp
 refine aO 16 (λi=>[(3,.ptr 0 0),(4,.ptr 1 0),(5,.ptr 2 0),(6,.ptr 3 0),(14,.int .u32 (Eg s x i:Nat)),(15,.int .i64 i)])
  (λi=>[some (.cells (j6 s x i).cs),some (.cells x.cs),some (.cells d.cs),some (.cells (ax .u32 (aR 18)))]) (λ_=>True) ?_ ?_
 .simp[av,ak,j6,Eg,St.cs,af.cs,Da.cs]
 intro i hi _
 have p:(j6 s x i).m.length=16:=by unfold j6;split<;>(try split)<;>(try split)<;>simp[e]
 by_cases y:i<16
 .have z:fc .u32 (i:Int)=(i:Int):=by unfold fc;exact sM an
  have E:(2+i+1<=16+1+1)=True:=aB an
  by_cases A:i=x.k
  .have nD:x.k<16:=an
   have q:((i:Int)==(x.k:Int))=true:=by simp[A]
   have X:j6 s x i=s:=by unfold j6;rw[if_neg an]
   have r:Eg s x (i+1)=s.m[i]'(by omega):=by unfold Eg;rw[if_pos an,<-A,abG,aae an];rfl
   have c:=su .u32 s.m i an;have F:=wQ .u32 s.m i s.a an;have Y:=wQ .u32 s.m i s.x an;rw[X]
   by_cases j:x.op=2
   .have l:j6 s x (i+1)={ s with m:=s.m.set i s.a }:=by unfold j6;rw[if_pos an,if_pos j,A]
    simp(disch:=omega)[bC,z,q,St.cs,af.cs,Da.cs,j,y,e,YH,On,YI,SI,c,F,E,aB,r,l,bA,av,ak,show 2+i<=17 from an,-aaa]
   .have Z:(x.op==2)=false:=aG j
    by_cases n:x.op=3
    .have l:j6 s x (i+1)={ s with m:=s.m.set i s.x }:=by unfold j6;rw[if_pos an,if_neg j,if_pos n,A]
     simp(disch:=omega)[bC,z,q,St.cs,af.cs,Da.cs,n,y,e,YH,On,YI,SI,c,Y,E,aB,r,l,bA,av,ak,show 2+i<=17 from an,-aaa]
    .have n3:(x.op==3)=false:=aG n
     have l:j6 s x (i+1)=s:=by unfold j6;rw[if_pos an,if_neg j,if_neg n]
     simp(disch:=omega)[bC,z,q,St.cs,af.cs,Da.cs,Z,n3,y,e,YH,On,YI,SI,c,E,aB,r,l,bA,av,ak,show 2+i<=17 from an,-aaa]
  .have q:((i:Int)==(x.k:Int))=false:=aG an
   have l:j6 s x (i+1)=j6 s x i:=by
    unfold j6
    by_cases h:x.k<i/\x.k<16
    .rw[if_pos h,if_pos an]
    .rw[if_neg h,if_neg an]
   have r:Eg s x (i+1)=Eg s x i:=by
    unfold Eg
    by_cases h:x.k<i/\x.k<16
    .rw[if_pos h,if_pos an]
    .rw[if_neg h,if_neg an]
   simp(disch:=omega)[bC,z,q,St.cs,af.cs,Da.cs,y,l,r,bA,av,ak,-aaa]
 .have az:i=16:=an
  subst az
  have g:dJ s x d=(ic s x d,true):=by simp[dJ,K]
  rw[g]
  have hv:Eg s x 16=yN s x.k:=by
   unfold Eg yN
   by_cases h:x.k<16
   .rw[if_pos ⟨h,h⟩,if_pos h]
   .rw[if_neg an,if_neg h]
  have j:x.op=2->j6 s x 16=ic s x d:=by
   intro h;simp only[j6,ic,vi,h]
   by_cases o:x.k<16<;>simp[o]
  have n:x.op=3->j6 s x 16=ic s x d:=by
   intro h;simp only[j6,ic,vi,h]
   by_cases o:x.k<16<;>simp[o]
  have L:x.op≠2->x.op≠3->j6 s x 16=s:=by intro a b;unfold j6;simp[a,b]
  have t:=eA (k:=.u32) p;rw[hv];simp only[St.cs,af.cs,Da.cs]
  by_cases B:x.op=2
  .rw[j B] at p t |-;simp[B,aG,p,t,-aaa]
  by_cases C:x.op=3
  .rw[n C] at p t |-;simp[C,aG,p,t,-aaa]
  rw[L B C];clear L j n p t
  by_cases M:x.op=0
  .simp[M,ic,e,f]
  by_cases N:x.op=1
  .simp[N,aG,ic,e,f]
  by_cases O:x.op=32
  .simp[O,aG,ic,H,V];refine aw J ?_;simp[e,f]
  by_cases P:x.op=96
  .simp[P,aG,ic,e,f]
  by_cases Q:x.op=97
  .simp[Q,aG,ic,e,f]
  by_cases R:x.op=7
  .simp[R,aG,ic,e,f]
  by_cases S:x.op=135
  .simp[S,aG,ic,e,f]
  by_cases T:x.op=132
  .simp[T,aG,ic];refine aw W ?_;simp[e,f]
  simp[M,N,O,P,Q,B,C,R,S,T,aG,ic,e,f]
def part(s:St):Nat->Nat
 | 0=>s.a
 | 1=>s.x
 | i+2=>s.m.getD i 0
def YY(s:St)(k v i:Nat)(b:s.m.length=16):part (vi s k v) i=if k<16/\i=k+2 then v else part s i:=by
 unfold vi;split
 .rename_i a
  match i with
  | 0=>simp[part]
  | 1=>simp[part]
  | i+2 =>
   simp only[part,abG,abC]
   by_cases e:k=i
   .subst e;simp[a,b]
   .simp[e,show¬i=k from λh=>e h.symm]
 .rename_i a;simp[a]
def ztH(s:St)(k:Nat):yN s k=if k<16 then part s (k+2) else 0:=rfl
def zxr(s:St)(x:af)(d:Da)(b:s.m.length=16)(c:(bf x.op).2.2=false)(i:Nat)(hi:i<18)(h:mg x i=false):part (ic s x d) i=part s i:=by
 unfold mg at h
 have two:∀v,(x.op=2\/x.op=3)->part (vi s x.k v) i=part s i:=by
  intro v a;rw[YY s x.k v i b];split
  .rename_i e;exfalso;rw[if_neg an,if_neg an] at h;simp only[decide_eq_false_iff_not] at h;exact h ⟨a,e.2.symm⟩
  .rfl
 match i,hi with
 | 0,_ =>
  simp[c] at h;unfold ic
  repeat' split
  all_goals first
   | rfl
   | (exfalso;omega)
   | exact two _ an
 | 1,_ =>
  simp at h;unfold ic
  repeat' split
  all_goals first
   | rfl
   | (exfalso;omega)
   | exact two _ an
 | i+2,hi =>
  unfold ic
  repeat' split
  all_goals first
   | rfl
   | exact two _ an
def zzF(s t:St)(x:af)(d:Da)(q:s.m.length=16)(r:t.m.length=16)(h:∀i,i<18->kX x i=true->part s i=part t i)(i:Nat)(hi:i<18)(j:(bf x.op).2.2=false)(b:mg x i=true) :
  part (ic s x d) i=part (ic t x d) i:=by
 have f:x.op∈[2,7,132,22]->s.a=t.a:=λc=>h 0 ah9 (by simp only[kX,c];simp);have g:x.op∈[3,135]->s.x=t.x:=λc=>h 1 ah9 (by simp only[kX,c];simp)
 have l:(x.op=96\/x.op=97)->yN s x.k=yN t x.k:=by
  intro c;rw[ztH,ztH];split
  .rename_i n;exact h (x.k+2) an (by simp[kX,c])
  .rfl
 unfold mg at b
 have two:∀v,(x.op=2\/x.op=3)->part (vi s x.k v) i=part (vi t x.k v) i:=by
  intro v u;rw[YY s x.k v i q,YY t x.k v i r];split
  .rfl
  .rename_i n;exfalso
   by_cases o:i=0
   .subst o;simp[j] at b;omega
   .by_cases p:i=1
    .subst p;simp at b;omega
    .rw[if_neg o,if_neg p] at b;simp only[decide_eq_true_eq] at b;apply n;omega
 match i,hi with
 | 0,_ =>
  simp[j] at b
  rcases b with e|e|e|e|e
  .simp[ic,e,part]
  .simp[ic,e,part]
  .simp[ic,e,part,l (.inl e)]
  .simp[ic,e,part,g (by simp[e])]
  .simp[ic,e,part,f (by simp[e])]
 | 1,_ =>
  simp at b
  rcases b with e|e|e
  .simp[ic,e,part]
  .simp[ic,e,part,l (.inr e)]
  .simp[ic,e,part,f (by simp[e])]
 | i+2,_ =>
  simp at b
  rcases b.1 with e|e
  .have:=two s.a (.inl e);rw[f (by simp[e])] at this;simp[ic,e,f (by simp[e])];exact this
  .have:=two s.x (.inr e);rw[g (by simp[e])] at this;simp[ic,e,g (by simp[e])];exact this
def zpU(s:St)(x:af)(d:Da)(b:s.m.length=16)(i:Nat)(hi:i<18)(h:mg x i=false):part (dJ s x d).1 i=part s i:=by
 unfold dJ;cases a:(bf x.op).2.2
 .simp only[aa7,if_false];exact zxr s x d b a i hi h
 .simp only[if_true];split
  .match i,hi with
   | 0,_=>simp[mg,a] at h
   | 1,_=>rfl
   | i+2,_=>rfl
  .rfl
def zzG(s t:St)(x:af)(d:Da)(g:s.m.length=16)(j:t.m.length=16)(h:∀i,i<18->kX x i=true->part s i=part t i) :
  (dJ s x d).2=(dJ t x d).2/\∀i,i<18->mg x i=true->part (dJ s x d).1 i=part (dJ t x d).1 i:=by
 unfold dJ;cases e:(bf x.op).2.2
 .simp only[aa7,if_false,true_and];exact λi hi c=>zzF s t x d g j h i hi e c
 .have f:s.a=t.a:=h 0 ah9 (by simp[kX,e])
  have k:jq s x=jq t x:=by
   unfold jq;split
   .rename_i l;exact h 1 ah9 (by simp[kX,uK,l])
   .rfl
  have n:kj s x=kj t x:=by unfold kj;rw[f,k]
  simp only[if_true,n,true_and];intro i hi c;split
  .match i,hi with
   | 0,_=>rfl
   | 1,_ =>
    exfalso
    have b:∀p∈[4,20,36,52,68,84,100,116,164,12,28,44,60,76,92,108,124,(172:Int)],decide (p∈[1,97,(7:Int)])=false:=by decide
    have:=b _ (K9 e);simp only[mg] at c;simp at c this
    omega
   | i+2,_ =>
    exfalso
    have b:∀p∈[4,20,36,52,68,84,100,116,164,12,28,44,60,76,92,108,124,(172:Int)],¬p=2/\¬p=3:=by decide
    have:=b _ (K9 e);simp[mg] at c;omega
  .match i,hi with
   | 0,_=>exact f
   | 1,_ =>
    exfalso
    have b:∀p∈[4,20,36,52,68,84,100,116,164,12,28,44,60,76,92,108,124,(172:Int)],decide (p∈[1,97,(7:Int)])=false:=by decide
    have:=b _ (K9 e);simp only[mg] at c;simp at c this
    omega
   | i+2,_ =>
    exfalso
    have b:∀p∈[4,20,36,52,68,84,100,116,164,12,28,44,60,76,92,108,124,(172:Int)],¬p=2/\¬p=3:=by decide
    have:=b _ (K9 e);simp[mg] at c;omega
def aY(x:af):List Nat:=if fW x.op then [] else if x.op=5 then [x.k] else if aX x.op then [x.jt.toNat,x.jf.toNat] else [0]
def Eh(p:Nat):List af->List Bool
 | []=>[]
 | x::f=>(kX x p||((aY x).any (λo=>(Eh p f).getD o false)&&!mg x p))::Eh p f
def nd(f:List af)(p:Nat):Bool:=(Eh p f).headD false
def zvT(p:Nat):∀(f:List af) (i:Nat),Eh p (f.drop i)=(Eh p f).drop i
 | f,0=>rfl
 | [],i+1=>by simp[Eh]
 | x::f,i+1=>by simp only[adg,Eh];exact zvT p f i
def zH8(p:Nat)(f:List af)(o:Nat):(Eh p f).getD o false=nd (f.drop o) p:=by unfold nd;rw[zvT,List.headD_eq_head?_getD,List.head?_drop];rfl
def YZ(x:af)(f:List af)(p:Nat):nd (x::f) p=(kX x p||((aY x).any (λo=>nd (f.drop o) p)&&!mg x p)):=by
 simp only[nd,Eh,List.headD_cons]
 congr 2
 congr 1
 funext o
 exact zH8 p f o
def wd(f:List af):Nat:=fN (nd f) 18
def zei:List af->List Nat
 | []=>[]
 | x::f=>wd (x::f)::zei f
def SO:∀f:List af,(zei f).length=f.length
 | []=>rfl
 | x::f=>by simp[zei,SO f]
def Y1:∀(f:List af) (i:Nat),i<f.length->(zei f)[i]?=some (wd (f.drop i))
 | x::f,0,_=>rfl
 | x::f,i+1,h=>by
  simp only[zei,ab8,adg];exact Y1 f i (by simpa using h)
def bh(g:List af)(os:List Nat)(p:Nat):Bool:=os.any λo=>nd (g.drop o) p
def zx6(a b:Nat->Bool):∀n,fN a n ||| fN b n=fN (λp=>a p||b p) n:=by
 intro n;refine aaY λi=>?_;rw[adX,BD,BD,BD]
 cases decide (i<n)<;>simp
def Y2:∀n,fN (λ_=>false) n=0
 | 0=>rfl
 | n+1=>by simp[fN,Y2 n]
def zx7(g:List af)(os:List Nat)(o:Nat):fN (bh g os) 18 ||| wd (g.drop o)=fN (bh g (os++[o])) 18:=by
 rw[wd,zx6]
 congr 1
 funext p
 simp[bh]
def zGo(x:af)(g:List af):fN (λp=>kX x p||(bh g (aY x) p&&!mg x p)) 18=wd (x::g):=by
 unfold wd
 congr 1
 funext p
 rw[YZ];rfl
def zBc(a b:Nat->Bool)(n:Nat)(c:n<=32):Km .u32 ((fN a n:Nat):Int) ((fN b n:Nat):Int)=((fN (λp=>a p&&!b p) n:Nat):Int):=by
 have d:fN a n<2^32:=aav (vV a n) (aaj ah9 c);have e:fN b n<2^32:=aav (vV b n) (aaj ah9 c);unfold Km;rw[sv,sv]
 have:(ab6 32 (fN a n) &&& ~~~ab6 32 (fN b n)).toNat=fN (λp=>a p&&!b p) n:=by
  refine aaY λi=>?_;rw[BitVec.testBit_toNat,BitVec.getLsbD_and,BitVec.getLsbD_not,adb,adb,BD,BD,BD]
  by_cases hi:i<n
  .have:i<32:=an
   simp[hi,this]
  .simp[hi]
 show IntKind.u32.wrap _=_;rw[show IntKind.u32.bits=32 from rfl,this];exact sM (aav (vV _ n) (aaj ah9 c))
def zFw(f:List af):wd f<2^32:=aav (vV _ 18) ah9
def zQ(x:af)(i:Nat):List Int:=(aY x).map fun(o:Nat)=>((i+1+o:Nat):Int)
def zvU[aE G][fK G](x:af)(i:Nat)(h:x.k<4294967296)(j:x.Ee)(hi:i<=5000):FP G 170 [IV x,.int .i64 i] (.vs (ints .i64 (zQ x i)) .no):=by
 refine bw fK.ahq (aab rfl) ?_;have f:=N_ (G:=G) x;have g:=zL (G:=G) x
 have b:aC .i64 (i:Int) 1=(i:Int)+1:=by rw[eB]<;>omega
 simp[IV,af.cs,b] at f g |-;refine aw f ?_;cases c:fW x.op
 .simp
  by_cases a:x.op=5
  .have l:aC .i64 ((i:Int)+1) (x.k:Int)=((i+1+x.k:Nat):Int):=by rw[eB]<;>omega
   have d:(x.op==5)=true:=by simp[a]
   simp[d,CW x.k h,b,l];simp[zQ,aY,c,a,ints,fW]
  .have d:(x.op==5)=false:=aG a;simp[d];refine aw g ?_;cases e:aX x.op
   .simp[zQ,aY,c,a,e,ints,b]
   .obtain⟨o,p,q,r⟩:=j e
    have m:aC .i64 ((i:Int)+1) x.jt=((i+1+x.jt.toNat:Nat):Int):=by rw[eB]<;>omega
    have n:aC .i64 ((i:Int)+1) x.jf=((i+1+x.jf.toNat:Nat):Int):=by rw[eB]<;>omega
    simp[b,m,n];simp[zQ,aY,c,a,e,ints]
 .simp[zQ,aY,c,ints]
def zvV:∀{f:List af} {i:Nat} {x:af},jF f=true->f[i]?=some x->cd x (f.length-1-i)=true
 | y::f,0,x,h,a=>by
  simp only[acT,abc.injEq] at a;subst a;simp only[jF,aaA] at h
  simpa using h.1
 | y::f,i+1,x,h,a=>by
  simp only[jF,aaA] at h;have:=zvV h.2 (by simpa using a);rw[<-this]
  congr 1
  simp only[aaq];omega
def Gq{f:List af}{i:Nat}{x:af}(h:du f=true)(a:f[i]?=some x):cd x (f.length-1-i)=true/\(fW x.op=false->i+1<f.length)/\f.length<=4096:=by
 simp only[du,aaA,decide_eq_true_eq] at h;refine⟨zvV h.1.2 a,λb=>?_,h.1.1⟩;obtain⟨hi,e⟩:=aan.1 a
 by_cases d:i+1<f.length
 .exact d
 .have:i=f.length-1:=an
  have c:=h.2
  have:f.getLast?=some x:=by rw[ab5,<-this];exact a
  simp only[kK,this] at c;rw[c] at b;cases b
def Ei{f:List af}{i:Nat}{x:af}(h:du f=true)(e:f[i]?=some x){o:Nat}(a:o∈aY x):i+1+o<f.length:=by
 obtain⟨b,c,k⟩:=Gq h e;simp only[cd,aaA] at b;unfold aY at a;split at a
 .cases a
 rename_i g;have c:=c (by simpa using g);split at a
 .rename_i j;simp only[aaZ] at a;subst a;have:=b.1.2;rw[if_pos j,decide_eq_true_eq] at this;omega
 split at a
 .rename_i d;have l:=Av b.1.1.1 d;have:=b.2;rw[if_pos d,decide_eq_true_eq] at this;simp only[aah,aa1,or_false] at a
  rcases a with rfl|rfl<;>omega
 .simp only[aaZ] at a;omega
def zvW(x:af):(aY x).length<=2:=by unfold aY;split;simp;split;simp;split<;>simp
def yP(f:List af)(k:Nat):List Nat:=aaK k 0++zei (f.drop k)
def Y3(f:List af)(k:Nat)(h:k<=f.length):(yP f k).length=f.length:=by simp[yP,SO];omega
def zxs(f:List af)(k j:Nat)(h:k<=j)(a:j<f.length):(yP f k)[j]?=some (wd (f.drop j)):=by
 rw[yP,abm (by simpa using h)];rw[ac5,Y1 _ _ (by simp;omega),abH]
 congr 3;omega
def zxt(f:List af)(k:Nat)(a:k<f.length):(yP f (k+1)).set k (wd (f.drop k))=yP f k:=by unfold yP;rw[List.replicate_succ',acQ,ac4 _ _ ir];rw[aaF a];simp only[ac5,ad2,ac6,List.set_cons_zero];rfl
def zNi[aE G][aD G][dh G][fK G](f:List af)(r:∀x∈f,x.k<4294967296)(b:du f=true):FP G 171 [FL f] (.bc [.vs (aq .u32 (zei f)) .no,.int .i64 0]):=by
 have X:f.length<=4096:=by simp only[du,aaA,decide_eq_true_eq] at b;exact b.1.1
 have Y:maxLen=9223372036854775807:=by decide
 refine bw fK.ahr (aab rfl) ?_;have J:=Lb (G:=G) f an r;simp;refine aw J ?_
 have K:bO .i64 (f.length:Int) 1=(f.length:Int)-1:=by rw[nW]<;>omega
 simp(disch:=omega)[b,FL,K,aB];refine aO f.length (λi=>[(0,FL f),(4,.rs 0 0 f.length 1),(5,.int .i64 ((f.length:Int)-1-i))]) (λi=>[some (.cells (ax .u32 (yP f (f.length-i))))]) (λ_=>True) ?_ ?_
 .simp[av,ak,FL,yP,zei,aR]
 intro i hi _
 by_cases L:i<f.length
 .have s:=bb (f.length-1-i);obtain⟨t,s⟩:=s
  have M:(f.length:Int)-1-i=(t:Int):=an
  have N:f.length-i=t+1:=an
  have O:f.length-(i+1)=t:=an
  have a:t<f.length:=an
  have h:f[t]?=some f[t]:=aae a;have d:=sC a;have u:f[t]∈f:=aak a;have v:=aaF a;generalize f[t]=x at h d u v;have P:=r x u;obtain⟨w,_,_⟩:=Gq b h;simp only[cd,aaA] at w;have y:=zvU (G:=G) x t P (Av w.1.1.1) an;have z:=zGd (G:=G) x;have A:=zGe (G:=G) x;have e:x.cs=[.int .i64 x.op,.int .i64 x.jt,.int .i64 x.jf,.int .u32 (x.k:Int)]:=rfl;simp[IV,e] at y z A;simp(disch:=omega)[M,N,bC,FL,d,e,nY]
  refine aw y ?_;simp
  refine aO (aY x).length (λj=>[(0,FL f),(4,.rs 0 0 f.length 1),(5,.int .i64 t),(6,.int .u32 (fN (bh (f.drop (t+1)) ((aY x).take j)) 18:Nat)),(27,.vs (ints .i64 (zQ x t)) .no),(28,.int .i64 (aY x).length),(29,.int .i64 j)])
   (λ_=>[some (.cells (ax .u32 (yP f (t+1))))]) (λ_=>True) ?_ ?_
  .have Q:fN (bh (f.drop (t+1)) []) 18=0:=Y2 18;simp[av,ak,FL,Q,zQ]
  intro j Z _;have FJ:=zvW x
  by_cases l:j<(aY x).length
  .have m:(aY x)[j]?=some (aY x)[j]:=aae l;have B:(aY x)[j]∈aY x:=aak l;have C:=Ei b h B
   have D:(aY x).take (j+1)=(aY x).take j++[(aY x)[j]]:=by rw[aaJ,m];rfl
   have E:(zQ x t)[j]?=some ((t+1+(aY x)[j]:Nat):Int):=by simp[zQ,m]
   generalize(aY x)[j]=o at m B C D E
   have R:((ax .u32 (yP f (t+1))).drop (t+1+o)).take 1=[.int .u32 (wd (f.drop (t+1+o)):Nat)]:=by have g:=Y3 f (t+1) an;have c:=zxs f (t+1) (t+1+o) an C;rw[su _ _ _ an];rw[aae an,abc.injEq] at c;rw[c]
   have n:vA .u32 ((fN (bh (f.drop (t+1)) ((aY x).take j)) 18:Nat):Int) ((wd (f.drop (t+1+o)):Nat):Int)=((fN (bh (f.drop (t+1)) ((aY x).take (j+1))) 18:Nat):Int):=by rw[zH (aav (vV _ 18) ah9) (zFw _),D,<-zx7,abH]
   have g:=Y3 f (t+1) an;simp(disch:=omega)[bC,E,R,g,n,aB,FL,av,ak,bA,l,-aaa]
  .have p:j=(aY x).length:=an
   subst p;rw[abz];have g:=Y3 f (t+1) an;have F:=zGo x (f.drop (t+1));rw[<-v] at F;have S:=zxt f t a;have q:Gg x<2^32:=aav (vV _ 18) ah9
   have n:vA .u32 ((Gg x:Nat):Int) (Km .u32 ((fN (bh (f.drop (t+1)) (aY x)) 18:Nat):Int) ((D_ x:Nat):Int))=((wd (f.drop t):Nat):Int):=by rw[D_,zBc _ _ 18 ah9,zH q (aav (vV _ 18) ah9),Gg,zx6,F]
   have H:=wQ .u32 (yP f (t+1)) t (wd (f.drop t)) an;rw[S] at H;simp(disch:=omega)[FL,d,e,bC,nY,-aaa];refine aw z ?_;simp(disch:=omega)[FL,d,e,bC,nY,-aaa];refine aw A ?_
   have T:bO .i64 (t:Int) 1=(f.length:Int)-1-((i+1:Nat):Int):=by rw[nW]<;>omega
   simp(disch:=omega)[n,g,aB,H,a,T,av,ak,L,O,-aaa]
 .have p:i=f.length:=an
  subst p;have U:((f.length:Int)<=(f.length:Int)-1)=False:=ah8
  have V:yP f 0=zei f:=by simp[yP]
  have W:qa 1 f.length (ax .u32 (zei f))=aq .u32 (zei f):=by rw[<-SO f];exact zoh .u32 (zei f)
  have I:=SO f;simp[U,V,I,eA I,W,aB]
def zBd[aE G][aD G][dh G][fK G](f:List af)(t:Nat)(x:af)(a:f[t]?=some x)(e:∀x∈f,x.k<4294967296)(b:du f=true) :
  FP G 172 [FL f,.int .i64 t] (.bc [.int .u32 (fN (bh (f.drop (t+1)) (aY x)) 18:Nat),.int .i64 0]):=by
 refine bw fK.ahs (aab rfl) ?_;obtain⟨g,v⟩:=aan.1 a;have h:=sC g;have i:f[t]∈f:=aak g;rw[v] at h i;have w:=e x i;obtain⟨l,_,m⟩:=Gq b a;simp only[cd,aaA] at l;have n:=zvU (G:=G) x t w (Av l.1.1.1) an;have p:x.cs=[.int .i64 x.op,.int .i64 x.jt,.int .i64 x.jf,.int .u32 (x.k:Int)]:=rfl;simp[IV,p] at n;simp;refine aw (zNi f e b) ?_;have y:((f.length:Int)<=(t:Int))=False:=ah8
 simp(disch:=omega)[y,kD,FL,h,p];refine aw n ?_;simp
 refine aO (aY x).length (λj=>[(6,.vs (aq .u32 (zei f)) .no),(8,.int .u32 (fN (bh (f.drop (t+1)) ((aY x).take j)) 18:Nat)),(33,.vs (ints .i64 (zQ x t)) .no),(34,.int .i64 (aY x).length),(35,.int .i64 j)])
  (λ_=>[]) (λ_=>True) ?_ ?_
 .have z:fN (bh (f.drop (t+1)) []) 18=0:=Y2 18;simp[av,ak,FL,z,zQ]
 intro j D _;have E:=zvW x
 by_cases c:j<(aY x).length
 .have d:(aY x)[j]?=some (aY x)[j]:=aae c;have q:(aY x)[j]∈aY x:=aak c;have r:=Ei b a q
  have s:(aY x).take (j+1)=(aY x).take j++[(aY x)[j]]:=by rw[aaJ,d];rfl
  have u:(zQ x t)[j]?=some ((t+1+(aY x)[j]:Nat):Int):=by simp[zQ,d]
  generalize(aY x)[j]=o at d q r s u;have A:=Y1 f (t+1+o) r
  have B:vA .u32 ((fN (bh (f.drop (t+1)) ((aY x).take j)) 18:Nat):Int) ((wd (f.drop (t+1+o)):Nat):Int)=((fN (bh (f.drop (t+1)) ((aY x).take (j+1))) 18:Nat):Int):=by rw[zH (aav (vV _ 18) ah9) (zFw _),s,<-zx7,abH]
  simp(disch:=omega)[bC,u,A,B,aB,FL,av,ak,bA,c,-aaa]
 .have C:j=(aY x).length:=an
  subst C;simp
def SP{f:List af}(h:du f=true):f≠[]:=by rintro rfl;simp[du,kK] at h
def cb(l:List Bool):List V:=l.map V.bool
@[simp] theorem zNQ (l:List Bool):(cb l).length=l.length:=by simp[cb]
@[simp] theorem akW (n:Nat) (l:List Bool):aZ n (cb l)=cb l:=by rw[g9];simp[cb,acG]
theorem zH9(l:List Bool)(i:Nat)(b:Bool)(h:l[i]?=some b):((cb l).drop i).take 1=[.bool b]:=by obtain⟨a,rfl⟩:=aan.1 h;rw[cb,<-adY,aaF a];rfl
def SQ(l:List Bool)(i:Nat)(x:Bool)(h:i<l.length):(cb l).take i++(V.bool x::(cb l).drop (i+1))=cb (l.set i x):=by rw[cb,<-adY,<-List.map_take,List.set_eq_take_append_cons_drop,if_pos h];simp[cb]
@[simp] theorem zOm (l:List Bool):(cb l).all V.pure=true:=by simp[cb]
@[simp high] theorem zNR (base:Nat) (e:Env) (H:ae) (s bytes:Nat) (n:X):aU base e H (.qt s bytes [.bool false] n)=(match n.ev e with
  | .int _ m=>if lJ H (base+s)=true/\0<=m/\m.toNat*bytes<=140737488355328 then some (.rs (base+s) 0 m.toNat 1,H.set (base+s) (some (.cells (cb (aaK m.toNat false))))) else none
  | _=>none):=by
 have h:∀m:Nat,(aaK m [V.bool false]).flatten=cb (aaK m false):=λm=>by
  induction m with
  | zero=>rfl
  | succ m a=>rw[acx,adv,a];simp[cb,acx]
 rw[aU.eq_27]
 cases n.ev e<;>simp only[h,List.length_singleton]
def Ld{f:List af}{i:Nat}{x:af}(h:du f=true)(a:f[i]?=some x):x.Ee:=by have:=(Gq h a).1;simp only[cd,aaA] at this;exact Av this.1.1.1
def goes(s:St)(x:af):Nat:=if x.op=5 then x.k else if aX x.op then(if bG s x then x.jt.toNat else x.jf.toNat) else 0
def run(d:Da)(g:List af)(s:St):Nat×Nat :=
 match g with
 | []=>(0,0)
 | x::g=>if x.op=6 then(x.k,1) else if x.op=22 then(s.a,1) else if(dJ s x d).2 then((run d (g.drop (goes s x)) (dJ s x d).1).1,(run d (g.drop (goes s x)) (dJ s x d).1).2+1) else(0,1)
termination_by g.length
decreasing_by all_goals (simp only[aby,aaq];omega)
def xN(d:Da)(x:af)(g:List af)(s:St):run d (x::g) s=if x.op=6 then(x.k,1) else if x.op=22 then(s.a,1) else if(dJ s x d).2 then((run d (g.drop (goes s x)) (dJ s x d).1).1,(run d (g.drop (goes s x)) (dJ s x d).1).2+1) else(0,1):=by rw[run]
def OE{x:af}(h:fW x.op=false)(s:St):goes s x∈aY x:=by
 unfold goes aY;rw[h];simp only[aa7,if_false]
 by_cases a:x.op=5
 .simp[a]
 .rw[if_neg a,if_neg a];split
  .split<;>simp
  .simp
def Y4(d:Da):∀(n:Nat) (g:List af) (s:St),g.length<=n->(run d g s).2<=g.length
 | _,[],s,_=>by rw[run];simp
 | 0,x::g,s,h=>by simp at h
 | n+1,x::g,s,h=>by
  rw[xN];have:=Y4 d n (g.drop (goes s x)) (dJ s x d).1 (by simp at h |-;omega);rw[aby] at this;rw[aaq];split
  .simp
  split
  .simp
  split
  .simp only;omega
  .simp
def zxu{s t:St}{x:af}(h:∀i,i<18->kX x i=true->part s i=part t i):bG s x=bG t x:=by
 cases b:aX x.op
 .rw[YJ b,YJ b]
 .have a:=h 0 ah9 (by simp[kX,b])
  by_cases c:x.op∈[29,45,61,77]
  .have d:=h 1 ah9 (by simp only[kX,uK,c];simp);simp only[part] at a d;simp only[bG,a,d]
  .simp only[part] at a;simp only[bG,a,c,if_false]
def ztI(d:Da)(hd:d.ok):∀(n:Nat) (g:List af) (s t:St),g.length<=n->s.ok->t.ok->(∀x∈g,x.k<4294967296)->(∀p,p<18->nd g p=true->part s p=part t p)->run d g s=run d g t
 | _,[],s,t,_,_,_,_,_=>by rw[run,run]
 | 0,x::g,s,t,h,_,_,_,_=>by simp at h
 | n+1,x::g,s,t,h,j,l,q,r=>by
  have u:=q x ir;have b:∀i,i<18->kX x i=true->part s i=part t i:=λi hi b=>r i hi (by rw[YZ,b];rfl);obtain⟨v,w⟩:=zzG s t x d j.2.2.1 l.2.2.1 b;rw[xN,xN]
  by_cases c:x.op=6
  .rw[if_pos c,if_pos c]
  rw[if_neg c,if_neg c]
  by_cases a:x.op=22
  .rw[if_pos a,if_pos a];have:=b 0 ah9 (by simp[kX,a]);simp only[part] at this;rw[this]
  rw[if_neg a,if_neg a]
  have z:fW x.op=false:=by simp[fW,c,a]
  have A:goes s x=goes t x:=by unfold goes;rw[zxu b]
  have B:=OE z t
  have m:=ztI d hd n (g.drop (goes t x)) (dJ s x d).1 (dJ t x d).1 (by simp at h |-;omega) (Gl j u hd) (Gl l u hd) (λy C=>q y (by simp[abh C])) λp e D=>by
   cases f:mg x p
   .rw[zpU s x d j.2.2.1 p e f,zpU t x d l.2.2.1 p e f];refine r p e ?_;rw[YZ,f];have:(aY x).any (λo=>nd (g.drop o) p)=true:=adE.2 ⟨_,B,D⟩;rw[this];simp
   .exact w p e f
  rw[A,v,m]
def zx8[eE G][DD:mO G][mZ G][jN G][pE G][q9 G](f:List af)(d:Da)(I:∀x∈f,x.k<4294967296)(u:du f=true)(hd:d.ok) :
  ∀(n t:Nat) (s:St),f.length-t<=n->t<f.length->s.ok->FP G 192 [FL f,SV s,.int .i64 t,DV d] (.bc [.int .u32 ((run d (f.drop t) s).1:Nat),.int .i64 ((run d (f.drop t) s).2:Nat)])
 | 0,t,s,h,p,_=>by omega
 | n+1,t,s,h,p,v=>by
  refine bw q9.ahK (aab rfl) ?_;have w:f[t]?=some f[t]:=aae p;have Q:=sC p;have J:f[t]∈f:=aak p;have K:=aaF p;obtain⟨x,m⟩:=bb (f[t]);rw[<-m] at w Q J K;have m:=m.symm;have y:=I x J;obtain⟨o1,o2,L⟩:=Gq u w;have R:=Ld u w;have z:x.cs=[.int .i64 x.op,.int .i64 x.jt,.int .i64 x.jf,.int .u32 (x.k:Int)]:=rfl;have A:=Yj (G:=G) x;have M:=zA3 (G:=G) s x v y
  have b:=zDG (G:=G) s x d v y hd;have o:=v.2.2.1;have q:=eA (k:=.u32) o;have e:=hd.2.2.2.1;have i:=eA (k:=.u64) e;have S:aC .i64 (t:Int) 1=((t+1:Nat):Int):=bA an;have T:=CW x.k y;have N:=Gl v y hd;have g:=N.2.2.1;have B:=eA (k:=.u32) g;rw[K,xN];simp[SV,IV,DV,FL,z,St.cs,Da.cs] at A M b |-
  by_cases C:x.op=6
  .simp(disch:=omega)[m,z,C]
  have U:(x.op==6)=false:=aG C
  by_cases D:x.op=22
  .simp(disch:=omega)[m,z,D]
  have W:(x.op==22)=false:=aG D
  have X:fW x.op=false:=by simp[fW,C,D]
  have Y:=Ei u w (OE X s);have c:=zx8 f d I u hd n (t+1+goes s x) (dJ s x d).1 an Y N;have O:=Y4 d _ (f.drop (t+1+goes s x)) (dJ s x d).1 (aaH _);rw[aby] at O;simp[SV,DV,FL,St.cs,Da.cs,-aaa] at c;rw[show f.drop (t+1+goes s x)=(f.drop (t+1)).drop (goes s x) by rw[abH]] at c O;have a:aC .i64 ((run d ((f.drop (t+1)).drop (goes s x)) (dJ s x d).1).2:Int) 1=(((run d ((f.drop (t+1)).drop (goes s x)) (dJ s x d).1).2+1:Nat):Int):=bA an
  simp(disch:=omega)[m,z,U,W,C,D,S,-aaa];have c1:∀n:Nat,(V.int .u32 (n:Int)).cl 0=.int .u32 n:=λ_=>rfl
  by_cases j:x.op=5
  .have F:(x.op==5)=true:=by simp[j]
   have Z:aX x.op=false:=by rw[j];decide
   have l:goes s x=x.k:=by simp[goes,j]
   have r:aC .i64 ((t+1:Nat):Int) (x.k:Int)=((t+1+x.k:Nat):Int):=qA an;rw[Z] at A;rw[l] at c a |-;simp(disch:=omega)[F,T,r,-aaa];refine aw A ?_;simp(disch:=omega)[o,q,e,i,-aaa];refine aw b ?_;cases H:(dJ s x d).2
   .simp[g]
   .simp(disch:=omega)[g,B,e,i,-aaa];refine aw c ?_;rw[abH] at a;simp[a,-aaa]
  have F:(x.op==5)=false:=aG j;simp(disch:=omega)[F,-aaa];refine aw A ?_;cases E:aX x.op
  .have l:goes s x=0:=by simp[goes,j,E]
   rw[l] at c a |-;simp(disch:=omega)[o,q,e,i,-aaa];refine aw b ?_;cases H:(dJ s x d).2
   .simp[g]
   .simp(disch:=omega)[g,B,e,i,-aaa];refine aw c ?_;simp at a |-;simp[a]
  obtain⟨b1,b2,b3,b4⟩:=R E;simp(disch:=omega)[o,q,-aaa];refine aw M ?_;cases P:bG s x
  .have l:goes s x=x.jf.toNat:=by simp[goes,j,E,P]
   have r:aC .i64 ((t+1:Nat):Int) x.jf=((t+1+x.jf.toNat:Nat):Int):=by rw[eB]<;>omega
   rw[l] at c a |-;simp(disch:=omega)[o,q,e,i,r,-aaa];refine aw b ?_;cases H:(dJ s x d).2
   .simp[g]
   .simp(disch:=omega)[g,B,e,i,-aaa];refine aw c ?_;rw[abH] at a;simp[a,-aaa]
  .have l:goes s x=x.jt.toNat:=by simp[goes,j,E,P]
   have r:aC .i64 ((t+1:Nat):Int) x.jt=((t+1+x.jt.toNat:Nat):Int):=by rw[eB]<;>omega
   rw[l] at c a |-;simp(disch:=omega)[o,q,e,i,r,-aaa];refine aw b ?_;cases H:(dJ s x d).2
   .simp[g]
   .simp(disch:=omega)[g,B,e,i,-aaa];refine aw c ?_;rw[abH] at a;simp[a,-aaa]
structure Cd where
 arg:Int
 cmp:Int
 mask:Nat
 val:Nat
 deriving DecidableEq
def Cd.ok(c:Cd):Prop:=c.mask<18446744073709551616/\c.val<18446744073709551616
def Cd.right(c:Cd):Bool:=decide (0<=c.arg/\c.arg<=5/\0<=c.cmp/\c.cmp<=5)
def qE(cmp:Int)(a b:Nat):Bool :=
 if cmp=0 then decide (a=b) else if cmp=1 then decide (a≠b) else if cmp=2 then decide (a<b) else if cmp=3 then decide (a<=b) else if cmp=4 then decide (b<a) else decide (b<=a)
def nH(d:Da)(c:Cd):Nat:=d.args.getD c.arg.toNat 0 &&& c.mask
def Cd.holds(c:Cd)(d:Da):Bool:=c.right&&qE c.cmp (nH d c) c.val
def pQ(c:List af)(l:Nat):List af:=c.drop (c.length-l)
def zGp{a c:List af}{l:Nat}(h:l<=c.length):pQ (a++c) l=pQ c l:=by unfold pQ;rw[aa6,show a.length+c.length-l=a.length+(c.length-l) by omega,acy]
def zS(c:List af):pQ c c.length=c:=by simp[pQ]
def n_(c c':List af)(n:Nat):Prop:=∃a,c'=a++c/\a.length<=n
def n_.refl(c:List af):n_ c c 0:=⟨[],rfl,aaH _⟩
def n_.trans{a b c:List af}{n m:Nat}(h:n_ a b n)(k:n_ b c m):n_ a c (n+m):=by obtain⟨x,rfl,d⟩:=h;obtain⟨y,rfl,e⟩:=k;exact⟨y++x,by rw[acQ],by rw[aa6];omega⟩
def n_.mono{a b:List af}{n m:Nat}(h:n_ a b n)(c:n<=m):n_ a b m:=by obtain⟨x,rfl,d⟩:=h;exact⟨x,rfl,an⟩
def n_.len{a b:List af}{n:Nat}(h:n_ a b n):a.length<=b.length/\b.length<=a.length+n:=by obtain⟨x,rfl,c⟩:=h;rw[aa6];omega
def n_.pQ{a b:List af}{n l:Nat}(h:n_ a b n)(c:l<=a.length):pQ b l=pQ a l:=by obtain⟨x,rfl,d⟩:=h;exact zGp c
def bT(c:List af)(t:Nat):List af:=if c.length-t<=254 then c else⟨5,0,0,c.length-t⟩::c
def gu(c:List af)(t:Nat):Nat:=if c.length-t<=254 then t else c.length+1
def gD(c:List af)(op:Int)(k t f:Nat):List af :=
 ⟨op,((bT (bT c t) f).length-gu c t:Nat),((bT (bT c t) f).length-gu (bT c t) f:Nat),k⟩::bT (bT c t) f
def bx(c:List af)(op:Int)(k:Nat):List af:=⟨op,0,0,k⟩::c
def BM(c:List af)(t:Nat):n_ c (bT c t) 1:=by
 unfold bT;split
 .exact(n_.refl c).mono an
 .exact⟨[_],rfl,aaH _⟩
def Le{c:List af}{t:Nat}(h:1<=t/\t<=c.length):1<=gu c t/\gu c t<=(bT c t).length/\(bT c t).length-gu c t<=254:=by
 unfold gu bT;split
 .exact⟨h.1,h.2,an⟩
 .simp only[aaq];omega
def OF(c:List af)(op:Int)(k:Nat):n_ c (bx c op k) 1:=⟨[_],rfl,aaH _⟩
def Ej(c:List af)(op:Int)(k t f:Nat):n_ c (gD c op k t f) 3 :=
 ((BM c t).trans (BM _ f)).trans ⟨[_],rfl,aaH _⟩
def zry(c:List af)(op:Int)(k t f:Nat):c.length<(gD c op k t f).length:=by have:=((BM c t).trans (BM _ f)).len;simp only[gD,aaq];omega
def OG(op:Int):Prop:=op=5\/op=21\/op=37\/op=53
def zx9{x:af}(h:OG x.op)(s:St)(d:Da):dJ s x d=(s,true):=by
 have a:∀op:Int,OG op->bf op=(0,false,false):=by rintro op (rfl|rfl|rfl|rfl)<;>decide
 simp only[dJ,a _ h,aa7,if_false,ic]
 rcases h with h|h|h|h<;>simp[h]
def zvY{d:Da}{c:List af}{t:Nat}(h:1<=t/\t<=c.length)(s:St):(run d (pQ (bT c t) (gu c t)) s).1=(run d (pQ c t) s).1:=by
 unfold bT gu;split
 .rfl
 .have e:pQ (⟨5,0,0,c.length-t⟩::c) (c.length+1)=⟨5,0,0,c.length-t⟩::c:=zS _;rw[e,xN,if_neg (show¬(5:Int)=6 by decide),if_neg (show¬(5:Int)=22 by decide),zx9 (.inl rfl)];simp[goes,pQ]
def sO(op:Int):Prop:=op=21\/op=37\/op=53
def takeN(op:Int)(a k:Nat):Bool:=if op=21 then decide (a=k) else if op=37 then decide (k<a) else decide (k<=a)
def Lf{d:Da}{c:List af}{op:Int}{k t f:Nat}(b:sO op)(e:1<=t/\t<=c.length)(g:1<=f/\f<=c.length)(s:St) :
  (run d (gD c op k t f) s).1=(run d (pQ c (if takeN op s.a k then t else f)) s).1:=by
 have h:=BM c t;have m:=BM (bT c t) f;have n:=Le e;have i:1<=f/\f<=(bT c t).length:=⟨g.1,by have:=h.len;omega⟩;have v:=Le i;have j:=zvY (d:=d) e s;have l:=zvY (d:=d) i s;rw[h.pQ g.2] at l;rw[<-m.pQ n.2.1] at j
 have o:aX op=true:=by rcases b with rfl|rfl|rfl<;>decide
 have p:op≠5:=by rcases b with rfl|rfl|rfl<;>decide
 have q:op≠6:=by rcases b with rfl|rfl|rfl<;>decide
 have r:op≠22:=by rcases b with rfl|rfl|rfl<;>decide
 unfold gD;generalize bT (bT c t) f=c2 at *;generalize gu c t=t1 at *;generalize gu (bT c t) f=f1 at *;rw[xN,if_neg q,if_neg r,zx9 (.inr (by rcases b with rfl|rfl|rfl<;>simp))]
 have u:bG s ⟨op,((c2.length-t1:Nat):Int),((c2.length-f1:Nat):Int),k⟩=takeN op s.a k:=by rcases b with rfl|rfl|rfl<;>simp[bG,takeN]
 simp only[if_true,goes,if_neg p,o,u];cases takeN op s.a k
 .simp only[aa7,if_false,adw];exact l
 .simp only[if_true,adw];exact j
def Y5{c:List af}{x:af}(h:du c=true)(b:cd x c.length=true)(e:c.length<4096):du (x::c)=true:=by
 simp only[du,aaA,decide_eq_true_eq] at h |-;obtain⟨⟨f,d⟩,a⟩:=h;refine⟨⟨by simp only[aaq];omega,by simp only[jF,aaA];exact⟨b,d⟩⟩,?_⟩
 cases c with
 | nil=>simp[kK] at a
 | cons y c=>simpa[kK,List.getLast?_cons_cons] using a
def zrz{c:List af}{t:Nat}(h:du c=true)(e:1<=t/\t<=c.length)(a:c.length<4096):du (bT c t)=true:=by
 unfold bT;split
 .exact h
 .refine Y5 h ?_ a
  have b:oG 5=some (5,[106,97],true,false):=by decide
  have d:aX 5=false:=by decide
  simp[cd,jS,b,kJ,d];omega
def SU{c:List af}{op:Int}{k t f:Nat}(i:sO op)(h:du c=true)(d:1<=t/\t<=c.length)(j:1<=f/\f<=c.length)(s:c.length+3<=4096):du (gD c op k t f)=true:=by
 have u:=(BM c t).len;have v:=(BM (bT c t) f).len;have w:=Le d;have e:1<=f/\f<=(bT c t).length:=⟨j.1,an⟩;have x:=Le e;have l:=zrz h d an;have m:=zrz l e an;unfold gD;generalize bT (bT c t) f=c2 at *;generalize gu c t=t1 at *;generalize gu (bT c t) f=f1 at *;refine Y5 m ?_ an
 have a:∀op:Int,sO op->(oG op).map (λr=>(r.2.2.1,r.2.2.2))=some (true,true)/\aX op=true/\op≠5/\∀k,kJ ⟨op,((c2.length-t1:Nat):Int),((c2.length-f1:Nat):Int),k⟩=true:=by rintro op (rfl|rfl|rfl)<;>exact⟨ah9,ah9,ah9,λk=>by simp[kJ]⟩
 obtain⟨g,n,o,p⟩:=a op i;rw[abj] at g;obtain⟨r,q,b⟩:=g;simp only[adu.injEq] at b;simp only[cd,jS,q,b.1,b.2,p,o,n,if_true,if_false,Bool.true_or,abR,adf,aaA,decide_eq_true_eq];omega
def ID(op:Int)(k:Nat):Prop:=op=84\/op=6\/op=32/\k%4=0/\k<64
def ztJ{op:Int}{k:Nat}(d:ID op k):jS ⟨op,0,0,k⟩=true/\kJ ⟨op,0,0,k⟩=true/\aX op=false/\op≠5:=by
 rcases d with rfl|rfl|⟨rfl,e,f⟩
 .refine⟨?_,by simp[kJ],ah9,ah9⟩
  have b:(oG 84).map (λr=>(r.2.2.1,r.2.2.2))=some (true,false):=by decide
  rw[abj] at b;obtain⟨r,c,a⟩:=b;simp only[adu.injEq] at a;simp[jS,c,a.1,a.2]
 .refine⟨?_,by simp[kJ],ah9,ah9⟩
  have b:(oG 6).map (λr=>(r.2.2.1,r.2.2.2))=some (true,false):=by decide
  rw[abj] at b;obtain⟨r,c,a⟩:=b;simp only[adu.injEq] at a;simp[jS,c,a.1,a.2]
 .refine⟨?_,by simp[kJ,e,f],ah9,ah9⟩
  have b:(oG 32).map (λr=>(r.2.2.1,r.2.2.2))=some (true,false):=by decide
  rw[abj] at b;obtain⟨r,c,a⟩:=b;simp only[adu.injEq] at a;simp[jS,c,a.1,a.2]
def OH{c:List af}{op:Int}{k:Nat}(a:ID op k)(h:du c=true)(b:c.length<4096):du (bx c op k)=true:=by refine Y5 h ?_ b;obtain⟨d,e,f,g⟩:=ztJ a;simp[cd,d,e,f,g]
def zya(d:Da)(c:List af)(k:Nat)(s:St):(run d (bx c 84 k) s).1=(run d c { s with a:=s.a &&& k }).1:=by
 have b:bf (84:Int)=(84,false,true):=by decide
 have e:aX 84=false:=by decide
 have f:dJ s ⟨84,0,0,k⟩ d=({ s with a:=s.a &&& k },true):=by simp[dJ,b,kj,jq,cC]
 rw[bx,xN,if_neg (show¬(84:Int)=6 by decide),if_neg (show¬(84:Int)=22 by decide),f];simp[goes,e]
def SW(d:Da)(c:List af)(k:Nat)(s:St):(run d (bx c 32 k) s).1=(run d c { s with a:=(pO d k).1 }).1:=by
 have b:bf (32:Int)=(0,false,false):=by decide
 have e:aX 32=false:=by decide
 have f:dJ s ⟨32,0,0,k⟩ d=({ s with a:=(pO d k).1 },true):=by simp[dJ,b,ic]
 rw[bx,xN,if_neg (show¬(32:Int)=6 by decide),if_neg (show¬(32:Int)=22 by decide),f];simp[goes,e]
def zGq(d:Da)(c:List af)(k:Nat)(s:St):(run d (bx c 6 k) s).1=k:=by rw[bx,xN,if_pos rfl]
def qF(d:Da)(c:List af)(l v:Nat):Prop:=∀s:St,s.ok->(run d (pQ c l) s).1=v
def qF.grown{d:Da}{a b:List af}{n l v:Nat}(h:qF d a l v)(g:n_ a b n)(c:l<=a.length):qF d b l v:=λs e=>by rw[g.pQ c];exact h s e
def Gs(d:Da)(c:List af)(l a v:Nat):Prop:=∀s:St,s.ok->s.a=a->(run d (pQ c l) s).1=v
def Gs.grown{d:Da}{a b:List af}{n l w v:Nat}(h:Gs d a l w v)(g:n_ a b n)(c:l<=a.length):Gs d b l w v:=λs e f=>by rw[g.pQ c];exact h s e f
def qF.dep{d:Da}{c:List af}{l v:Nat}(h:qF d c l v)(w:Nat):Gs d c l w v:=λs a _=>h s a
def St.Ek{s:St}(h:s.ok){a:Nat}(b:a<4294967296):({ s with a:=a }:St).ok:=⟨b,h.2⟩
def yQ(n:Int):Int:=if n=0 then 1 else if n=1 then 0 else if n=2 then 5 else if n=3 then 4 else if n=4 then 3 else 2
def km(n:Int):Int:=if n=4 then 37 else if n=5 then 53 else 21
def bX(c:List af)(x:Cd)(t f:Nat):List af:=bx (bx (gD c (km x.cmp) (lo x.val) t f) 84 (lo x.mask)) 32 (16+8*x.arg.toNat)
def rN(c:List af)(x:Cd)(t f:Nat):List af:=if km x.cmp=21 then bX c x t f else gD (bX c x t f) 37 (hi x.val) t f
def El(c:List af)(x:Cd)(t f:Nat):List af :=
 bx (bx (gD (rN c x t f) 21 (hi x.val) (bX c x t f).length (if km x.cmp=21 then f else(rN c x t f).length)) 84 (hi x.mask)) 32 (20+8*x.arg.toNat)
def Em(x:Cd):Bool:=decide (x.cmp=1\/x.cmp=2\/x.cmp=3)
def fh(c:List af)(x:Cd)(t f:Nat):List af:=if Em x then El c { x with cmp:=yQ x.cmp } f t else El c x t f
def Y7(n:Int):sO (km n):=by
 unfold km sO;split
 .exact .inr (.inl rfl)
 .split
  .exact .inr (.inr rfl)
  .exact .inl rfl
def OI(c:List af)(x:Cd)(t f:Nat):n_ c (bX c x t f) 5:=((Ej c _ _ t f).trans (OF _ _ _)).trans (OF _ _ _)
def OJ(c:List af)(x:Cd)(t f:Nat):n_ (bX c x t f) (rN c x t f) 3:=by
 unfold rN;split
 .exact(n_.refl _).mono an
 .exact Ej _ _ _ _ _
def zxv(c:List af)(x:Cd)(t f:Nat):n_ c (El c x t f) 13 :=
 (((OI c x t f).trans (OJ c x t f)).trans (Ej _ _ _ _ _)).trans ((OF _ _ _).trans (OF _ _ _)) |>.mono an
def zrB(c:List af)(x:Cd)(t f:Nat):n_ c (fh c x t f) 13:=by
 unfold fh
 split<;>exact zxv _ _ _ _
def SX{x:Cd}(h:x.right=true)(b:Nat)(a:b=16\/b=20):ID 32 (b+8*x.arg.toNat):=by
 simp only[Cd.right,decide_eq_true_eq] at h
 refine .inr (.inr ⟨rfl,?_,?_⟩)<;>omega
def zpV{c:List af}{x:Cd}{t f:Nat}(h:du c=true)(a:x.right=true)(d:1<=t/\t<=c.length)(e:1<=f/\f<=c.length)(j:c.length+13<=4096):du (El c x t f)=true:=by
 have k:=(OI c x t f).len;have l:=(OJ c x t f).len;have m:=(Ej c (km x.cmp) (lo x.val) t f).len
 have b:du (bX c x t f)=true:=by refine OH (SX a 16 (.inl rfl)) (OH (.inl rfl) (SU (Y7 _) h d e an) an) ?_;simp only[bx,aaq];omega
 have p1:1<=(bX c x t f).length:=an
 have g:du (rN c x t f)=true:=by
  unfold rN;split
  .exact b
  .exact SU (.inr (.inl rfl)) b an an an
 have i:1<=(if km x.cmp=21 then f else(rN c x t f).length)/\(if km x.cmp=21 then f else(rN c x t f).length)<=(rN c x t f).length:=by split<;>omega
 have n:=(Ej (rN c x t f) 21 (hi x.val) (bX c x t f).length (if km x.cmp=21 then f else(rN c x t f).length)).len;refine OH (SX a 20 (.inr rfl)) (OH (.inl rfl) (SU (.inl rfl) g an i an) an) ?_;simp only[bx,aaq];omega
def OK{x:Cd}(h:x.right=true):({ x with cmp:=yQ x.cmp }:Cd).right=true:=by
 simp only[Cd.right,decide_eq_true_eq] at h |-;refine⟨h.1,h.2.1,?_⟩;simp only[yQ]
 repeat' split
 all_goals omega
def zzI{c:List af}{x:Cd}{t f:Nat}(h:du c=true)(a:x.right=true)(b:1<=t/\t<=c.length)(d:1<=f/\f<=c.length)(e:c.length+13<=4096):du (fh c x t f)=true:=by
 unfold fh;split
 .exact zpV h (OK a) d b e
 .exact zpV h a b d e
def zDH{d:Da}{i:Nat}(hd:d.ok)(h:i<=5):(pO d (16+8*i)).1=lo (d.args.getD i 0)/\(pO d (20+8*i)).1=hi (d.args.getD i 0):=by
 obtain⟨_,_,_,a,_⟩:=hd
 match b:d.args,a with
 | [c,e,f,g,j,k],_ =>
  have:i=0\/i=1\/i=2\/i=3\/i=4\/i=5:=an
  rcases this with rfl|rfl|rfl|rfl|rfl|rfl<;>simp[pO,iV,b]
def zIa(a b:Nat):lo a &&& lo b=(a &&& b)%4294967296:=by unfold lo;have h:=Nat.and_mod_two_pow (a:=a) (b:=b) (n:=32);simpa using h.symm
def zIb{a b:Nat}(e:a<18446744073709551616)(f:b<18446744073709551616):hi a &&& hi b=(a &&& b)/4294967296:=by have h:=Nat.and_div_two_pow (a:=a) (b:=b) (n:=32);have c:hi a=a/4294967296:=aaQ an;have d:hi b=b/4294967296:=aaQ an;rw[c,d];simpa using h.symm
def zBe{op:Int}{v k:Nat}(c:k<18446744073709551616) :
  (op=21->decide (v=k)=(decide (v/4294967296=hi k)&&decide (v%4294967296=lo k))) /\
  (op=37->decide (k<v)=(if v/4294967296=hi k then decide (lo k<v%4294967296) else decide (hi k<v/4294967296))) /\
  (op=53->decide (k<=v)=(if v/4294967296=hi k then decide (lo k<=v%4294967296) else decide (hi k<v/4294967296))):=by
 have a:hi k=k/4294967296:=aaQ an;have b:lo k=k%4294967296:=rfl;rw[b,a];refine⟨λ_=>?_,λ_=>?_,λ_=>?_⟩
 .rw[aaw];simp only[aaA,decide_eq_true_eq];omega
 .split<;>rw[aaw]<;>simp only[decide_eq_true_eq]<;>omega
 .split<;>rw[aaw]<;>simp only[decide_eq_true_eq]<;>omega
def zrC{d:Da}{c:List af}{x:Cd}{t f:Nat}(hd:d.ok)(u:x.right=true)(w:x.ok)(y:km x.cmp=21->x.cmp=0)(z:1<=t/\t<=c.length)(k:1<=f/\f<=c.length)
  (s:St) (l:s.ok):∃s':St,s'.ok/\(run d (El c x t f) s).1=(run d (pQ c (if x.holds d then t else f)) s').1:=by
 have m:=u;simp only[Cd.right,decide_eq_true_eq] at u;obtain⟨G,H⟩:=zDH (i:=x.arg.toNat) hd an
 have A:d.args.getD x.arg.toNat 0<18446744073709551616:=by obtain⟨_,_,_,Q,I⟩:=hd;rw[abG,aae an];exact I _ (aak _)
 have B:=zIa (d.args.getD x.arg.toNat 0) x.mask;have C:=zIb A w.1;have R:nH d x<18446744073709551616:=aau acZ A;rw[show d.args.getD x.arg.toNat 0 &&& x.mask=nH d x from rfl] at B C;have j:=(OI c x t f);have n:=(OJ c x t f);have p1:=j.len;have p2:=n.len
 have q1:1<=(bX c x t f).length:=an
 have o:∀s:St,s.ok->∃s':St,s'.ok/\(run d (bX c x t f) s).1=(run d (pQ c (if takeN (km x.cmp) (nH d x%4294967296) (lo x.val) then t else f)) s').1:=by intro s l;have S:=Oo (d.args.getD x.arg.toNat 0);have J:nH d x%4294967296<4294967296:=abg _ ah9;rw[bX,SW,zya,G];simp only[B];rw[Lf (Y7 _) z k];simp only;have h:=St.Ek l J;exact⟨_,h,rfl⟩
 have K:nH d x/4294967296<4294967296:=an
 have h:=St.Ek l K
 have L:1<=(if km x.cmp=21 then f else(rN c x t f).length)/\(if km x.cmp=21 then f else(rN c x t f).length)<=(rN c x t f).length:=by split<;>omega
 rw[El,SW,zya,H];simp only[C];rw[Lf (.inl rfl) an L];simp only[takeN,if_true];obtain⟨D,E,F⟩:=zBe (op:=km x.cmp) (v:=nH d x) w.2
 by_cases a:nH d x/4294967296=hi x.val
 .obtain⟨M,p,N⟩:=o _ h;rw[if_pos (by simpa using a),n.pQ (aaH _),zS,N];refine⟨M,p,?_⟩
  suffices O:takeN (km x.cmp) (nH d x%4294967296) (lo x.val)=x.holds d by rw[O]
  simp only[Cd.holds,m,abR,takeN]
  by_cases g:x.cmp=4
  .have e:km x.cmp=37:=by rw[g];rfl
   have:=E e;rw[if_pos a] at this;simp only[g,qE];rw[this];simp[km]
  .by_cases b:x.cmp=5
   .have e:km x.cmp=53:=by rw[b];rfl
    have:=F e;rw[if_pos a] at this;simp only[b,qE];rw[this];simp[km]
   .have e:km x.cmp=21:=by simp[km,g,b]
    have q:=y e;have:=D e;simp only[q,qE];rw[this];simp[a,km]
 .rw[if_neg (by simpa using a)]
  by_cases e:km x.cmp=21
  .have q:=y e;have:=D e
   have r:x.holds d=false:=by simp only[Cd.holds,m,abR,q,qE,if_true];rw[this];simp[a]
   rw[if_pos e,r,n.pQ an,j.pQ k.2];exact⟨_,h,rfl⟩
  .have P:rN c x t f=gD (bX c x t f) 37 (hi x.val) t f:=by rw[rN,if_neg e]
   rw[if_neg e,zS,P,Lf (.inr (.inl rfl)) an an]
   have r:x.holds d=decide (hi x.val<nH d x/4294967296):=by
    simp only[Cd.holds,m,abR]
    by_cases g:x.cmp=4
    .have:=E (by rw[g];rfl);rw[if_neg a] at this;simp only[g,qE];rw[<-this];simp
    .have b:x.cmp=5:=by apply Classical.byContradiction;intro b;exact e (by simp[km,g,b])
     have:=F (by rw[b];rfl);rw[if_neg a] at this;simp only[b,qE];rw[<-this];simp
   rw[r];simp only[takeN,show((37:Int)=21)=False by simp,if_false,if_true];cases decide (hi x.val<nH d x/4294967296)
   .simp only[aa7,if_false];rw[j.pQ k.2];exact⟨_,h,rfl⟩
   .simp only[if_true];rw[j.pQ z.2];exact⟨_,h,rfl⟩
def zBf{d:Da}{c:List af}{x:Cd}{t f:Nat}(hd:d.ok)(b:x.right=true)(i:x.ok)(j:1<=t/\t<=c.length)(k:1<=f/\f<=c.length)
  (s:St) (l:s.ok):∃s':St,s'.ok/\(run d (fh c x t f) s).1=(run d (pQ c (if x.holds d then t else f)) s').1:=by
 have m:=b;simp only[Cd.right,decide_eq_true_eq] at m
 by_cases g:Em x=true
 .rw[fh,if_pos g];have e:=g;simp only[Em,decide_eq_true_eq] at e
  have:=zrC (x:={ x with cmp:=yQ x.cmp }) hd (OK b) i (λh=>by
   rcases e with a|a|a<;>simp only[a,yQ,km] at h |-<;>simp at h |-) k j s l
  have n:({ x with cmp:=yQ x.cmp }:Cd).holds d=!x.holds d:=by
   have o:=OK b;simp only[Cd.holds,b,o,abR];have p:nH d { x with cmp:=yQ x.cmp }=nH d x:=rfl;rw[p]
   rcases e with a|a|a<;>simp[a,yQ,qE]
   .rw[aaw];simp
   .rw[aaw];simp
  rw[n] at this
  cases q:x.holds d<;>rw[q] at this<;>simpa using this
 .rw[fh,if_neg g];have e:=g;simp only[Em,decide_eq_true_eq] at e;refine zrC hd b i (λh=>?_) j k s l
  have:x.cmp=0\/x.cmp=4\/x.cmp=5:=an
  rcases this with a|a|a
  .exact a
  .rw[a] at h;simp[km] at h
  .rw[a] at h;simp[km] at h
def zDI{d:Da}{c:List af}{x:Cd}{t f a b:Nat}(hd:d.ok)(h:x.right=true)(i:x.ok)(j:1<=t/\t<=c.length)(k:1<=f/\f<=c.length)
  (l:qF d c t a) (m:qF d c f b):qF d (fh c x t f) (fh c x t f).length (if x.holds d then a else b):=by
 intro s n;rw[zS];obtain⟨s',g,e⟩:=zBf (f:=f) hd h i j k s n;rw[e];cases x.holds d
 .exact m _ g
 .exact l _ g
def iq.self{H:ae}(h:iq H):ak H.length H=H:=by have:=La h [] 0;simpa using this
def iq.back{H:ae}(h:iq H)(r:ae):ak H.length (H++r)=H:=by have:=La h r 0;simpa using this
def iq.app{H:ae}(h:iq H){r:ae}(a:∀n,r.map (ab7 (ay.cl n))=r):iq (H++r):=by intro m b;rw[acm,a,h m (by rw[aa6] at b;omega)]
def iq.nil:iq []:=λ_ _=>rfl
structure Nd where
 kind:Nat
 f:List Nat
 n:Nat
 vars:List Nat
 tab:List Nat
 op:Int
 x:Nat
 y:Nat
 deriving DecidableEq
def Nd.cs(a:Nd):List V:=.int .i64 (a.kind:Int)::(ax .u32 a.f++.int .i64 (a.n:Int)::(ax .i64 a.vars++(ax .u32 a.tab++[.int .i64 a.op,.int .i64 (a.x:Int),.int .i64 (a.y:Int)])))
def sQ:Nd:=⟨0,aR 35,0,aR 4,aR 16,0,0,0⟩
def nz:(V.int .i64 0::(ax .u32 (aR 35)++V.int .i64 0::V.int .i64 0::V.int .i64 0::V.int .i64 0::V.int .i64 0::(ax .u32 (aR 16)++[V.int .i64 0,V.int .i64 0,V.int .i64 0])))=sQ.cs:=rfl
def Nd.ok(a:Nd):Prop:=a.f.length=35/\a.vars.length=4/\a.tab.length=16
def Nd.len{a:Nd}(h:a.ok):a.cs.length=60:=by simp[Nd.cs,h.1,h.2.1,h.2.2]
def fe(f:List Nat):Nd:={ sQ with f:=f }
def zDJ(f:List Nat)(a:f.length=35)(e:Env)(t:Nat)(b:e t=.agg (ax .u32 f)):ow e sQ.cs [(0,1,.c (.int .i64 0)),(1,35,.t t)]=some (fe f).cs:=by
 have d:(ax .u32 f).length=35:=by simp[a]
 have hd:∀r:List V,(ax .u32 (aR 35)++r).drop 35=r:=λr=>by rw[List.drop_left' ir]
 simp[ow,b,sQ,Nd.cs,d,hd,fe]
def Y9[au G](c:Nat):FP G 243 [.int .u32 c] (.agg (ax .u32 (c::aR 34))):=by refine bw au.aeq (aab rfl) ?_;have a:ax .u32 (aR 35)=.int .u32 0::ax .u32 (aR 34):=rfl;have b:ax .u32 (c::aR 34)=.int .u32 (c:Int)::ax .u32 (aR 34):=rfl;simp[a,b]
def cJ(i:Nat):List Nat:=(aR 35).set (i+1) 1
def Y_[au G](i:Nat)(hi:i<34):FP G 244 [.int .i64 i] (.bc [.agg (ax .u32 (cJ i)),.int .i64 0]):=by
 refine bw au.aer (aab rfl) ?_;have c:ax .u32 (aR 35)=.int .u32 0::ax .u32 (aR 34):=rfl;have d:=wQ .u32 (aR 34) i 1 (by simp;omega)
 have e:ax .u32 (cJ i)=.int .u32 0::ax .u32 ((aR 34).set i 1):=by rw[cJ,show aR 35=0::aR 34 from rfl,List.set_cons_succ];rfl
 have b:∀(a:V) (l:List V),(a::l).take (1+i)=a::l.take i:=λa l=>by rw[abI];rfl
 have h:(1:Int)=((1:Nat):Int):=rfl
 have hd:(ax .u32 (aR 34)).take i++V.int .u32 1::(ax .u32 (aR 34)).drop (1+i)=ax .u32 ((aR 34).set i 1):=by rw[abI];exact d
 have f:((aR 34).set i 1).length=34:=by simp
 have g:=eA (k:=.u32) f;simp(disch:=omega)[bC,kD,D5,aB,c,e,hd,b,g]
def zBg[au G](i:Int)(hi:i<0\/34<=i):FP G 244 [.int .i64 i] (.bc [.agg (ax .u32 (aR 35)),.int .i64 1]):=by
 refine bw au.aer (aab rfl) ?_
 by_cases h:i<0
 .simp[h]
 .have a:(34<=i)=True:=ah7;have b:(i<0)=False:=eq_false h;simp[b,a]
def Gu:∀{k1 k2:List Kd} {a b c d:List V} {x y:Bool},cG k1 a b=some x->cG k2 c d=some y->cG (k1++k2) (a++c) (b++d)=some (x&&y)
 | [],k2,[],[],c,d,x,y,e,f=>by simp only[cG,abc.injEq] at e;subst e;simpa using f
 | [],_,[],_::_,_,_,_,_,h,_=>by simp[cG] at h
 | [],_,_::_,_,_,_,_,_,h,_=>by simp[cG] at h
 | _::_,_,[],_,_,_,_,_,h,_=>by simp[cG] at h
 | _::_,_,_::_,[],_,_,_,_,h,_=>by simp[cG] at h
 | k::k1,k2,a::as,b::j,c,d,x,y,e,f=>by
  simp only[cG] at e;split at e
  case h_2=>cases e
  rename_i u v g i;simp only[abc.injEq] at e;subst e;simp only[aa_,cG,g,Gu i f,Bool.and_assoc]
def IE(k:IntKind):∀{n:Nat} {a b:List Nat},a.length=n->b.length=n->cG (aaK n .int) (ax k a) (ax k b)=some (decide (a=b))
 | 0,[],[],_,_=>rfl
 | 0,_::_,_,h,_=>by simp at h
 | 0,[],_::_,_,h=>by simp at h
 | n+1,[],_,h,_=>by simp at h
 | n+1,_::_,[],_,h=>by simp at h
 | n+1,x::a,y::b,c,d=>by
  have e:=IE k (n:=n) (a:=a) (b:=b) (by simpa using c) (by simpa using d);rw[acx];show cG (.int::aaK n .int) (.int k (x:Int)::ax k a) (.int k (y:Int)::ax k b)=_;simp only[cG,qP,if_true,e,abc.injEq];rw[aaw];simp
def OL(k:IntKind)(x y:Int):cG [.int] [.int k x] [.int k y]=some (decide (x=y)):=by
 simp only[cG,qP,if_true,adf]
 congr 1
def Za{a b:Nd}(d:a.ok)(e:b.ok):cG (aaK 60 .int) a.cs b.cs=some (decide (a=b)):=by
 have h:=Gu (OL .i64 a.kind b.kind) (Gu (IE .u32 d.1 e.1) (Gu (OL .i64 a.n b.n) (Gu (IE .i64 d.2.1 e.2.1) (Gu (IE .u32 d.2.2 e.2.2)
  (Gu (OL .i64 a.op b.op) (Gu (OL .i64 a.x b.x) (OL .i64 a.y b.y)))))))
 have i:aaK 60 Kd.int=[Kd.int]++(aaK 35 .int++([.int]++(aaK 4 .int++(aaK 16 .int++([.int]++([.int]++[.int])))))):=rfl;rw[i]
 have g:∀c:Nd,c.cs=[.int .i64 (c.kind:Int)]++(ax .u32 c.f++([.int .i64 (c.n:Int)]++(ax .i64 c.vars++(ax .u32 c.tab++([.int .i64 c.op]++([.int .i64 (c.x:Int)]++[.int .i64 (c.y:Int)])))))):=λc=>by simp[Nd.cs]
 rw[g a,g b,h]
 congr 1
 rw[aaw];cases a;cases b;simp
def yR(i:Nat):List Nd->List (V×V)
 | []=>[]
 | a::L=>(.agg a.cs,.int .i64 (i:Int))::yR (i+1) L
def ents(L:List Nd):List (V×V):=yR 0 L
def ztK(a:Nd):∀(L:List Nd) (i:Nat),yR i (L++[a])=yR i L++[(.agg a.cs,.int .i64 ((i+L.length:Nat):Int))]
 | [],i=>by simp[yR]
 | b::L,i=>by
  have:=ztK a L (i+1);simp only[aa_,yR,this,aaq];rw[show i+1+L.length=i+(L.length+1) by omega]
def zvZ{a:Nd}(c:a.ok):∀{L:List Nd} (i:Nat),(∀x∈L,x.ok)->a∈L->kc (.row (aaK 60 .int)) (.agg a.cs) (yR i L) i=some (some (i+L.idxOf a,.int .i64 ((i+L.idxOf a:Nat):Int)))
 | [],i,_,h=>by cases h
 | b::L,i,d,h=>by
  simp only[yR,kc,ka,Za c (d b ir)]
  by_cases e:a=b
  .subst e;simp
  .have f:a∈L:=by simpa[e] using h
   have g:=zvZ c (i+1) (λx j=>d x (by simp[j])) f
   have k:(b::L).idxOf a=L.idxOf a+1:=by rw[List.idxOf_cons,beq_false_of_ne (Ne.symm e)];rfl
   simp only[e,decide_false,g,k,show i+1+L.idxOf a=i+(L.idxOf a+1) from an]
def ztL{a:Nd}(c:a.ok):∀{L:List Nd} (i:Nat),(∀x∈L,x.ok)->a∉L->kc (.row (aaK 60 .int)) (.agg a.cs) (yR i L) i=some none
 | [],i,_,_=>rfl
 | b::L,i,d,h=>by
  simp only[aah,not_or] at h;simp only[yR,kc,ka,Za c (d b ir),h.1,decide_false];exact ztL c (i+1) (λx e=>d x (by simp[e])) h.2
def sR(L:List Nd):List (List V):=L.map Nd.cs
def zU(L:List Nd)(z m:Nat):ay:=.cells [.vs (sR L) (.own z),.mp m]
structure Bk (H:ae) (b z m:Nat) (L:List Nd):Prop where
 hb:H[b]?=some (some (zU L z m))
 hz:H[z]?=some (some (.zone L.length))
 hm:H[m]?=some (some (.map (ents L)))
 shut:iq H
 ok:∀a∈L,a.ok
 small:L.length<=1000000
def dE(H:ae)(b z m:Nat)(L:List Nd):ae:=((H.set b (some (zU L z m))).set z (some (.zone L.length))).set m (some (.map (ents L)))
def sS(H:ae)(b z m:Nat)(L:List Nd):(dE H b z m L).length=H.length:=by simp[dE]
section
variable {H:ae} {b z m:Nat} {L L':List Nd}
def Bk.bz(h:Bk H b z m L):b≠z:=λe=>by have a:=h.hb;rw[e,h.hz] at a;simp[zU] at a
def Bk.bm(h:Bk H b z m L):b≠m:=λe=>by have a:=h.hb;rw[e,h.hm] at a;simp[zU] at a
def Bk.zm(h:Bk H b z m L):z≠m:=λe=>by have a:=h.hz;rw[e,h.hm] at a;simp at a
def Bk.lb(h:Bk H b z m L):b<H.length:=(aan.1 h.hb).1
def Bk.lz(h:Bk H b z m L):z<H.length:=(aan.1 h.hz).1
def Bk.lm(h:Bk H b z m L):m<H.length:=(aan.1 h.hm).1
def Eo{α:Type}{l:List α}{i:Nat}{a:α}(h:l[i]?=some a):l.set i a=l:=by
 apply aca;intro j;rw[abC]
 by_cases e:i=j
 .subst e;rw[if_pos rfl,if_pos (aan.1 h).1,h]
 .rw[if_neg e]
def Bk.gA(h:Bk H b z m L):dE H b z m L=H:=by unfold dE;rw[Eo h.hb,Eo h.hz,Eo h.hm]
def Zc(n:Nat):∀(L:List Nd) (i:Nat),(yR i L).map (λp=>(p.1.cl n,p.2.cl n))=yR i L
 | [],i=>rfl
 | a::L,i=>by
  have b:=Zc n L (i+1)
  have c:aZ n a.cs=a.cs:=by rw[g9];simp[Nd.cs,ax,acG,V.cl]
  simp only[yR,aba,V.cl,c,b]
def Ep{α β:Type}(f:α->β):∀(l:List α) (i:Nat) (a:α),(l.set i a).map f=(l.map f).set i (f a):=λl i a=>List.map_set
def Bk.vY(h:Bk H b z m L)(L':List Nd):iq (dE H b z m L'):=by
 intro n a;rw[sS] at a;have c:=h.shut n a;have g:=h.lz;have i:=h.lm;unfold dE;rw[Ep,Ep,Ep,c]
 have d:ab7 (ay.cl n) (some (zU L' z m))=some (zU L' z m):=by simp[zU,ay.cl,aZ,V.cl,Tk.cl,show z<n from an,show m<n from an]
 have e:ab7 (ay.cl n) (some (ay.zone L'.length))=some (.zone L'.length):=rfl
 have f:ab7 (ay.cl n) (some (ay.map (ents L')))=some (.map (ents L')):=by simp only[abT,ay.cl,ents,Zc]
 rw[d,e,f]
def Bk.IF(h:Bk H b z m L)(c:∀a∈L',a.ok)(d:L'.length<=1000000):Bk (dE H b z m L') b z m L':=by
 have e:=h.bz;have f:=h.bm;have g:=h.zm;refine⟨?_,?_,?_,h.vY L',c,d⟩
 .unfold dE;rw[abv f.symm,abv e.symm,acd h.lb]
 .unfold dE;rw[abv g.symm,acd (by simp[h.lz])]
 .unfold dE;rw[acd (by simp[h.lm])]
def Bk.app(h:Bk H b z m L){r:ae}(a:∀n,r.map (ab7 (ay.cl n))=r):Bk (H++r) b z m L :=
 ⟨by rw[aaG h.lb];exact h.hb,by rw[aaG h.lz];exact h.hz,by rw[aaG h.lm];exact h.hm,h.shut.app a,h.ok,h.small⟩
def Bk.cA(h:Bk H b z m L)(r:ae)(L':List Nd):dE (H++r) b z m L'=dE H b z m L'++r:=by unfold dE;rw[abw _ _ h.lb,abw _ _ (by simp[h.lz]),abw _ _ (by simp[h.lm])]
def Bk.mh(h:Bk H b z m L)(c a:List Nd):dE (dE H b z m c) b z m a=dE H b z m a:=by
 have d:=h.bz;have e:=h.bm;have f:=h.zm;apply aca;intro i;unfold dE;simp only[abC,acn]
 repeat' split
 all_goals first|rfl|omega
end
def iW(L:List Nd)(a:Nd):List Nd:=if a∈L then L else L++[a]
def ztM{L:List Nd}{a:Nd}(h:a∉L):L.idxOf a=L.length:=List.idxOf_eq_length h
open Go Go.RowKit
variable {G:aL}
variable {H:ae} {b z m:Nat} {L:List Nd}
def QX(a:List jw)(R:V->ae->Prop)(x:Ex)(b:Env)(H1:ae):Prop:=(x=.nx\/x=.ret)/\∃vs,vC b H1 a=some vs/\R (vD vs) H1
@[simp] theorem alb (a:List jw) (R:V->ae->Prop) (b:Env) (H1:ae):QX a R .nx b H1=∃vs,vC b H1 a=some vs/\R (vD vs) H1:=by simp[QX]
@[simp] theorem Zd (a:List jw) (R:V->ae->Prop) (b:Env) (H1:ae):QX a R .ret b H1=∃vs,vC b H1 a=some vs/\R (vD vs) H1:=by simp[QX]
def SF(G:aL)(f:Nat)(args:List V)(H:ae)(r:V)(H':ae):Prop:=∃a H1,bE G (.F f args H a H1)/\a.cl H.length=r/\ak H.length H1=H'
def kr{f b:Nat}{body:bg}{a:List jw}{args:List V}{r:V}{H H':ae}(d:G f=some ⟨b,body,a⟩)(e:args.length<=b)
  (h:W G body [] (il (qz 0 args)) H (QX a λg H1=>g.cl H.length=r/\ak H.length H1=H')):SF G f args H r H':=by
 obtain⟨x,m,H1,c,i,vs,j,k,l⟩:=h;rw[<-NU] at c;exact⟨_,_,.fn d e c i j,k,l⟩
def cP{f:Nat}{args:List V}{r:V}{H H':ae}{base:Nat}{d:Option Nat}{os:List aF}{K:List Kt}{e:Env}{Q:Ex->Env->ae->Prop}(h:SF G f args H r H')
  (a:WO G base os K (e.put d r) H' Q):R_ G f args base d os K e H Q:=by
 obtain⟨i,H1,b,c,g⟩:=h;refine zG b ?_;rw[c,g];exact a
def zBh{f:Nat}{args:List V}{r:V}{H H':ae}{base:Nat}{d:Option Nat}{os:List aF}{K:List Kt}{e:Env}{Q:Ex->Env->ae->Prop}(h:SF G f args H r H')(b:MW base args H H')
  (c:WO G base os K (e.put d r) H' Q):zFn G f args base d os K e H Q:=by
 obtain⟨g,H1,i,j,a⟩:=h;exact⟨g,H1,i,by rw[a];exact b,by rw[j,a];exact c⟩
def Bk.back(h:Bk H b z m L)(L':List Nd)(r:ae):ak H.length (dE H b z m L'++r)=dE H b z m L':=by have:=(h.vY L').back r;rwa[sS] at this
@[simp] theorem zNj (L:List Nd):(sR L).length=L.length:=by simp[sR]
theorem Ze{x:Nat}{a:Nd}(h:L[x]?=some a):(sR L)[x]?=some a.cs:=by simp[sR,h]
def zDK(L:List Nd)(a:Nd):sR L++[a.cs]=sR (L++[a]):=by simp[sR]
def zBi(h:∀a∈L,a.ok):(∀f∈sR L,f.length=60):=by intro f b;simp only[sR,aaE] at b;obtain⟨a,c,rfl⟩:=b;exact Nd.len (h a c)
def Bk.cU(h:Bk H b z m L):H[b]?=some (some (.cells [.vs (sR L) (.own z),.mp m])):=h.hb
def zIc[aN G](h:Bk H b z m L):bE G (.F 257 [.ptr b 0] H (.int .i64 L.length) H):=by refine fg aN.aeD (aab rfl) ?_;have a:=h.cU;simp[a]
def cE(L:List Nd)(i:Int):Bool:=decide (0<=i/\i<(L.length:Int))
def zId[aN G](i:Int)(h:Bk H b z m L):bE G (.F 258 [.ptr b 0,.int .i64 i] H (.bool (cE L i)) H):=by
 refine fg aN.aeE (aab rfl) ?_;have c:=h.shut.self
 by_cases a:0<=i
 .simp[a];refine zG (zIc h) ?_;simp[c,cE,a]
 .simp[a,cE]
def zDL[aN G](x:Nat)(a:Nd)(h:Bk H b z m L)(e:L[x]?=some a):bE G (.F 264 [.ptr b 0,.int .i64 x] H (.bc [.agg (ax .u32 a.f),.bool (decide (a.kind=0))]) (H++[some (.cells (ax .u32 a.f))])):=by
 refine fg aN.aeK (aab rfl) ?_;have i:=h.lb;have j:=h.cU
 have l:∀r:ae,(H++r)[b]?=some (some (.cells [.vs (sR L) (.own z),.mp m])):=λr=>by rw[aaG i];exact j
 have n:=Ze e;have c:=h.ok a (abu e);have o:=Nd.len c;have p:a.cs.take 1=[.int .i64 (a.kind:Int)]:=rfl
 have d:(a.cs.drop 1).take 35=ax .u32 a.f:=by show(ax .u32 a.f++_).take 35=_;rw[List.take_left' (by simp[c.1])]
 have q:a.cs.tail.take 35=ax .u32 a.f:=by rw[<-List.drop_one];exact d
 have hd:(ax .u32 (aR 35)).drop 35=[]:=rfl
 have s:b≠H.length:=an
 have u:(H.length=b)=False:=ah8;have g:=c.1
 have t:((a.kind:Int)==0)=decide (a.kind=0):=by rw[aaw];simp
 simp[l,n,o,p,q,hd,s,g,eA (k:=.u32) g,t]
def Lg[aN G](a:Nd)(c:a.ok)(h:Bk H b z m L)(hs:L.length<1000000):SF G 259 [.ptr b 0,.agg a.cs] H (.int .i64 (L.idxOf a:Nat)) (dE H b z m (iW L a)):=by
 have F:=h.lb;have I:=h.lz;have A:=h.lm;have B:=h.cU;have l:=h.bz;have n:=h.bm;have o:=h.zm;have p:=Nd.len c;have q:a.cs.take 60=a.cs:=abd an;have s:=Za c c;simp only[decide_true] at s;have C:(H.length+1<=b)=False:=ah8;have t:(H.length+1<=H.length)=False:=ah8;have J:(H.length=b)=False:=ah8;have M:(H.length=m)=False:=ah8
 have N:(H.length=z)=False:=ah8
 have D:∀r:ae,(H++r)[b]?=some (some (.cells [.vs (sR L) (.own z),.mp m])):=λr=>by rw[aaG F];exact B
 have d:∀r:ae,(H++r)[m]?=some (some (.map (ents L))):=λr=>by rw[aaG A];exact h.hm
 have tO:∀r:ae,(H++r)[z]?=some (some (.zone L.length)):=λr=>by rw[aaG I];exact h.hz
 refine kr aN.aeF (aab rfl) ?_
 by_cases e:a∈L
 .have k:=zvZ c 0 h.ok e;simp only[adr] at k;have u:=h.shut.back
  have O:dE H b z m (iW L a)=H:=by rw[iW,if_pos e,h.gA]
  simp[-abD,D,d,p,q,s,ents,k,C,t,u,O]
 .have k:=ztL c 0 h.ok e;have P:∀(x:Option ay) (r:ae),(H++r).set m x=H.set m x++r:=λx r=>abw _ _ A;obtain⟨K,g⟩:=bb (H.set m (some (.map (ents (L++[a])))))
  have Q:K.length=H.length:=by rw[g,acn]
  have R:yR 0 L++[(V.agg a.cs,V.int .i64 (L.length:Int))]=ents (L++[a]):=by rw[ents,ztK,adr]
  have E:∀r:ae,(K++r)[b]?=some (some (.cells [.vs (sR L) (.own z),.mp m])):=λr=>by
   rw[aaG an,g,abv n.symm];exact B
  have S:∀r:ae,(K++r)[z]?=some (some (.zone L.length)):=λr=>by
   rw[aaG an,g,abv o.symm];exact h.hz
  have T:∀(x:Option ay) (r:ae),(K++r).set z x=K.set z x++r:=λx r=>abw _ _ an
  have v:∀(x:Option ay) (r:ae),(K.set z x++r)[b]?=some (some (.cells [.vs (sR L) (.own z),.mp m])):=λx r=>by
   rw[aaG (by simp;omega),abv l.symm];have:=E [];simpa using this
  have U:∀(x y:Option ay) (r:ae),(K.set z x++r).set b y=(K.set z x).set b y++r:=λx y r=>abw _ _ (by simp;omega);have j:=ztM e;have W:=zBi h.ok;have X:((L.length+1)*280<=140737488355328)=True:=ah7;have Y:(∀f∈sR L,f.length=60)=True:=eq_true W
  have Z:a.cs.all V.pure=true:=by simp[Nd.cs,ax,V.pure]
  have tD:sQ.cs.length=60:=rfl;have eK:=zDK L a
  have w:(K.set z (some (.zone (L.length+1)))).set b (some (.cells [.vs (sR (L++[a])) (.own z),.mp m]))=dE H b z m (iW L a):=by
   rw[iW,if_neg e,dE,g,zU,aa6];apply aca;intro i;simp only[abC,acn]
   repeat' split
   all_goals first|rfl|omega
  have u:=h.back (iW L a)
  have kh:∀r:ae,(K++r)[H.length]?=r[0]?:=λr=>by rw[<-Q,abm (aaH _),ad2]
  simp[-abD,D,d,p,q,s,ents,k,C,t];simp[-abD,P,R,<-g,E,S,p,q,t,X,Y,Z,nz,tD,kh,T,v,U,eK,w,u,j]
def Cd.cs(c:Cd):List V:=[.int .i64 c.arg,.int .i64 c.cmp,.int .u64 (c.mask:Int),.int .u64 (c.val:Int)]
def CL(l:List Cd):List (List V):=l.map Cd.cs
@[simp] theorem zNS (l:List Cd):(CL l).length=l.length:=by simp[CL]
theorem Mz{l:List Cd}{i:Nat}{x:Cd}(h:l[i]?=some x):(CL l)[i]?=some x.cs:=by simp[CL,h]
def zv0[dV G](c:Cd):FP G 396 [.agg c.cs] (.bool c.right):=by
 refine bw dV.afE (aab rfl) ?_
 by_cases a:0<=c.arg
 .by_cases b:c.arg<6
  .by_cases d:0<=c.cmp
   .by_cases f:c.cmp<=5
    .have e:c.arg<=5:=an
     simp[Cd.cs,Cd.right,a,b,d,f,e]
    .simp[Cd.cs,Cd.right,a,b,d,f]
   .simp[Cd.cs,Cd.right,a,b,d]
  .have e:¬c.arg<=5:=an
   simp[Cd.cs,Cd.right,a,b,e]
 .simp[Cd.cs,Cd.right,a]
def IG:List V:=[.str [101,113],.fn 397 [],.int .i64 1,.str [110,101],.fn 398 [],.int .i64 0,.str [108,116],.fn 399 [],.int .i64 5,.str [108,101],.fn 400 [],.int .i64 4,.str [103,116],.fn 401 [],.int .i64 3,.str [103,101],.fn 402 [],.int .i64 2]
def zv1[di G]:FP G 403 [] (.agg IG):=by refine bw di.afF (aab rfl) ?_;simp[IG]
def Er(c:Cd):Cd:=if c.right then{ c with cmp:=yQ c.cmp } else c
def zIe[dV G][di G](c:Cd):FP G 404 [.agg c.cs] (.agg (Er c).cs):=by
 refine bw di.afG (aab rfl) ?_;have b:=zv0 (G:=G) c;simp only[Cd.cs] at b;simp[Cd.cs];refine aw b ?_
 cases h:c.right with
 | false=>simp[Er,h]
 | true =>
  have d:=h;simp only[Cd.right,decide_eq_true_eq] at d;obtain⟨_,_,e,f⟩:=d;simp;refine aw zv1 ?_
  have a:c.cmp=0\/c.cmp=1\/c.cmp=2\/c.cmp=3\/c.cmp=4\/c.cmp=5:=an
  rcases a with a|a|a|a|a|a<;>simp[Er,h,a,IG,yQ]
def ku(d:Nat):UInt8:=adA (if d<10 then 48+d else 87+d)
def wV(n:Nat):Nat->List UInt8×Bool
 | 0=>([48,120],false)
 | k+1=>if(wV n k).2||decide (0<n/2^(60-4*k)%16)||decide (k=15) then((wV n k).1++[ku (n/2^(60-4*k)%16)],true) else((wV n k).1,false)
def br(n:Nat):List UInt8:=(wV n 16).1
def SZ(n:Nat):∀k,(wV n k).1.length<=2+k
 | 0=>by simp[wV]
 | k+1=>by
  have:=SZ n k;unfold wV
  split<;>simp<;>omega
def zIf(d:Nat)(h:d<16):([48,49,50,51,52,53,54,55,56,57,97,98,99,100,101,102]:List UInt8)[d]?=some (ku d):=by
 have:∀d<16,([48,49,50,51,52,53,54,55,56,57,97,98,99,100,101,102]:List UInt8)[d]?=some (ku d):=by decide
 exact this d h
def shU{n e:Nat}(h:e<=64):jZ .u64 (n:Int) (e:Int)=((n/2^e:Nat):Int):=by
 unfold jZ
 have:min (e:Int).toNat IntKind.u64.bits=e:=by have:IntKind.u64.bits=64:=rfl;omega
 rw[this,show((2:Int)^e)=((2^e:Nat):Int) by simp,acE _ (adl _)];simp
def zNk{x:Nat}(h:x<18446744073709551616):jY .u64 (x:Int) 15=((x%16:Nat):Int):=by
 have a:(abM 64 (x:Int) &&& abM 64 15).toNat=x%16:=by rw[show abM 64 (x:Int)=ab6 64 x by apply BitVec.eq_of_toNat_eq;simp,show abM 64 15=ab6 64 15 from rfl];simp only[BitVec.toNat_and,acB];rw[show 15%2^64=2^4-1 from rfl,abU,aaQ (show x<2^64 from h)]
 have b:jY .u64 (x:Int) 15=IntKind.u64.wrap (((abM 64 (x:Int) &&& abM 64 15).toNat:Nat):Int):=rfl;rw[b,a];have:x%16<16:=abg _ ah9;rw[IntKind.wrap,show IntKind.u64.signed=false from rfl];simp[IntKind.bits];omega
def zrD:∀s:List UInt8,CE (rj s)=some s
 | []=>rfl
 | b::s=>by
  have a:=zrD s;simp only[rj] at a;simp[rj,CE,a]
def zGr[fB G](n:Nat)(w:n<18446744073709551616):FP G 392 [.int .u64 n] (.str (br n)):=by
 refine bw fB.afA (aab rfl) ?_;obtain⟨T,i⟩:∃T:Nat->List UInt8×Bool,∀k,T k=wV n k:=⟨_,λ_=>rfl⟩
 have x:∀k,(T k).1.length<=2+k:=λk=>by rw[i];exact SZ n k
 simp;refine aO 16 (λk=>[(0,.int .u64 n),(3,.vs (rj (T k).1) (.own 1)),(4,.bool (T k).2),(5,.int .i64 (60-4*(k:Int)))]) (λk=>[some (.zone 1),some (.zone (T k).1.length)]) (λ_=>True) ?_ ?_
 .simp[av,ak,i,wV,rj,qa]
 intro k c _
 rcases adt c with c|c
 .subst c;simp[zrD,i,br]
  done
 .obtain⟨e,y⟩:=bb (60-4*k);obtain⟨d,hd⟩:=bb (n/2^e%16)
  have z:(60-4*(k:Int))=(e:Int):=an
  have A:=shU (n:=n) (e:=e) an;have B:n/2^e<18446744073709551616:=aau (aaD _ _) w;have t:=zNk B
  have C:d<16:=an
  have D:=zIf d C;rw[<-hd] at t;have N:=x k
  have j:T (k+1)=if(T k).2||decide (0<d)||decide (k=15) then((T k).1++[ku d],true) else((T k).1,false):=by rw[i,i,wV,<-y,<-hd]
  rw[z];simp(disch:=omega)[A,t,kD,-aai,-aao,-aaf]
  have l:(60:Int)-4*((k+1:Nat):Int)=(e:Int)-4:=an
  have m:bO .i64 (e:Int) 4=(e:Int)-4:=nW an an
  have a:(rj (T k).1).length=(T k).1.length:=by simp[rj]
  have o:∀b,(T k).2=b->(b||decide (0<d)||decide (k=15))=true->T (k+1)=((T k).1++[ku d],true):=λb g E=>by rw[j,if_pos (by rw[g];exact E)]
  have F:(T k).2=false->¬0<d->¬k=15->T (k+1)=((T k).1,false):=λg H I=>by rw[j,if_neg (by simp[g,H,I])]
  have p:rj ((T k).1++[ku d])=rj (T k).1++[[.int .u8 ((ku d).toNat:Nat)]]:=by simp[rj]
  have J:∀f∈rj (T k).1,f.length=1:=by intro f u;simp only[rj,aaE] at u;obtain⟨_,_,rfl⟩:=u;rfl
  have q:=eq_true J;have h:((T k).1.length<=140737488355327)=True:=ah7
  have r:([48,49,50,51,52,53,54,55,56,57,97,98,99,100,101,102]:List UInt8)[d]'(by simp;omega)=ku d:=by have:=D;rw[aae (by simp;omega)] at this;exact abc.inj this
  cases g:(T k).2 with
  | true =>
   simp(disch:=omega)[av,ak,r,h,q,m,o _ g rfl,p,a,l,-aaa]
   exact c
  | false =>
   by_cases s:0<d
   .have K:=eq_true s
    have O:¬(0=d):=an
    simp(disch:=omega)[av,ak,r,h,q,m,o _ g (by simp[s]),p,a,l,K,-aaa];exact c
   .have L:d=0:=an
    subst L
    by_cases v:k=15
    .have:e=0:=an
     subst this;simp(disch:=omega)[av,ak,r,h,q,o _ g (by simp[v]),p,a,l,show bO .i64 0 4=-4 from rfl,-aaa];exact c
    .have P:((e:Int)=0)=False:=ah8
     have M:((e:Int)==0)=false:=by simp;omega
     simp(disch:=omega)[av,ak,m,F g s v,l,M,-aaa];exact c
def zBj[lE G](c:Cd):FP G 433 [.agg c.cs] (.bool c.right):=by
 refine bw lE.af7 (aab rfl) ?_
 by_cases a:0<=c.arg
 .by_cases b:c.arg<=5
  .by_cases d:0<=c.cmp
   .by_cases e:c.cmp<=5
    .simp[Cd.cs,Cd.right,a,b,d,e]
    .simp[Cd.cs,Cd.right,a,b,d,e]
   .simp[Cd.cs,Cd.right,a,b,d]
  .simp[Cd.cs,Cd.right,a,b]
 .simp[Cd.cs,Cd.right,a]
def zIg(a b i:Nat):(a &&& b)/2^i%2=if a/2^i%2=1/\b/2^i%2=1 then 1 else 0:=by
 rw[xD,xD,xD,acY]
 cases a.testBit i<;>cases b.testBit i<;>simp
def zv2(a b i:Nat):(a &&& b)%2^(i+1)=(a &&& b)%2^i+if a/2^i%2=1/\b/2^i%2=1 then 2^i else 0:=by
 rw[abb,Nat.mod_mul,zIg]
 split<;>simp
def zBk[lE G](a b:Nat)(x:a<18446744073709551616)(z:b<18446744073709551616):FP G 434 [.int .u64 a,.int .u64 b] (.int .u64 (a &&& b:Nat)):=by
 refine bw lE.af8 (aab rfl) ?_;obtain⟨S,d⟩:∃S:Nat->Nat,∀i,S i=(a &&& b)%2^i:=⟨_,λ_=>rfl⟩;obtain⟨A,e⟩:∃A:Nat->Nat,∀i,A i=a/2^i:=⟨_,λ_=>rfl⟩;obtain⟨B,f⟩:∃B:Nat->Nat,∀i,B i=b/2^i:=⟨_,λ_=>rfl⟩;obtain⟨P,j⟩:∃P:Nat->Nat,∀i,P i=2^i%18446744073709551616:=⟨_,λ_=>rfl⟩;have y:a &&& b<18446744073709551616:=aau acZ x
 have C:S 64=a &&& b:=by rw[d];exact aaQ y
 have D:S 0=0:=by rw[d];simp[Nat.mod_one]
 have E:A 0=a:=by rw[e];simp
 have F:B 0=b:=by rw[f];simp
 have l:P 0=1:=by rw[j]
 have m:∀i,A i<18446744073709551616:=λi=>by rw[e];exact aau (aaD _ _) x
 have H:∀i,B i<18446744073709551616:=λi=>by rw[f];exact aau (aaD _ _) z
 have n:∀i,A (i+1)=A i/2:=λi=>by rw[e,e,abb,abW]
 have o:∀i,B (i+1)=B i/2:=λi=>by rw[f,f,abb,abW]
 have p:∀i,P (i+1)=P i*2%18446744073709551616:=λi=>by rw[j,j,abb];simp[Nat.mul_mod]
 have I:∀i,i<64->S (i+1)=S i+if A i%2=1/\B i%2=1 then P i else 0:=λi hi=>by
  rw[d,d,zv2,e,f,j,aaQ (show 2^i<18446744073709551616 from abf ah9 hi)]
 have J:∀i,S i<18446744073709551616:=λi=>by rw[d];exact aau (Nat.mod_le _ _) y
 simp;refine aO 64 (λi=>[(0,.int .u64 (A i)),(1,.int .u64 (B i)),(5,.int .u64 (S i)),(6,.int .u64 (P i)),(7,.int .i64 i)]) (λ_=>[]) (λ_=>True) ?_ ?_
 .simp[av,ak,E,F,D,l]
 intro i hi _
 rcases adt hi with hi|hi
 .subst hi;simp[av,ak,C]
 .have q:gn (A i:Int) 2=((A i%2:Nat):Int):=wT (b:=2);have r:gn (B i:Int) 2=((B i%2:Nat):Int):=wT (b:=2);have q1:kF .u64 (A i:Int) 2=((A i/2:Nat):Int):=SN (b:=2) (m i);have s:kF .u64 (B i:Int) 2=((B i/2:Nat):Int):=SN (b:=2) (H i)
  have t:dS .u64 (P i:Int) 2=((P i*2%18446744073709551616:Nat):Int):=by unfold dS;rw[IntKind.wrap,show IntKind.u64.signed=false from rfl];simp[IntKind.bits]
  have c:=I i hi
  have u:(((A i%2:Nat):Int)==1)=decide (A i%2=1):=by rw[aaw];simp;omega
  have v:(((B i%2:Nat):Int)==1)=decide (B i%2=1):=by rw[aaw];simp;omega
  have w:((i:Int)<64)=True:=ah7
  by_cases g:A i%2=1
  .by_cases k:B i%2=1
   .rw[if_pos ⟨g,k⟩] at c
    have K:aC .u64 (S i:Int) (P i:Int)=((S (i+1):Nat):Int):=by rw[c];exact IntWalk.u64_in _ ⟨an,by have:=J (i+1);omega⟩
    simp(disch:=omega)[av,ak,q,r,q1,s,t,n,o,p,u,v,g,k,K,bA,w,-aaa,-aai,-aao];exact hi
   .rw[if_neg (λh=>k h.2)] at c;simp(disch:=omega)[av,ak,q,r,q1,s,t,n,o,p,u,v,g,k,c,bA,w,-aaa,-aai,-aao];exact hi
  .rw[if_neg (λh=>g h.1)] at c;simp(disch:=omega)[av,ak,q,r,q1,s,t,n,o,p,u,v,g,c,bA,w,-aaa,-aai,-aao];exact hi
def zBl[lE G](c:Cd)(q:c.ok)(d:Da)(hd:d.ok):FP G 435 [.agg c.cs,DV d] (.bool (c.holds d)):=by
 refine bw lE.af9 (aab rfl) ?_;have k:=zBj (G:=G) c;obtain⟨_,_,_,r,s⟩:=hd
 have t:d.cs.length=9:=by simp[Da.cs,r]
 simp only[Cd.cs] at k;simp[DV,Cd.cs,t];refine aw k ?_
 cases g:c.right with
 | false=>simp[Cd.holds,g]
 | true =>
  have u:=g;simp only[Cd.right,decide_eq_true_eq] at u;obtain⟨n,l⟩:∃n:Nat,c.arg=n:=⟨c.arg.toNat,an⟩
  have C:n<=5:=an
  obtain⟨a,h⟩:∃a,d.args[n]?=some a:=⟨_,aae an⟩;have x:=s a (abu h)
  have f:d.cs[3+n]?=some (.int .u64 (a:Int)):=by rw[abI];simp[Da.cs,ax,h]
  have m:nH d c=a &&& c.mask:=by simp[nH,l,h]
  have w:=zBk (G:=G) a c.mask x q.1
  have y:(d.cs.drop (3+n)).take 1=[.int .u64 (a:Int)]:=by rw[aan] at f;obtain⟨o,f⟩:=f;rw[aaF o,f];rfl
  have z:(3+n+1<=d.cs.length)=True:=ah7;obtain⟨v,A⟩:∃v,a &&& c.mask=v:=⟨_,rfl⟩;rw[A] at w m
  have o:((v:Int)<(c.val:Int))=(v<c.val):=by simp
  have D:((c.val:Int)<(v:Int))=(c.val<v):=by simp
  simp(disch:=omega)[l,y,z,bC];refine aw w ?_
  have B:c.holds d=qE c.cmp v c.val:=by simp[Cd.holds,g,m]
  rw[B]
  have i:c.cmp=0\/c.cmp=1\/c.cmp=2\/c.cmp=3\/c.cmp=4\/c.cmp=5:=an
  by_cases p:v<c.val
  .have j:¬c.val<v:=an
   have b:v≠c.val:=an
   rcases i with e|e|e|e|e|e<;>simp[e,p,j,b,qE]<;>omega
  .by_cases j:c.val<v
   .have b:v≠c.val:=an
    rcases i with e|e|e|e|e|e<;>simp[e,p,j,b,qE]<;>omega
   .have b:v=c.val:=an
    rcases i with e|e|e|e|e|e<;>simp[e,b,qE]
def yT(c:List af):Prop:=∀y∈c,y.k<4294967296
def zyb{c:List af}{t:Nat}(d:c.length<=1000100)(b:yT c):yT (bT c t):=by
 intro y a;unfold bT at a;split at a
 .exact b y a
 .rcases aah.1 a with rfl|a
  .simp only;omega
  .exact b y a
def S4{c:List af}{op:Int}{k t f:Nat}(e:c.length<=1000050)(b:k<4294967296)(d:yT c):yT (gD c op k t f):=by
 intro y a
 rcases aah.1 a with rfl|a
 .exact b
 .exact zyb (by have:=(BM c t).len;omega) (zyb an d) y a
def Lj{c:List af}{op:Int}{k:Nat}(b:k<4294967296)(d:yT c):yT (bx c op k):=by
 intro y a
 rcases aah.1 a with rfl|a
 .exact b
 .exact d y a
def zGs{c:List af}{x:Cd}{t f:Nat}(e:∀y∈c,y.k<4294967296)(i:c.length<=1000000)(a:x.right=true):∀y∈fh c x t f,y.k<4294967296:=by
 have b:∀(x:Cd) (t f:Nat),x.right=true->yT (El c x t f):=by
  intro x t f a;have g:=a;simp only[Cd.right,decide_eq_true_eq] at g;have j:=(OI c x t f).len;have l:=(OJ c x t f).len;have d:yT (bX c x t f):=Lj an (Lj (Oo _) (S4 an (Oo _) e))
  have h:yT (rN c x t f):=by
   unfold rN;split
   .exact d
   .exact S4 an (Oq _) d
  exact Lj an (Lj (Oq _) (S4 an (Oq _) h))
 unfold fh;split
 .exact b _ _ _ (OK a)
 .exact b _ _ _ a
structure Ru where
 aA:Nat
 nr:Nat
 conds:List Cd
 act:Nat
 deriving DecidableEq
structure Po where
 rules:List Ru
 cN:Nat
 deriving DecidableEq
def Ru.df(r:Ru):Prop:=(∀x∈r.conds,x.right=true/\x.ok)/\r.aA<4294967296/\r.nr<4294967296/\r.act<4294967296
abbrev rO:=List af×Nat
def Ay(o:Nat):List Cd->rO->rO
 | [],s=>s
 | x::xs,s=>(fh (Ay o xs s).1 x (Ay o xs s).2 o,(fh (Ay o xs s).1 x (Ay o xs s).2 o).length)
def zFx(r:Ru)(s:rO):rO:=Ay s.2 r.conds (bx s.1 6 r.act,s.1.length+1)
def oe:List Ru->rO->rO
 | [],s=>s
 | r::l,s=>zFx r (oe l s)
def vk:List Ru->Nat
 | []=>0
 | r::l=>1+13*r.conds.length+vk l
def Cd.oR(d:Da)(l:List Cd):Bool:=l.all λx=>x.holds d
def zV(d:Da)(v0:Nat):List Ru->Nat
 | []=>v0
 | r::l=>if Cd.oR d r.conds then r.act else zV d v0 l
structure Came (c:List af) (s:rO) (n:Nat):Prop where
 grown:n_ c s.1 n
 jG:1<=s.2/\s.2<=s.1.length
 sound:du c=true->c.length+n<=4096->du s.1=true
 ks:yT c->c.length+n<=4096->yT s.1
def Came.mono{c:List af}{s:rO}{n m:Nat}(h:Came c s n)(d:n<=m):Came c s m:=⟨h.grown.mono d,h.jG,λa b=>h.sound a an,λa b=>h.ks a an⟩
def Came.self{c:List af}{l:Nat}(h:1<=l/\l<=c.length):Came c (c,l) 0:=⟨n_.refl c,h,λa _=>a,λa _=>a⟩
def Came.trans{c:List af}{s t:rO}{n m:Nat}(h:Came c s n)(k:Came s.1 t m):Came c t (n+m) :=
 ⟨h.grown.trans k.grown,k.jG,λa b=>k.sound (h.sound a an) (by have:=h.grown.len;omega),λa b=>k.ks (h.ks a an) (by have:=h.grown.len;omega)⟩
def S5{c:List af}{op:Int}{k:Nat}(h:ID op k)(d:k<4294967296):Came c (bx c op k,c.length+1) 1 :=
 ⟨OF _ _ _,by simp[bx],λa b=>OH h a an,λa _=>Lj d a⟩
def S6{c:List af}{op:Int}{k t f:Nat}(h:sO op)(d:k<4294967296)(e:1<=t/\t<=c.length)(g:1<=f/\f<=c.length):Came c (gD c op k t f,(gD c op k t f).length) 3 :=
 ⟨Ej _ _ _ _ _,by have:=zry c op k t f;simp only;omega,λa b=>SU h a e g an,λa b=>S4 an d a⟩
def zBm{c:List af}{x:Cd}{t f:Nat}(d:x.right=true)(e:1<=t/\t<=c.length)(g:1<=f/\f<=c.length):Came c (fh c x t f,(fh c x t f).length) 13 :=
 ⟨zrB _ _ _ _,by have:=(zrB c x t f).len;simp only;omega,λa b=>zzI a d e g an,λa b=>zGs a an d⟩
def S7{o:Nat}:∀{l:List Cd} {s:rO},(∀x∈l,x.right=true/\x.ok)->(1<=o/\o<=s.1.length)->(1<=s.2/\s.2<=s.1.length)->Came s.1 (Ay o l s) (13*l.length)
 | [],s,_,_,h=>Came.self h
 | x::l,s,b,c,d=>by
  have a:=S7 (l:=l) (λy e=>b y (by simp[e])) c d;have f:=a.grown.len;exact(a.trans (zBm (b x ir).1 a.jG ⟨c.1,an⟩)).mono (by simp only[aaq];omega)
def ztN{o:Nat}{d:Da}(hd:d.ok){v0 g:Nat}:∀{l:List Cd} {s:rO},(∀x∈l,x.right=true/\x.ok)->(1<=o/\o<=s.1.length)->(1<=s.2/\s.2<=s.1.length)->qF d s.1 o v0->qF d s.1 s.2 g ->
  qF d (Ay o l s).1 (Ay o l s).2 (if Cd.oR d l then g else v0)
 | [],s,_,_,_,_,h=>by simpa[Ay,Cd.oR] using h
 | x::l,s,a,b,i,j,m=>by
  have c:=S7 (l:=l) (λy f=>a y (by simp[f])) b i;have n:=ztN hd (l:=l) (λy f=>a y (by simp[f])) b i j m;have p:=c.grown.len;have:=zDI (x:=x) hd (a x ir).1 (a x ir).2 c.jG ⟨b.1,an⟩ n (j.grown c.grown b.2)
  have e:Cd.oR d (x::l)=(x.holds d&&Cd.oR d l):=by simp[Cd.oR]
  rw[e];simp only[Ay];cases k:x.holds d
  .rw[k] at this;simpa using this
  .rw[k] at this;simpa using this
def zyc(d:Da)(c:List af)(k:Nat):qF d (bx c 6 k) (c.length+1) k:=by intro s a;rw[show c.length+1=(bx c 6 k).length from rfl,zS,zGq]
def Lk:∀{l:List Ru} {s:rO},(∀r∈l,r.df)->(1<=s.2/\s.2<=s.1.length)->Came s.1 (oe l s) (vk l)
 | [],s,_,h=>Came.self h
 | r::l,s,b,d=>by
  have a:=Lk (l:=l) (λy e=>b y (by simp[e])) d;have f:=a.grown.len;have p:=S5 (c:=(oe l s).1) (op:=6) (k:=r.act) (.inr (.inl rfl)) (b r ir).2.2.2;have g:=p.grown.len;have q:=S7 (o:=(oe l s).2) (l:=r.conds) (s:=(bx (oe l s).1 6 r.act,(oe l s).1.length+1)) (b r ir).1 ⟨a.jG.1,by have:=a.jG.2;omega⟩ p.jG;exact((a.trans p).trans q).mono (by simp only[vk];omega)
def ztO{d:Da}(hd:d.ok){v0:Nat}:∀{l:List Ru} {s:rO},(∀r∈l,r.df)->(1<=s.2/\s.2<=s.1.length)->qF d s.1 s.2 v0->qF d (oe l s).1 (oe l s).2 (zV d v0 l)
 | [],s,_,_,h=>h
 | r::l,s,a,f,h=>by
  have b:=Lk (l:=l) (λy e=>a y (by simp[e])) f;have g:=ztO hd (l:=l) (λy e=>a y (by simp[e])) f h;have p:=S5 (c:=(oe l s).1) (op:=6) (k:=r.act) (.inr (.inl rfl)) (a r ir).2.2.2;have i:=p.grown.len;exact ztN hd (o:=(oe l s).2) (l:=r.conds) (s:=(bx (oe l s).1 6 r.act,(oe l s).1.length+1)) (a r ir).1 ⟨b.jG.1,by have:=b.jG.2;omega⟩ p.jG (g.grown p.grown b.jG.2) (zyc d _ _)
def bF:Nat->List af->List (Nat×Nat)->Nat->rO
 | 0,c,_,_=>(c,0)
 | n+1,c,l,o =>
  if l.length=1 then(gD c 21 (l.getD 0 (0,0)).1 (l.getD 0 (0,0)).2 o,(gD c 21 (l.getD 0 (0,0)).1 (l.getD 0 (0,0)).2 o).length)
  else
   (gD (bF n (bF n c (l.take (l.length/2)) o).1 (l.drop (l.length/2)) o).1 53 (l.getD (l.length/2) (0,0)).1 (bF n (bF n c (l.take (l.length/2)) o).1 (l.drop (l.length/2)) o).2 (bF n c (l.take (l.length/2)) o).2,
    (gD (bF n (bF n c (l.take (l.length/2)) o).1 (l.drop (l.length/2)) o).1 53 (l.getD (l.length/2) (0,0)).1 (bF n (bF n c (l.take (l.length/2)) o).1 (l.drop (l.length/2)) o).2 (bF n c (l.take (l.length/2)) o).2).length)
def kY(c:List af)(l:List (Nat×Nat)):Prop:=∀e∈l,1<=e.2/\e.2<=c.length
def kY.grown{a b:List af}{n:Nat}{l:List (Nat×Nat)}(h:kY a l)(g:n_ a b n):kY b l:=λe c=>⟨(h e c).1,by have:=g.len;have:=(h e c).2;omega⟩
def Es{o:Nat}:∀(n:Nat) {c:List af} {l:List (Nat×Nat)},l≠[]->l.length<=n->kY c l->(∀e∈l,e.1<4294967296)->(1<=o/\o<=c.length)->Came c (bF n c l o) (6*l.length-3)
 | 0,c,l,h,r,_,_,_=>absurd (abx.1 an) h
 | n+1,c,l,h,r,i,f,j=>by
  have u:0<l.length:=aaU.2 h;unfold bF;split
  .rename_i s
   have g:l.getD 0 (0,0)∈l:=by rw[abG,aae an];exact aak _
   exact(S6 (.inl rfl) (f _ g) (i _ g) j).mono an
  .rename_i s
   have m:(l.take (l.length/2)).length=l.length/2:=by rw[abn];omega
   have p:(l.drop (l.length/2)).length=l.length-l.length/2:=by rw[aby]
   have n1:l.take (l.length/2)≠[]:=by intro e;rw[e] at m;simp at m;omega
   have t:l.drop (l.length/2)≠[]:=by intro e;rw[e] at p;simp at p;omega
   have d:=Es n (c:=c) (l:=l.take (l.length/2)) n1 an (λe a=>i e (abF a)) (λe a=>f e (abF a)) j;have v:=d.grown.len;have q:=Es n (c:=(bF n c (l.take (l.length/2)) o).1) (l:=l.drop (l.length/2)) t an ((show kY c _ from λe a=>i e (abh a)).grown d.grown) (λe a=>f e (abh a)) ⟨j.1,an⟩;have w:=q.grown.len
   have g:l.getD (l.length/2) (0,0)∈l:=by rw[abG,aae an];exact aak _
   have b:=S6 (c:=(bF n (bF n c (l.take (l.length/2)) o).1 (l.drop (l.length/2)) o).1) (op:=53) (k:=(l.getD (l.length/2) (0,0)).1) (.inr (.inr rfl)) (f _ g) q.jG ⟨d.jG.1,by have:=d.jG.2;omega⟩;exact((d.trans q).trans b).mono (by rw[m,p];omega)
def Az(v0:Nat)(vs:Nat->Nat)(a:Nat)(l:List (Nat×Nat)):Nat:=if a∈l.map (·.1) then vs a else v0
def Zm{o:Nat}{d:Da}{a v0:Nat}{vs:Nat->Nat}:∀(n:Nat) {c:List af} {l:List (Nat×Nat)},l≠[]->l.length<=n->kY c l->(∀e∈l,e.1<4294967296)->(1<=o/\o<=c.length)->(l.map (·.1)).Pairwise (·<·) ->
  qF d c o v0->(∀e∈l,qF d c e.2 (vs e.1))->Gs d (bF n c l o).1 (bF n c l o).2 a (Az v0 vs a l)
 | 0,c,l,j,J,_,_,_,_,_,_=>absurd (abx.1 an) j
 | n+1,c,l,j,J,m,z,g,K,p,r=>by
  have P:0<l.length:=aaU.2 j;unfold bF;split
  .rename_i A;obtain⟨e,rfl⟩:=List.length_eq_one_iff.1 A;have b:[e].getD 0 (0,0)=e:=rfl;rw[b];intro s h i;simp only;rw[zS,Lf (.inl rfl) (m e ir) g];simp only[takeN,if_true,i,Az,aba,adq,aaZ]
   by_cases q:a=e.1
   .subst q;simp;exact r e ir s h
   .simp[q];exact p s h
  .rename_i A
   have B:(l.take (l.length/2)).length=l.length/2:=by rw[abn];omega
   have C:(l.drop (l.length/2)).length=l.length-l.length/2:=by rw[aby]
   have n1:l.take (l.length/2)≠[]:=by intro e;rw[e] at B;simp at B;omega
   have D:l.drop (l.length/2)≠[]:=by intro e;rw[e] at C;simp at C;omega
   have E:kY c (l.take (l.length/2)):=λe b=>m e (abF b);have t:kY c (l.drop (l.length/2)):=λe b=>m e (abh b);have F:∀e∈l.take (l.length/2),e.1<4294967296:=λe b=>z e (abF b);have G:∀e∈l.drop (l.length/2),e.1<4294967296:=λe b=>z e (abh b);have f:=Es n (c:=c) (l:=l.take (l.length/2)) n1 an E F g;have Q:=f.grown.len;have u:=Es n (c:=(bF n c (l.take (l.length/2)) o).1) (l:=l.drop (l.length/2)) D an (t.grown f.grown) G ⟨g.1,an⟩
   have R:=u.grown.len;obtain⟨k,H⟩:=bb (l[l.length/2]'(by omega))
   have L:l.getD (l.length/2) (0,0)=k:=by rw[abG,aae an,H];rfl
   have v:l.map (·.1)=(l.take (l.length/2)).map (·.1)++(l.drop (l.length/2)).map (·.1):=by rw[<-acm,List.take_append_drop]
   have w:l.drop (l.length/2)=k::l.drop (l.length/2+1):=by rw[aaF an,H]
   have I:=K;rw[v,acr] at I;obtain⟨p1,p2,p3⟩:=I;have M:=Zm (a:=a) n (c:=c) (l:=l.take (l.length/2)) n1 an E F g p1 p (λe b=>r e (abF b))
   have N:=Zm (a:=a) n (c:=(bF n c (l.take (l.length/2)) o).1) (l:=l.drop (l.length/2)) D an (t.grown f.grown) G ⟨g.1,an⟩ p2 (p.grown f.grown g.2)
    (λe b=>(r e (abh b)).grown f.grown (t e b).2)
   have x:=M.grown u.grown f.jG.2;rw[L];intro s h i;simp only;rw[zS,Lf (.inr (.inr rfl)) u.jG ⟨f.jG.1,by have:=f.jG.2;omega⟩];simp only[takeN,show((53:Int)=21)=False by simp,show((53:Int)=37)=False by simp,if_false,i]
   have O:k.1∈(l.drop (l.length/2)).map (·.1):=by rw[w];simp
   by_cases q:k.1<=a
   .simp only[q,decide_true,if_true];rw[N s h i]
    have y:a∉(l.take (l.length/2)).map (·.1):=λhm=>by have:=p3 a hm k.1 O;omega
    unfold Az;rw[v];simp only[aa2,y,false_or]
   .simp only[q,decide_false,aa7,if_false];rw[x s h i]
    have y:a∉(l.drop (l.length/2)).map (·.1):=λhm=>by
     rw[w,aba,aap] at p2;rw[w,aba] at hm
     rcases aah.1 hm with e|hm
     .omega
     .have:=p2.1 a hm;omega
    unfold Az;rw[v];simp only[aa2,y,or_false]
def v7(l:List Nat)(a:Nat):List Nat:=if a∈l then l else l++[a]
def C4(l:List Nat):List Nat:=l.foldl v7 []
def zpW(l:List Nat)(a:Nat):C4 (l++[a])=v7 (C4 l) a:=by simp[C4,List.foldl_append]
def zpX(a:Nat):∀(l c:List Nat),a∈l.foldl v7 c↔a∈c\/a∈l
 | [],c=>by simp
 | b::l,c=>by
  rw[acs,zpX a l];unfold v7;split
  .rename_i h;rw[aah];constructor
   .rintro(d|d)
    .exact .inl d
    .exact .inr (.inr d)
   .rintro(d|rfl|d)
    .exact .inl d
    .exact .inl h
    .exact .inr d
  .simp[or_assoc]
def C5(l:List Nat)(a:Nat):a∈C4 l↔a∈l:=by rw[C4,zpX];simp
def znP:∀(l a:List Nat),a.Nodup->(l.foldl v7 a).Nodup
 | [],a,h=>h
 | b::l,a,h=>by
  rw[acs];refine znP l _ ?_;unfold v7;split
  .exact h
  .rename_i d;rw[List.nodup_append];exact⟨h,ir,λx f y c e=>d (by rw[aaZ] at c;rw[<-c,<-e];exact f)⟩
def Lm(l:List Nat):(C4 l).Nodup:=znP l [] ir
def OP:∀(l a:List Nat),(l.foldl v7 a).length<=a.length+l.length
 | [],a=>by simp
 | b::l,a=>by
  rw[acs];have:=OP l (v7 a b)
  have c:(v7 a b).length<=a.length+1:=by unfold v7;split<;>simp
  simp only[aaq];omega
def sU(x:Nat)(l:List Nat):List Nat:=l.takeWhile (λy=>decide (y<=x))++x::l.dropWhile (λy=>decide (y<=x))
def k8(l:List Nat):List Nat:=l.foldl (λa x=>sU x a) []
def zBn(x:Nat)(l:List Nat):(sU x l).Perm (x::l):=by unfold sU;refine adI.trans ?_;rw[acg]
def zrE:∀(l a:List Nat),(l.foldl (λa x=>sU x a) a).Perm (a++l)
 | [],a=>by simp
 | x::l,a=>by
  rw[acs];refine(zrE l _).trans ?_;refine((zBn x a).append_right l).trans ?_;rw[aa_];exact adI.symm
def IK(l:List Nat):(k8 l).Perm l:=by have:=zrE l [];simpa[k8] using this
def zyd(x:Nat):∀{l:List Nat},l.Pairwise (·<=·)->∀y∈l.dropWhile (λy=>decide (y<=x)),x<=y
 | [],_,y,a=>by simp at a
 | b::l,h,y,a=>by
  rw[List.dropWhile_cons] at a;split at a
  .exact zyd x (aap.1 h).2 y a
  .rename_i c;simp only[decide_eq_true_eq] at c
   rcases aah.1 a with rfl|a
   .omega
   .have:=(aap.1 h).1 y a;omega
def Zo(x:Nat):∀{l:List Nat},∀y∈l.takeWhile (λy=>decide (y<=x)),y<=x
 | [],y,a=>by simp at a
 | b::l,y,a=>by
  rw[List.takeWhile_cons] at a;split at a
  .rename_i c;simp only[decide_eq_true_eq] at c
   rcases aah.1 a with rfl|a
   .exact c
   .exact Zo x y a
  .simp at a
def zxw(x:Nat){l:List Nat}(h:l.Pairwise (·<=·)):(sU x l).Pairwise (·<=·):=by
 have c:=h;rw[<-acg (p:=λy=>decide (y<=x)) (l:=l),acr] at c;obtain⟨e,f,g⟩:=c;unfold sU;rw[acr,aap];refine⟨e,⟨zyd x h,f⟩,λa d b hb=>?_⟩
 rcases aah.1 hb with rfl|hb
 .exact Zo _ a d
 .exact g a d b hb
def zot:∀(l a:List Nat),a.Pairwise (·<=·)->(l.foldl (λa x=>sU x a) a).Pairwise (·<=·)
 | [],a,h=>h
 | x::l,a,h=>zot l _ (zxw x h)
def zv3{l:List Nat}(h:l.Nodup):(k8 l).Pairwise (·<·):=by have c:=zot l [] List.Pairwise.nil;have d:(k8 l).Nodup:=(IK l).nodup_iff.2 h;refine List.Pairwise.imp₂ ?_ c d;intro a b e f;exact Nat.lt_of_le_of_ne e f
def fR(rs:List Ru)(a:Nat):List Nat:=C4 ((rs.filter λr=>decide (r.aA=a)).map (·.nr))
def eN(rs:List Ru):List Nat:=C4 (rs.map (·.aA))
def eW(rs:List Ru)(a n:Nat):List Ru:=rs.filter λr=>decide (r.aA=a/\r.nr=n)
def bH(R:Nat->List Ru)(o:Nat):List Nat->List af->List af×List (Nat×Nat)
 | [],c=>(c,[])
 | n::l,c=>((bH R o l (oe (R n) (c,o)).1).1,(n,(oe (R n) (c,o)).2)::(bH R o l (oe (R n) (c,o)).1).2)
def sV(rs:List Ru)(o a:Nat)(c:List af):List af :=
 bx (bF (bH (eW rs a) o (k8 (fR rs a)) c).2.length (bH (eW rs a) o (k8 (fR rs a)) c).1 (bH (eW rs a) o (k8 (fR rs a)) c).2 o).1 32 0
def jv(rs:List Ru)(o:Nat):List Nat->List af->List af×List (Nat×Nat)
 | [],c=>(c,[])
 | a::l,c=>((jv rs o l (sV rs o a c)).1,(a,(sV rs o a c).length)::(jv rs o l (sV rs o a c)).2)
def dg:List (Nat×Nat)->rO->rO
 | [],s=>s
 | x::l,s=>dg l (gD s.1 21 x.1 x.2 s.2,(gD s.1 21 x.1 x.2 s.2).length)
def kN(p:Po):List af :=
 if(jv p.rules 1 (eN p.rules) (bx [] 6 p.cN)).2=[] then(dg (jv p.rules 1 (eN p.rules) (bx [] 6 p.cN)).2 ((jv p.rules 1 (eN p.rules) (bx [] 6 p.cN)).1,1)).1
 else bx (dg (jv p.rules 1 (eN p.rules) (bx [] 6 p.cN)).2 ((jv p.rules 1 (eN p.rules) (bx [] 6 p.cN)).1,1)).1 32 4
def iD(w:Ru->Nat):List Ru->Nat
 | []=>0
 | r::l=>w r+iD w l
def Gx(r:Ru):Nat:=1+13*r.conds.length
def zye:∀l:List Ru,vk l=iD Gx l
 | []=>rfl
 | r::l=>by rw[vk,iD,zye l,Gx]
def eX{α:Type}(g:α->Nat):List α->Nat
 | []=>0
 | x::l=>g x+eX g l
def zv4(g:Nat->Nat)(k c:Nat):∀{l:List Nat},l.Nodup->eX (λn=>(if k=n then c else 0)+g n) l<=c+eX g l
 | [],_=>by simp[eX]
 | x::l,h=>by
  rw[adS] at h;simp only[eX]
  by_cases e:k=x
  .subst e
   have d:∀{l:List Nat},k∉l->eX (λn=>(if k=n then c else 0)+g n) l=eX g l:=by
    intro l
    induction l with
    | nil=>intro _;rfl
    | cons y l b =>
     intro a;simp only[aah,not_or] at a;simp only[eX,if_neg a.1,b a.2,adr]
   rw[d h.1,if_pos rfl];omega
  .have b:=zv4 g k c h.2;rw[if_neg e];omega
def zyf{α:Type}{f g:α->Nat}:∀{l:List α},(∀x∈l,f x<=g x)->eX f l<=eX g l
 | [],_=>aaH _
 | x::l,h=>by
  have:=zyf (l:=l) λy a=>h y (by simp[a]);have:=h x ir;simp only[eX];omega
def Zp{α:Type}{f g:α->Nat}:∀{l:List α},(∀x∈l,f x=g x)->eX f l=eX g l
 | [],_=>rfl
 | x::l,h=>by simp only[eX,h x ir,Zp (l:=l) λy a=>h y (by simp[a])]
def Zq(w:Ru->Nat)(key:Ru->Nat){l:List Nat}(a:l.Nodup):∀rs:List Ru,eX (λn=>iD w (rs.filter λr=>decide (key r=n))) l<=iD w rs
 | []=>by
  have:∀l:List Nat,eX (λn=>iD w ([].filter λr=>decide (key r=n))) l=0:=by
   intro l;induction l with
   | nil=>rfl
   | cons x l b=>simp only[eX,b];rfl
  rw[this];exact adB _
 | r::rs=>by
  have b:=Zq w key a rs
  have e:∀n,iD w ((r::rs).filter λr=>decide (key r=n))=(if key r=n then w r else 0)+iD w (rs.filter λr=>decide (key r=n)):=by
   intro n;rw[adJ]
   by_cases h:key r=n<;>simp[h,iD]
  rw[Zp λn _=>e n];have:=zv4 (λn=>iD w (rs.filter λr=>decide (key r=n))) (key r) (w r) a;simp only[iD];omega
def zzJ(rs:List Ru)(a n:Nat):eW rs a n=(rs.filter λr=>decide (r.aA=a)).filter λr=>decide (r.nr=n):=by
 rw[List.filter_filter];unfold eW
 congr 1
 funext r
 rw[aaw];simp[and_comm]
def zBo(rs:List Ru)(a:Nat):(fR rs a).length<=iD (λ_=>1) (rs.filter λr=>decide (r.aA=a)):=by
 have h:∀l:List Ru,iD (λ_=>1) l=l.length:=by
  intro l;induction l with
  | nil=>rfl
  | cons x l b=>simp only[iD,b,aaq];omega
 rw[h]
 have:=OP ((rs.filter λr=>decide (r.aA=a)).map (·.nr)) []
 simpa[fR,C4] using this
section
variable {rs:List Ru} {o:Nat}
def C6(R:Nat->List Ru)(l:List Nat):Nat:=eX (λn=>vk (R n)) l
def IM{R:Nat->List Ru}:∀{l:List Nat} {c:List af},(∀n∈l,∀r∈R n,r.df)->(1<=o/\o<=c.length)->Came c ((bH R o l c).1,o) (C6 R l)/\kY (bH R o l c).1 (bH R o l c).2/\(bH R o l c).2.map (·.1)=l
 | [],c,_,h=>⟨Came.self h,by intro e he;simp[bH] at he,rfl⟩
 | n::l,c,j,g=>by
  have d:=Lk (l:=R n) (s:=(c,o)) (j n ir) g;have i:=d.grown.len;obtain⟨f,k,p⟩:=IM (l:=l) (c:=(oe (R n) (c,o)).1) (λm q=>j m (by simp[q])) ⟨g.1,by have:=g.2;simp only at i;omega⟩;have t:=f.grown.len
  refine⟨⟨(d.grown.trans f.grown).mono (by simp[C6,eX]),f.jG,λa b=>f.sound (d.sound a (by simp only[C6,eX] at b;simp only;omega)) (by simp only[C6,eX] at b |-;simp only at i;omega),
   λa b=>f.ks (d.ks a (by simp only[C6,eX] at b;simp only;omega)) (by simp only[C6,eX] at b |-;simp only at i;omega)⟩,?_,by simp only[bH,aba,p]⟩
  intro e he;simp only[bH,aah] at he |-
  rcases he with rfl|he
  .exact⟨d.jG.1,by have:=d.jG.2;simp only at t |-;omega⟩
  .exact k e he
def zv5{R:Nat->List Ru}{d:Da}(hd:d.ok){v0:Nat}:∀{l:List Nat} {c:List af},(∀n∈l,∀r∈R n,r.df)->(1<=o/\o<=c.length)->qF d c o v0->∀e∈(bH R o l c).2,qF d (bH R o l c).1 e.2 (zV d v0 (R e.1))
 | [],c,_,_,_,e,he=>by simp[bH] at he
 | n::l,c,b,a,h,e,he=>by
  have f:=Lk (l:=R n) (s:=(c,o)) (b n ir) a;have j:=f.grown.len;have i:1<=o/\o<=(oe (R n) (c,o)).1.length:=⟨a.1,by have:=a.2;simp only at j;omega⟩;obtain⟨k,q,t⟩:=IM (R:=R) (l:=l) (c:=(oe (R n) (c,o)).1) (λm g=>b m (by simp[g])) i;have p:=zv5 hd (R:=R) (l:=l) (c:=(oe (R n) (c,o)).1) (λm g=>b m (by simp[g])) i (h.grown f.grown a.2);simp only[bH,aah] at he |-
  rcases he with rfl|he
  .exact(ztO hd (l:=R n) (s:=(c,o)) (b n ir) a h).grown k.grown f.jG.2
  .exact p e he
def Zr{R:Nat->List Ru}{l:List Nat}{c:List af}(h:(bH R o l c).2.map (·.1)=l):(bH R o l c).2.length=l.length:=by rw[<-adT (f:=(·.1)),h]
def Eu(rs:List Ru)(a:Nat):Nat:=C6 (eW rs a) (k8 (fR rs a))+6*(fR rs a).length
def OQ{l:List Nat}{x:Nat}:x∈k8 l↔x∈l:=(IK l).mem_iff
def OR{a:Nat}(h:a∈eN rs):fR rs a≠[]:=by
 rw[eN,C5,aaE] at h;obtain⟨r,b,rfl⟩:=h;intro e
 have:r.nr∈fR rs r.aA:=by rw[fR,C5,aaE];exact⟨r,ab4.2 ⟨b,ir⟩,rfl⟩
 rw[e] at this;simp at this
def OS(b:∀r∈rs,r.df){a n:Nat}(h:n∈fR rs a):n<4294967296:=by rw[fR,C5,aaE] at h;obtain⟨r,c,rfl⟩:=h;exact(b r (ab4.1 c).1).2.2.1
def IN(b:∀r∈rs,r.df){a n:Nat}:∀r∈eW rs a n,r.df:=λr c=>b r (ab4.1 c).1
def Zs(d:∀r∈rs,r.df){a:Nat}(f:a∈eN rs){c:List af}(i:1<=o/\o<=c.length):Came c (sV rs o a c,(sV rs o a c).length) (Eu rs a):=by
 obtain⟨g,j,b⟩:=IM (R:=eW rs a) (l:=k8 (fR rs a)) (c:=c) (λ_ _=>IN d) i
 have m:(bH (eW rs a) o (k8 (fR rs a)) c).2≠[]:=by intro e;rw[e] at b;have h:=(IK (fR rs a)).length_eq;rw[<-b] at h;exact OR f (abx.1 (by simpa using h.symm))
 have n:=Zr b;rw[(IK _).length_eq] at n;have s:0<(fR rs a).length:=aaU.2 (OR f);have t:=Es (o:=o) _ m (aaH _) j (λe q=>OS d (a:=a) (OQ.1 (by rw[<-b];exact aaE.2 ⟨e,q,rfl⟩))) g.jG;have p:=S5 (c:=(bF (bH (eW rs a) o (k8 (fR rs a)) c).2.length (bH (eW rs a) o (k8 (fR rs a)) c).1 (bH (eW rs a) o (k8 (fR rs a)) c).2 o).1) (op:=32) (k:=0) (.inr (.inr ⟨rfl,ah9,ah9⟩)) ah9
 exact((g.trans t).trans p).mono (by unfold Eu;omega)
def zDM(n:Nat)(c:List af)(l:List (Nat×Nat)):(bF (n+1) c l o).2=(bF (n+1) c l o).1.length:=by
 unfold bF
 split<;>rfl
def zFy(d:Da):(pO d 0).1=d.nr/\(pO d 4).1=d.aA:=by constructor<;>simp[pO,iV]
def Zt{a n:Nat}(h:n∉fR rs a):eW rs a n=[]:=by rw[eW,ac2];intro r c b;simp only[decide_eq_true_eq] at b;refine h ?_;rw[fR,C5,aaE];exact⟨r,ab4.2 ⟨c,by simp[b.1]⟩,b.2⟩
def zDN(g:∀r∈rs,r.df){a:Nat}(v:a∈eN rs){c:List af}(i:1<=o/\o<=c.length){d:Da}(hd:d.ok){v0:Nat}(f:qF d c o v0):qF d (sV rs o a c) (sV rs o a c).length (zV d v0 (eW rs a d.nr)):=by
 obtain⟨j,u,b⟩:=IM (R:=eW rs a) (l:=k8 (fR rs a)) (c:=c) (λ_ _=>IN g) i;have w:=zv5 hd (R:=eW rs a) (l:=k8 (fR rs a)) (c:=c) (λ_ _=>IN g) i f
 have k:(bH (eW rs a) o (k8 (fR rs a)) c).2≠[]:=by intro e;rw[e] at b;have f:=(IK (fR rs a)).length_eq;rw[<-b] at f;exact OR v (abx.1 (by simpa using f.symm))
 have t:=Zm (o:=o) (a:=d.nr) (v0:=v0) (vs:=λn=>zV d v0 (eW rs a n)) _ k (aaH _) u (λe p=>OS g (a:=a) (OQ.1 (by rw[<-b];exact aaE.2 ⟨e,p,rfl⟩))) j.jG
  (by rw[b];exact zv3 (Lm _)) (f.grown j.grown i.2) w
 have A:=Es (o:=o) _ k (aaH _) u (λe p=>OS g (a:=a) (OQ.1 (by rw[<-b];exact aaE.2 ⟨e,p,rfl⟩))) j.jG
 have x:(bF (bH (eW rs a) o (k8 (fR rs a)) c).2.length (bH (eW rs a) o (k8 (fR rs a)) c).1 (bH (eW rs a) o (k8 (fR rs a)) c).2 o).2=(bF (bH (eW rs a) o (k8 (fR rs a)) c).2.length (bH (eW rs a) o (k8 (fR rs a)) c).1 (bH (eW rs a) o (k8 (fR rs a)) c).2 o).1.length:=by obtain⟨m,q⟩:∃m,(bH (eW rs a) o (k8 (fR rs a)) c).2.length=m+1:=⟨_,(Nat.succ_pred_eq_of_pos (aaU.2 k)).symm⟩;rw[q];exact zDM _ _ _
 have y:Az v0 (λn=>zV d v0 (eW rs a n)) d.nr (bH (eW rs a) o (k8 (fR rs a)) c).2=zV d v0 (eW rs a d.nr):=by
  unfold Az;rw[b];split
  .rfl
  .rename_i h;rw[Zt (λq=>h (OQ.2 q))];rfl
 intro s z;rw[zS,sV,SW,(zFy d).1];have:=t { s with a:=d.nr } (St.Ek z hd.1) rfl;rw[x,zS,y] at this;exact this
def BP(rs:List Ru)(l:List Nat):Nat:=eX (Eu rs) l
def Ln(j:∀r∈rs,r.df):∀{l:List Nat} {c:List af},(∀a∈l,a∈eN rs)->(1<=o/\o<=c.length)->Came c ((jv rs o l c).1,o) (BP rs l)/\kY (jv rs o l c).1 (jv rs o l c).2/\(jv rs o l c).2.map (·.1)=l
 | [],c,_,h=>⟨Came.self h,by intro e he;simp[jv] at he,rfl⟩
 | a::l,c,k,g=>by
  have d:=Zs j (k a ir) g;have i:=d.grown.len;obtain⟨f,n,p⟩:=Ln j (l:=l) (c:=sV rs o a c) (λm q=>k m (by simp[q])) ⟨g.1,by have:=g.2;simp only at i;omega⟩;have s:=f.grown.len
  refine⟨⟨(d.grown.trans f.grown).mono (by simp[BP,eX]),f.jG,λa b=>f.sound (d.sound a (by simp only[BP,eX] at b;omega)) (by simp only[BP,eX] at b |-;simp only at i;omega),
   λa b=>f.ks (d.ks a (by simp only[BP,eX] at b;omega)) (by simp only[BP,eX] at b |-;simp only at i;omega)⟩,?_,by simp only[jv,aba,p]⟩
  intro e he;simp only[jv,aah] at he |-
  rcases he with rfl|he
  .exact⟨d.jG.1,by have:=d.jG.2;simp only at s |-;omega⟩
  .exact n e he
def ztP(f:∀r∈rs,r.df){d:Da}(hd:d.ok){v0:Nat}:∀{l:List Nat} {c:List af},(∀a∈l,a∈eN rs)->(1<=o/\o<=c.length)->qF d c o v0->∀e∈(jv rs o l c).2,qF d (jv rs o l c).1 e.2 (zV d v0 (eW rs e.1 d.nr))
 | [],c,_,_,_,e,he=>by simp[jv] at he
 | a::l,c,g,b,j,e,he=>by
  have h:=Zs f (g a ir) b;have n:=h.grown.len;have k:1<=o/\o<=(sV rs o a c).length:=⟨b.1,by have:=b.2;simp only at n;omega⟩;obtain⟨p,s,t⟩:=Ln f (l:=l) (c:=sV rs o a c) (λm i=>g m (by simp[i])) k;have q:=ztP f hd (l:=l) (c:=sV rs o a c) (λm i=>g m (by simp[i])) k (j.grown h.grown b.2);simp only[jv,aah] at he |-
  rcases he with rfl|he
  .exact(zDN f (g a ir) b hd j).grown p.grown h.jG.2
  .exact q e he
def S8:∀{l:List (Nat×Nat)} {s:rO},kY s.1 l->(∀e∈l,e.1<4294967296)->(1<=s.2/\s.2<=s.1.length)->Came s.1 (dg l s) (3*l.length)
 | [],s,_,_,h=>Came.self h
 | x::l,s,d,f,g=>by
  have b:=S6 (c:=s.1) (op:=21) (k:=x.1) (.inl rfl) (f x ir) (d x ir) g;have i:=S8 (l:=l) (s:=(gD s.1 21 x.1 x.2 s.2,(gD s.1 21 x.1 x.2 s.2).length)) ((show kY s.1 l from λe a=>d e (by simp[a])).grown b.grown) (λe a=>f e (by simp[a])) b.jG;exact(b.trans i).mono (by simp only[aaq];omega)
def ztQ{d:Da}{a:Nat}{vs:Nat->Nat}:∀{l:List (Nat×Nat)} {s:rO} {v0:Nat},kY s.1 l->(∀e∈l,e.1<4294967296)->(1<=s.2/\s.2<=s.1.length)->Gs d s.1 s.2 a v0->(∀e∈l,qF d s.1 e.2 (vs e.1))->Gs d (dg l s).1 (dg l s).2 a (Az v0 vs a l)
 | [],s,v0,_,_,_,h,_=>by simpa[dg,Az] using h
 | x::l,s,v0,g,i,j,u,n=>by
  have b:=S6 (c:=s.1) (op:=21) (k:=x.1) (.inl rfl) (i x ir) (g x ir) j
  have hd:Gs d (gD s.1 21 x.1 x.2 s.2) (gD s.1 21 x.1 x.2 s.2).length a (if a=x.1 then vs x.1 else v0):=by
   intro t o p;rw[zS,Lf (.inl rfl) (g x ir) j];simp only[takeN,if_true,p]
   by_cases q:a=x.1
   .simp[q];exact n x ir t o
   .simp[q];exact u t o p
  have r:=(show kY s.1 l from λe f=>g e (by simp[f]));have v:=ztQ (vs:=vs) (l:=l) (s:=(gD s.1 21 x.1 x.2 s.2,(gD s.1 21 x.1 x.2 s.2).length)) (r.grown b.grown) (λe f=>i e (by simp[f])) b.jG hd (λe f=>(n e (by simp[f])).grown b.grown (r e f).2)
  have e:Az v0 vs a (x::l)=Az (if a=x.1 then vs x.1 else v0) vs a l:=by
   unfold Az;simp only[aba,aah]
   by_cases q:a=x.1
   .subst q;simp
   .by_cases m:a∈l.map (·.1)
    .rw[if_pos (.inr m),if_pos m]
    .rw[if_neg (λh=>h.elim q m),if_neg m,if_neg q]
  rw[e];exact v
end
def Po.df(p:Po):Prop:=(∀r∈p.rules,r.df)/\p.cN<4294967296
def Ew(p:Po):Nat:=BP p.rules (eN p.rules)+3*(eN p.rules).length+1
def S9(d:Da)(p:Po):Nat:=zV d p.cN (eW p.rules d.aA d.nr)
def zyg{w v:Ru->Nat}:∀{l:List Ru},(∀r∈l,w r<=v r)->iD w l<=iD v l
 | [],_=>aaH _
 | r::l,h=>by
  have:=zyg (l:=l) λy a=>h y (by simp[a]);have:=h r ir;simp only[iD];omega
def zv6(w v:Ru->Nat):∀l:List Ru,iD (λr=>w r+v r) l=iD w l+iD v l
 | []=>rfl
 | r::l=>by simp only[iD,zv6 w v l];omega
def S_(k:Nat):∀l:List Ru,iD (λ_=>k) l=k*l.length
 | []=>rfl
 | r::l=>by simp only[iD,S_ k l,aaq,ad4];omega
def zDO(rs:List Ru)(a:Nat):Eu rs a<=iD (λr=>Gx r+6) (rs.filter λr=>decide (r.aA=a)):=by
 have c:=Zq Gx (·.nr) (l:=k8 (fR rs a)) ((IK _).nodup_iff.2 (Lm _)) (rs.filter λr=>decide (r.aA=a))
 have b:=zBo rs a;rw[S_] at b;rw[zv6,S_]
 have e:C6 (eW rs a) (k8 (fR rs a))=eX (λn=>iD Gx ((rs.filter λr=>decide (r.aA=a)).filter λr=>decide (r.nr=n))) (k8 (fR rs a)) :=
  Zp λn _=>by rw[zye,zzJ]
 unfold Eu;rw[e];omega
def Zv(rs:List Ru):(eN rs).length<=rs.length:=by
 have:=OP (rs.map (·.aA)) []
 simpa[eN,C4] using this
def Zw{p:Po}(e:p.rules.length<=64)(b:∀r∈p.rules,r.conds.length<=4):Ew p<=4095:=by
 have f:=zyf (l:=eN p.rules) λa _=>zDO p.rules a
 have g:=Zq (λr=>Gx r+6) (·.aA) (l:=eN p.rules) (Lm _) p.rules
 have c:=zyg (w:=λr=>Gx r+6) (v:=λ_=>59) (l:=p.rules) λr d=>by have:=b r d;simp only[Gx];omega
 rw[S_] at c;have h:=Zv p.rules;unfold Ew BP;omega
def fE(d:Da)(r:Ru):Bool:=Cd.oR d r.conds&&decide (r.aA=d.aA)&&decide (r.nr=d.nr)
def zrG(d:Da)(v0:Nat):∀rs:List Ru,zV d v0 (eW rs d.aA d.nr)=((rs.find? (fE d)).map (·.act)).getD v0
 | []=>rfl
 | r::rs=>by
  have c:=zrG d v0 rs;unfold eW at c |-;rw[adJ,adK]
  by_cases h:r.aA=d.aA/\r.nr=d.nr
  .rw[if_pos (by simpa using h)];cases b:Cd.oR d r.conds
   .have a:fE d r=false:=by simp[fE,b]
    simp only[zV,b,a];simpa using c
   .have a:fE d r=true:=by simp[fE,b,h]
    simp[zV,b,a]
  .rw[if_neg (by simpa using h)]
   have a:fE d r=false:=by
    cases e:fE d r with
    | false=>rfl
    | true=>simp only[fE,aaA,decide_eq_true_eq] at e;exact absurd ⟨e.1.2,e.2⟩ h
   rw[a];exact c
def zBp(k:Nat):du (bx [] 6 k)=true:=by
 have b:(oG 6).map (λr=>(r.2.2.1,r.2.2.2))=some (true,false):=by decide
 rw[abj] at b;obtain⟨r,c,a⟩:=b;simp only[adu.injEq] at a;simp[du,bx,jF,cd,jS,kJ,kK,c,a.1,a.2,aX,fW]
 done
def ztR:∀{l:List (Nat×Nat)} {s:rO},l≠[]->(dg l s).2=(dg l s).1.length
 | [],_,h=>absurd rfl h
 | [x],s,_=>rfl
 | x::y::l,s,_=>ztR (l:=y::l) ir
def zpY{p:Po}(d:p.df):n_ (bx [] 6 p.cN) (kN p) (Ew p)/\(Ew p<=4095->du (kN p)=true/\yT (kN p)):=by
 obtain⟨m,u,g⟩:=Ln (rs:=p.rules) (o:=1) d.1 (l:=eN p.rules) (c:=bx [] 6 p.cN) (λ_ h=>h) ⟨aaH _,aaH _⟩
 have v:∀e∈(jv p.rules 1 (eN p.rules) (bx [] 6 p.cN)).2,e.1<4294967296:=by
  intro e a
  have:e.1∈eN p.rules:=by rw[<-g];exact aaE.2 ⟨e,a,rfl⟩
  rw[eN,C5,aaE] at this;obtain⟨r,w,h⟩:=this;rw[<-h];exact(d.1 r w).2.1
 have x:=S8 (s:=((jv p.rules 1 (eN p.rules) (bx [] 6 p.cN)).1,1)) u v m.jG
 have b:(jv p.rules 1 (eN p.rules) (bx [] 6 p.cN)).2.length=(eN p.rules).length:=by rw[<-adT (f:=(·.1)),g]
 have n:=zBp p.cN;have q:yT (bx [] 6 p.cN):=Lj d.2 (λy z=>by simp at z);have t:(bx [] 6 p.cN).length=1:=rfl
 by_cases a:(jv p.rules 1 (eN p.rules) (bx [] 6 p.cN)).2=[]
 .have A:eN p.rules=[]:=by rw[<-g,a];rfl
  have i:kN p=bx [] 6 p.cN:=by unfold kN;rw[if_pos a,a,A];rfl
  rw[i];exact⟨(n_.refl _).mono (adB _),λ_=>⟨n,q⟩⟩
 .have B:=S5 (c:=(dg (jv p.rules 1 (eN p.rules) (bx [] 6 p.cN)).2 ((jv p.rules 1 (eN p.rules) (bx [] 6 p.cN)).1,1)).1) (op:=32) (k:=4) (.inr (.inr ⟨rfl,ah9,ah9⟩)) ah9;have j:=((m.trans x).trans B).mono (show _<=Ew p by rw[b];exact aaH _)
  have i:kN p=bx (dg (jv p.rules 1 (eN p.rules) (bx [] 6 p.cN)).2 ((jv p.rules 1 (eN p.rules) (bx [] 6 p.cN)).1,1)).1 32 4:=by unfold kN;rw[if_neg a]
  rw[i];exact⟨j.grown,λC=>⟨j.sound n (by rw[t];omega),j.ks q (by rw[t];omega)⟩⟩
def zzK{p:Po}(j:p.df):n_ (bx [] 6 p.cN) (kN p) (Ew p)/\(Ew p<=4095->du (kN p)=true/\yT (kN p))/\∀d:Da,d.ok->qF d (kN p) (kN p).length (S9 d p):=by
 obtain⟨f,g⟩:=zpY j;obtain⟨q,v,k⟩:=Ln (rs:=p.rules) (o:=1) j.1 (l:=eN p.rules) (c:=bx [] 6 p.cN) (λ_ h=>h) ⟨aaH _,aaH _⟩
 have w:∀e∈(jv p.rules 1 (eN p.rules) (bx [] 6 p.cN)).2,e.1<4294967296:=by
  intro e b
  have:e.1∈eN p.rules:=by rw[<-k];exact aaE.2 ⟨e,b,rfl⟩
  rw[eN,C5,aaE] at this;obtain⟨r,i,h⟩:=this;rw[<-h];exact(j.1 r i).2.1
 have m:∀d:Da,qF d (bx [] 6 p.cN) 1 p.cN:=λd=>zyc d [] p.cN;have x:∀d:Da,d.ok->_:=λd hd=>ztP (rs:=p.rules) (o:=1) j.1 hd (l:=eN p.rules) (c:=bx [] 6 p.cN) (λ_ h=>h) ⟨aaH _,aaH _⟩ (m d)
 by_cases b:(jv p.rules 1 (eN p.rules) (bx [] 6 p.cN)).2=[]
 .have t:eN p.rules=[]:=by rw[<-k,b];rfl
  have i:p.rules=[]:=by
   cases y:p.rules with
   | nil=>rfl
   | cons r l =>
    have:r.aA∈eN p.rules:=by rw[eN,C5];exact aaE.2 ⟨r,by rw[y];simp,rfl⟩
    rw[t] at this;simp at this
  have n:kN p=bx [] 6 p.cN:=by unfold kN;rw[if_pos b,b,t];rfl
  refine⟨f,g,λd hd=>?_⟩;rw[n]
  have:S9 d p=p.cN:=by unfold S9 eW;rw[i];rfl
  rw[this];exact m d
 .have n:kN p=bx (dg (jv p.rules 1 (eN p.rules) (bx [] 6 p.cN)).2 ((jv p.rules 1 (eN p.rules) (bx [] 6 p.cN)).1,1)).1 32 4:=by unfold kN;rw[if_neg b]
  have z:=ztR (s:=((jv p.rules 1 (eN p.rules) (bx [] 6 p.cN)).1,1)) b;refine⟨f,g,λd hd=>?_⟩;rw[n];have A:=ztQ (a:=d.aA) (vs:=λa=>zV d p.cN (eW p.rules a d.nr)) v w q.jG ((m d).grown q.grown (aaH _) |>.dep d.aA) (x d hd);intro s B;rw[zS,SW,(zFy d).2];have:=A { s with a:=d.aA } (St.Ek B hd.2.1) rfl;rw[z,zS] at this;rw[this];unfold Az S9;rw[k];split
  .rfl
  .rename_i h
   have:eW p.rules d.aA d.nr=[]:=by rw[eW,ac2];intro r i u;simp only[decide_eq_true_eq] at u;exact h (by rw[eN,C5,aaE];exact⟨r,i,u.1⟩)
   rw[this];rfl
open Go Go.RowKit
variable {G:aL}
def eg(v:Nat):Bool:=decide (v=0\/v=196608\/v=2147221504\/v=2147418112\/327680<=v/\v<=331775)
def sW:List (List UInt8×Int):=[([107,105,108,108],0),([116,114,97,112],196608),([108,111,103],2147221504),([97,108,108,111,119],2147418112)]
def Ta[bW G]:bE G (.F 394 [] [] (.mp 0) [some (.map (sW.map λp=>(.str p.1,.int .u32 p.2)))]):=by refine fg bW.afC (aab rfl) ?_;simp[sW]
def BQ(v:Nat):List UInt8:=((sW.find? λp=>p.2==(v:Int)).map (·.1)).getD []
def Zx[bW G](v:Nat):bE G (.F 393 [.mp 0,.int .u32 v] [some (.map (sW.map λp=>(.str p.1,.int .u32 p.2)))] (.str (BQ v)) [some (.map (sW.map λp=>(.str p.1,.int .u32 p.2)))]) :=
 .nat bW.afB rfl ⟨rfl,sW,rfl,ah9,rfl⟩
def OT{v:Nat}(a:v<4294967296):bO .u32 (v:Int) 327680=(((v+4294639616)%4294967296:Nat):Int):=by unfold bO;rw[IntKind.wrap,show IntKind.u32.signed=false from rfl];simp[IntKind.bits];omega
def ztS[fB G][bW G](v:Nat)(j:v<4294967296):∃s e,FP G 395 [.int .u32 v] (.bc [.str s,.int .i64 e])/\(e==0)=eg v:=by
 by_cases b:BQ v=[]
 .have t:v≠0/\v≠196608/\v≠2147221504/\v≠2147418112:=by refine⟨?_,?_,?_,?_⟩<;>(rintro rfl;revert b;decide)
  obtain⟨k,m⟩:=bb ((v+4294639616)%4294967296);have d:=OT j;rw[<-m] at d
  by_cases h:k<=4095
  .have n:=zGr (G:=G) k an;refine⟨[101,114,114,111,114,58]++br k,0,?_,?_⟩
   .refine bw bW.afD (aab rfl) ?_;have a:((k:Int)<=4095)=True:=ah7;have c:(6+(br k).length<=9223372036854775807)=True:=eq_true (by have:=SZ k 16;unfold br;omega);have o:fc .u64 (k:Int)=(k:Int):=IntWalk.u64_in _ ⟨an,an⟩;simp;refine vh Ta ir ?_;simp;refine zG (Zx v) ?_;simp[b,d,a,o];refine aw n ?_;simp[c]
   .have:eg v=true:=by simp[eg];omega
    rw[this];rfl
  .refine⟨[],1,?_,?_⟩
   .refine bw bW.afD (aab rfl) ?_;have a:((k:Int)<=4095)=False:=ah8;simp;refine vh Ta ir ?_;simp;refine zG (Zx v) ?_;simp[b,d,a]
   .have:eg v=false:=by simp[eg];omega
    rw[this];rfl
 .refine⟨BQ v,0,?_,?_⟩
  .refine bw bW.afD (aab rfl) ?_
   have q:(BQ v).isEmpty=false:=by simpa using b
   simp;refine vh Ta ir ?_;simp;refine zG (Zx v) ?_;simp[q]
  .have:eg v=true:=by
    have f:∀l:List (List UInt8×Int),((l.find? λp=>p.2==(v:Int)).map (·.1)).getD []≠[]->∃p∈l,p.2=(v:Int):=by
     intro l h
     cases g:l.find? (λp=>p.2==(v:Int)) with
     | none=>rw[g] at h;simp at h
     | some p=>exact⟨p,ab2 g,by simpa using acV g⟩
    obtain⟨p,i,r⟩:=f _ b;simp only[sW,aah,aa1,or_false] at i
    rcases i with rfl|rfl|rfl|rfl<;>simp only at r<;>simp[eg]<;>omega
   rw[this];rfl
def Ru.cs(r:Ru):List V:=[.int .u32 (r.aA:Int),.int .u32 (r.nr:Int),.vs (CL r.conds) .no,.int .u32 (r.act:Int)]
def RL(l:List Ru):List (List V):=l.map Ru.cs
@[simp] theorem zNT (l:List Ru):(RL l).length=l.length:=by simp[RL]
theorem Ke{l:List Ru}{i:Nat}{x:Ru}(h:l[i]?=some x):(RL l)[i]?=some x.cs:=by simp[RL,h]
def Po.cs(p:Po):List V:=[.vs (RL p.rules) .no,.int .u32 (p.cN:Int)]
def jr(r:Ru):Bool:=r.conds.all Cd.right&&eg r.act&&decide (r.conds.length<=4)
def yU(p:Po):Bool:=p.rules.all jr&&eg p.cN&&decide (p.rules.length<=64)
def zIh[fB G][bW G][dV G][kE G](r:Ru)(k:r.conds.length<=maxLen)(l:r.act<4294967296):FP G 405 [.agg r.cs] (.bool (jr r)):=by
 refine bw kE.afH (aab rfl) ?_;obtain⟨s,e,m,a⟩:=ztS (G:=G) r.act l;simp[Ru.cs];refine aO r.conds.length (λi=>[(1,.ptr 0 0),(8,.vs (CL r.conds) .no),(9,.int .i64 r.conds.length),(10,.int .i64 i)]) (λ_=>[some (.cells r.cs)]) (λi=>(r.conds.take i).all Cd.right=true) ?_ ?_
 .simp[av,ak,Ru.cs]
 intro i hi b;unfold maxLen at k
 by_cases c:i<r.conds.length
 .obtain⟨x,n⟩:=bb (r.conds[i])
  have g:r.conds[i]?=some x:=by rw[aae c,n]
  have d:=Mz g
  have o:(CL r.conds)[i]'(by simpa using c)=x.cs:=by rw[aae (by simpa using c)] at d;exact abc.inj d
  have h:=zv0 (G:=G) x;simp only[Cd.cs] at h d o
  have p:(r.conds.take (i+1)).all Cd.right=((r.conds.take i).all Cd.right&&x.right):=by rw[aaJ,g];simp
  simp(disch:=omega)[bC,d,Ru.cs];refine aw h ?_
  cases j:x.right with
  | false =>
   have:jr r=false:=by
    have:r.conds.all Cd.right=false:=by rw[adx];exact⟨x,abu g,by simp[j]⟩
    simp[jr,this]
   simp[this]
  | true =>
   simp(disch:=omega)[av,ak,bA,c,-aaa]
   have:(r.conds.take (i+1)).all Cd.right=true:=by rw[p,b,j];rfl
   simpa using this
 .have:i=r.conds.length:=an
  subst this;rw[abz] at b
  have q:((r.conds.length:Int)<=4)=(r.conds.length<=4):=by rw[eq_iff_iff];omega
  simp(disch:=omega)[Ru.cs];refine aw m ?_
  cases f:eg r.act with
  | true =>
   rw[f] at a;simp only[beq_iff_eq] at a;subst a
   simp[jr,b,f,q]
  | false =>
   rw[f] at a;simp[jr,b,f,a]
def zxx[fB G][bW G][dV G][kE G](p:Po)(l:p.rules.length<=maxLen)(m:∀r∈p.rules,r.conds.length<=maxLen/\r.act<4294967296)(hd:p.cN<4294967296):FP G 406 [.agg p.cs] (.bool (yU p)):=by
 refine bw kE.afI (aab rfl) ?_;obtain⟨s,e,n,a⟩:=ztS (G:=G) p.cN hd;simp[Po.cs];refine aO p.rules.length (λi=>[(1,.ptr 0 0),(8,.vs (RL p.rules) .no),(9,.int .i64 p.rules.length),(10,.int .i64 i)]) (λ_=>[some (.cells p.cs)]) (λi=>(p.rules.take i).all jr=true) ?_ ?_
 .simp[av,ak,Po.cs]
 intro i hi b;unfold maxLen at l
 by_cases c:i<p.rules.length
 .obtain⟨x,o⟩:=bb (p.rules[i])
  have d:p.rules[i]?=some x:=by rw[aae c,o]
  have f:=Ke d
  have q:(RL p.rules)[i]'(by simpa using c)=x.cs:=by rw[aae (by simpa using c)] at f;exact abc.inj f
  have h:=m x (abu d);have j:=zIh (G:=G) x h.1 h.2;simp only[Ru.cs] at j f q
  have t:(p.rules.take (i+1)).all jr=((p.rules.take i).all jr&&jr x):=by rw[aaJ,d];simp
  simp(disch:=omega)[bC,f,Po.cs];refine aw j ?_
  cases k:jr x with
  | false =>
   have:yU p=false:=by
    have:p.rules.all jr=false:=by rw[adx];exact⟨x,abu d,by simp[k]⟩
    simp[yU,this]
   simp[this]
  | true =>
   simp(disch:=omega)[av,ak,bA,c,-aaa]
   have:(p.rules.take (i+1)).all jr=true:=by rw[t,b,k];rfl
   simpa using this
 .have:i=p.rules.length:=an
  subst this;rw[abz] at b
  have u:((p.rules.length:Int)<=64)=(p.rules.length<=64):=by rw[eq_iff_iff];omega
  simp(disch:=omega)[Po.cs];refine aw n ?_
  cases g:eg p.cN with
  | true =>
   rw[g] at a;simp only[beq_iff_eq] at a;subst a
   simp[yU,b,g,u]
  | false =>
   rw[g] at a;simp[yU,b,g,a]
def iE(l:List Nat):Nat:=l.foldl (λa d=>16*a+d) 0
def Gy(l:List Nat)(d:Nat):iE (l++[d])=16*iE l+d:=by simp[iE]
def Zy:∀n (l:List Nat),l.length=n->(∀d∈l,d<16)->iE l<16^n:=by
 intro n
 induction n with
 | zero=>intro l a _;have:=abx.1 a;subst this;simp[iE]
 | succ n b =>
  intro l a h
  rcases List.eq_nil_or_concat l with rfl|⟨m,d,rfl⟩
  .simp at a
  .rw[List.concat_eq_append] at a h |-;have e:=b m (by simpa using a) (λx c=>h x (by simp[c]));have f:=h d ir;rw[Gy,abb];omega
def zBq{k:Nat}(h:k<16):2^(64-4*k)=2^(60-4*k)*16:=by rw[show 64-4*k=(60-4*k)+4 by omega,ad5]
def zzL(n:Nat)(f:n<18446744073709551616):∀k,k<=16->∃ds:List Nat,wV n k=([48,120]++ds.map ku,decide (ds≠[]))/\(∀d∈ds,d<16)/\iE ds=n/2^(64-4*k)/\ds.length<=k/\(ds.head?=some 0->k=16/\ds.length=1)/\(k=16->ds≠[]):=by
 intro k
 induction k with
 | zero =>
  intro _;refine⟨[],by simp[wV],ir,?_,ir,ir,ir⟩;rw[show 64-4*0=64 by omega,Nat.div_eq_of_lt (show n<2^64 from f)]
  rfl
 | succ k g =>
  intro u;obtain⟨ds,i,j,e,v,m,_⟩:=g an;obtain⟨d,hd⟩:=bb (n/2^(60-4*k)%16);have o:=zBq (k:=k) an
  have p:n/2^(64-4*k)=n/2^(60-4*k)/16:=by rw[o,abW]
  have r:64-4*(k+1)=60-4*k:=an
  rw[r];rw[p] at e
  have s:d<16:=an
  unfold wV;rw[<-hd,i];generalize n/2^(60-4*k)=q at *
  by_cases b:(decide (ds≠[])||decide (0<d)||decide (k=15))=true
  .refine⟨ds++[d],?_,?_,?_,?_,?_,ir⟩
   .rw[if_pos b];simp
   .intro x t
    rcases aa2.1 t with h|h
    .exact j x h
    .simp at h;omega
   .rw[Gy,e];omega
   .simp;omega
   .intro c
    cases ds with
    | nil =>
     simp at c b;subst c;simp at b
     simp;omega
    | cons a l =>
     simp at c;have:=m (by simp[c]);omega
  .rw[if_neg b];simp at b;obtain⟨⟨rfl,w⟩,y⟩:=b;refine⟨[],ir,ir,?_,ir,ir,an⟩;have:iE []=0:=rfl;rw[this] at e |-;omega
def IP(n:Nat)(a:n<18446744073709551616):∃ds:List Nat,br n=[48,120]++ds.map ku/\(∀d∈ds,d<16)/\iE ds=n/\1<=ds.length/\ds.length<=16/\(ds.head?=some 0->ds.length=1):=by
 obtain⟨ds,b,c,e,f,g,i⟩:=zzL n a 16 an;refine⟨ds,by rw[br,b],c,by simpa using e,?_,f,λh=>(g h).2⟩;have:=i rfl
 cases ds with
 | nil=>exact absurd rfl this
 | cons _ _=>simp
def zW(w:List UInt8):Prop:=∀b∈w,b≠32/\b≠10/\b.toNat<128
def ztT:∀d,d<16->ku d≠32/\ku d≠10/\(ku d).toNat<128:=by decide
def Tb(n:Nat)(c:n<18446744073709551616):zW (br n):=by
 obtain⟨ds,e,f,_⟩:=IP n c;intro b a;rw[e] at a;simp only[aa_,acq,aah,aaE] at a
 rcases a with rfl|rfl|⟨d,hd,rfl⟩
 .decide
 .decide
 .exact ztT d (f d hd)
def IQ(n:Nat):(br n).length<=18:=by have:=SZ n 16;unfold br;omega
def zv7(n:Nat):br n≠[]:=by
 intro h
 have:∀k,(wV n k).1≠[]:=by
  intro k
  induction k with
  | zero=>simp[wV]
  | succ k a=>unfold wV;split<;>simp[a]
 exact this 16 h
def zBr(n:Nat)(a:n<18446744073709551616):∃r,br n=48::120::r:=by obtain⟨ds,b,_⟩:=IP n a;exact⟨_,b⟩
def pS(M:List (List UInt8×Int))(v:Nat):List UInt8:=((M.find? λp=>p.2==(v:Int)).map (·.1)).getD []
def dc(M:List (List UInt8×Int))(v:Nat):List UInt8:=if pS M v=[] then br v else pS M v
def qj:List (List UInt8×Int):=[([120,54,52],3221225534),([120,56,54],1073741827),([97,54,52],3221225655),([97,114,109],1073741864)]
def C8:List UInt8:=[114,101,97,100]
def C9:List UInt8:=[119,114,105,116,101]
def Gz:List UInt8:=[111,112,101,110]
def C_:List UInt8:=[99,108,111,115,101]
def Db:List UInt8:=[101,120,105,116]
def GC:List UInt8:=[102,111,114,107]
def Dc:List UInt8:=[107,105,108,108]
def GD:List UInt8:=[109,109,97,112]
def GF(a:Nat):Option (List (List UInt8×Int)) :=
 if a=3221225534 then some [(C8,0),(C9,1),(Gz,2),(C_,3),(Db,60),(GC,57),(Dc,62),(GD,9)]
 else if a=1073741827 then some [(C8,3),(C9,4),(Gz,5),(C_,6),(Db,1),(GC,2),(Dc,37),(GD,90)]
 else if a=3221225655 then some [(C8,63),(C9,64),(C_,57),(Db,93),(Dc,129),(GD,222)]
 else if a=1073741864 then some [(C8,3),(C9,4),(Gz,5),(C_,6),(Db,1),(GC,2),(Dc,37)]
 else none
def pq(a:Nat):List (List UInt8×Int):=(GF a).getD []
structure iP (M:List (List UInt8×Int)):Prop where
 dk:(M.map (·.2)).Nodup
 keys:(M.map (·.1)).Nodup
 cO:∀p∈M,zW p.1/\p.1≠[]/\p.1.head?≠some 48/\p.1.length<=5/\0<=p.2/\p.2<4294967296
instance (w:List UInt8):Decidable (zW w):=inferInstanceAs (Decidable (∀b∈w,b≠32/\b≠10/\b.toNat<128))
def Ey:iP qj:=⟨ah9,ah9,ah9⟩
def IS:iP sW:=⟨ah9,ah9,ah9⟩
def Ez(a:Nat):iP (pq a):=by
 unfold pq GF
 repeat' split
 all_goals first|exact⟨ah9,ah9,ah9⟩
def zX{M:List (List UInt8×Int)}{v:Nat}(h:pS M v≠[]):(pS M v,(v:Int))∈M:=by
 unfold pS at h |-
 cases a:M.find? (λp=>p.2==(v:Int)) with
 | none=>rw[a] at h;simp at h
 | some p =>
  have b:=ab2 a
  have c:p.2=(v:Int):=by simpa using acV a
  simp[<-c,b]
def Lp{M:List (List UInt8×Int)}{s:List UInt8}{v:Int}(a:(M.map (·.1)).Nodup)(h:(s,v)∈M):M.find? (λp=>p.1==s)=some (s,v):=by
 induction M with
 | nil=>simp at h
 | cons p M b =>
  simp only[aba,adS] at a
  rcases aah.1 h with rfl|h
  .simp
  .have c:p.1≠s:=by rintro rfl;exact a.1 (aaE.2 ⟨_,h,rfl⟩)
   rw[List.find?_cons_of_neg (by simpa using c)];exact b a.2 h
def zpZ{M:List (List UInt8×Int)}(a:iP M){v:Nat}(b:v<18446744073709551616):zW (dc M v):=by
 unfold dc;split
 .exact Tb v b
 .rename_i h;exact(a.cO _ (zX h)).1
def Tc{M:List (List UInt8×Int)}(a:iP M){v:Nat}:(dc M v).length<=18:=by
 unfold dc;split
 .exact IQ v
 .rename_i h;have:=(a.cO _ (zX h)).2.2.2.1;simp only at this;omega
def zyh(v:Nat):BQ v=pS sW v:=rfl
def kO:List UInt8:=[101,114,114,111,114,58]
def iX(v:Nat):List UInt8:=if BQ v=[] then kO++br (v-327680) else BQ v
def zzM{v:Nat}(c:v<4294967296):zW (iX v):=by
 unfold iX;split
 .intro b a
  rcases aa2.1 a with h|h
  .have:zW kO:=by decide
   exact this b h
  .exact Tb (v-327680) an b h
 .rename_i h;exact(IS.cO _ (zX h)).1
def zDP(k:Nat):(kO++br k).length<=24:=by have:=IQ k;simp[kO];omega
def zBs{M:List (List UInt8×Int)}(a:iP M)(v:Nat):(pS M v).length<=5:=by
 by_cases h:pS M v=[]
 .rw[h];exact adB _
 .exact(a.cO _ (zX h)).2.2.2.1
def zv8{v:Nat}:(iX v).length<=24:=by
 unfold iX;split
 .exact zDP _
 .exact ad1 (zBs IS v) ah9
def aP:List (List UInt8)->List UInt8
 | []=>[]
 | [w]=>w
 | w::v::r=>w++32::aP (v::r)
def BR(w:List UInt8){r:List (List UInt8)}(h:r≠[]):aP (w::r)=w++32::aP r:=by
 cases r with
 | nil=>exact absurd rfl h
 | cons v r=>rfl
def zox:∀{a b:List (List UInt8)},a≠[]->b≠[]->aP (a++b)=aP a++32::aP b
 | [],_,h,_=>absurd rfl h
 | [w],b,_,h=>by rw[ac6,BR w h];rfl
 | w::v::r,b,_,h=>by
  rw[aa_,BR w ir,zox ir h];simp[aP]
def iY(c:Int):List UInt8:=if c=0 then [101,113] else if c=1 then [110,101] else if c=2 then [108,116] else if c=3 then [108,101] else if c=4 then [103,116] else [103,101]
def k9(c:Cd):List (List UInt8):=[[97,adA (48+c.arg.toNat)],br c.mask,iY c.cmp,br c.val]
def xP(k:Nat):List UInt8:=if k=0 then [105,102] else [97,110,100]
def jc:Nat->List Cd->List (List UInt8)
 | _,[]=>[]
 | k,c::l=>xP k::k9 c++jc (k+1) l
def qX(r:Ru):List (List UInt8):=[[111,110],dc qj r.aA,dc (pq r.aA) r.nr,iX r.act]++jc 0 r.conds
def IT(v:Nat):List (List UInt8):=[[100,101,102,97,117,108,116],iX v]
def zzN(c:Int):zW (iY c):=by
 unfold iY
 repeat' split
 all_goals decide
def zBt{c:Cd}(h:c.right=true):zW [97,adA (48+c.arg.toNat)]:=by
 simp only[Cd.right,decide_eq_true_eq] at h
 have:c.arg=0\/c.arg=1\/c.arg=2\/c.arg=3\/c.arg=4\/c.arg=5:=an
 rcases this with h|h|h|h|h|h<;>rw[h]<;>decide
def Zz{c:Cd}(h:c.right=true)(a:c.ok):∀w∈k9 c,zW w:=by
 intro w b;simp only[k9,aah,aa1,or_false] at b
 rcases b with rfl|rfl|rfl|rfl
 .exact zBt h
 .exact Tb _ a.1
 .exact zzN _
 .exact Tb _ a.2
def zxy(k:Nat):zW (xP k):=by unfold xP;split<;>decide
def zp0:∀{l:List Cd} {k:Nat},(∀c∈l,c.right=true/\c.ok)->∀w∈jc k l,zW w
 | [],k,_,w,a=>by simp[jc] at a
 | c::l,k,h,w,a=>by
  simp only[jc,aa_,aah,aa2] at a
  rcases a with rfl|a|a
  .exact zxy k
  .exact Zz (h c ir).1 (h c ir).2 w a
  .exact zp0 (λc b=>h c (by simp[b])) w a
def zzO{r:Ru}(b:∀c∈r.conds,c.right=true/\c.ok)(e:r.aA<4294967296)(f:r.nr<4294967296)(d:r.act<4294967296):∀w∈qX r,zW w:=by
 intro w a;simp only[qX,aa_,acq,aah] at a
 rcases a with rfl|rfl|rfl|rfl|a
 .decide
 .exact zpZ Ey an
 .exact zpZ (Ez _) an
 .exact zzM d
 .exact zp0 b w a
end Go.Ev
