/- A policy's code: plain. -/
import Derived.Test.YtbkhoemaobbplaaGreatDoorEvXW
import Derived.Test.YtbkhoemaobbplaaGreatDoorEvWinCW
set_option linter.defProp false
set_option linter.unusedSimpArgs false
set_option linter.unusedVariables false
set_option maxHeartbeats 32000000
set_option maxRecDepth 10000
open Nat renaming le_of_ble_eq_true→aaa,le_refl→aan,not_lt_zero→aa5,zero_le→aa7,zero_add→abl,lt_or_ge→abB,sub_self→abP,pow_le_pow_right→ab9,add_assoc→aca,add_zero→ace,eq_or_lt_of_le→acg,sub_zero→ack,div_eq_of_lt→acv,mod_eq_of_lt→acx
open List renaming getElem?_eq_getElem→aab,getElem?_eq_some_iff→aae,mem_map→aah,mem_cons→aal,getElem?_append_left→aam,take_of_length_le→aap,mem_of_getElem?→aaq,mem_append→aat,cons_append→aau,map_append→aav,getElem?_append_right→aaw,length_cons→aay,getElem?_set_ne→aaz,mem_singleton→aaA,length_eq_zero_iff→aaE,getElem?_set_self→aaF,nodup_append→aaG,takeWhile_append_dropWhile→aaH,map_cons→aaI,length_take→aaL,length_append→aaM,set_append_right→aaQ,nil_append→aaT,mem_of_mem_tail→aaU,mem_of_mem_drop→aaV,take_add_one→aaW,length_pos_iff→aaX,take_length→aaY,concat_eq_append→aa0,takeWhile_cons_of_pos→aa2,mem_of_find?_eq_some→aa3,mem_filter→aa4,getElem?_map→aa_,eq_nil_or_concat→aba,filter_cons→abb,drop_eq_getElem_cons→abh,length_set→abi,append_nil→abk,cons→abm,append_assoc→abq,find?_cons_of_neg→abr,not_mem_nil→abt,take_append_drop→abv,length_filter_le→abx,foldl_cons→abz,mem_of_mem_take→abA,set_append_left→abC,pairwise_cons→abE,filter_append→abF,getElem?_set→abG,all_eq_true→abK,drop_length→abO,length_drop→abQ,append_cancel_left→abU,nodup_cons→abZ,length_map→ab0,find?_some→ab1,length_nil→ab3,filter_eq_nil_iff→ab4,drop_eq_nil_of_le→ab5,drop_zero→ab6,pairwise_append→ab7,drop_eq_nil_iff→ab_,map_congr_left→acb,find?_eq_none→ach,getElem?_drop→aci,map_nil→acj,foldl_append→acp,all_eq_false→acr,ext_getElem?→acs,perm_middle→acu,find?_cons→acy,headD_cons→acz,drop_drop→acC,tail_cons→acD,map_map→acE
open Int renaming natCast_add→aad,natCast_mul→abe,natCast_ediv→abI
open Option renaming map→aax,isSome_iff_exists→aaD,some→aaK,map_eq_some_iff→aa8,not_isNone→aa9,getD_none→abH,getD_some→abJ,map_some→acA
open Bool renaming and_eq_true→aaB,eq_iff_iff→aaS,false_eq_true→aa6,false_or→abc,or_eq_false_iff→abD
open Function renaming comp_def→aaJ
open UInt8 renaming ofNat→aaZ,toNat_inj→abd,toNat_ofNat'→abn,toNat→acF
open Prod renaming ext→abS,mk→acB
open BitVec renaming toNat_ofNat→acd
namespace Go.Ev
open Go Go.RowKit
def vK(l:List Nat)(a:Nat):List Nat:=if a∈l then l else l++[a]
def CR(l:List Nat):List Nat:=l.foldl vK []
def zpt(l:List Nat)(a:Nat):CR (l++[a])=vK (CR l) a:=by simp[CR,acp]
def zpu(a:Nat):∀(l c:List Nat),a∈l.foldl vK c↔a∈c\/a∈l
 | [],c=>by simp
 | b::l,c=>by
  rw[abz,zpu a l];unfold vK;split
  ·rename_i h;rw[aal];constructor
   ·rintro(d|d)
    ·exact .inl d
    ·exact .inr (.inr d)
   ·rintro(d|rfl|d)
    ·exact .inl d
    ·exact .inl h
    ·exact .inr d
  ·simp[or_assoc]
def CS(l:List Nat)(a:Nat):a∈CR l↔a∈l:=by rw[CR,zpu];simp
def znn:∀(l a:List Nat),a.Nodup->(l.foldl vK a).Nodup
 | [],a,h=>h
 | b::l,a,h=>by
  rw[abz];refine znn l _ ?_;unfold vK;split
  ·exact h
  ·rename_i d;rw[aaG];exact⟨h,ir,fun x f y c e=>d (by rw[aaA] at c;rw[<-c,<-e];exact f)⟩
def Lc(l:List Nat):(CR l).Nodup:=znn l [] ir
def OJ:∀(l a:List Nat),(l.foldl vK a).length<=a.length+l.length
 | [],a=>by simp
 | b::l,a=>by
  rw[abz];have:=OJ l (vK a b)
  have c:(vK a b).length<=a.length+1:=by unfold vK;split<;>simp
  simp only[aay];omega
def sD(x:Nat)(l:List Nat):List Nat:=l.takeWhile (fun y=>decide (y<=x))++x::l.dropWhile (fun y=>decide (y<=x))
def kY(l:List Nat):List Nat:=l.foldl (fun a x=>sD x a) []
def zA2(x:Nat)(l:List Nat):(sD x l).Perm (x::l):=by unfold sD;refine acu.trans ?_;rw[aaH]
def zrh:∀(l a:List Nat),(l.foldl (fun a x=>sD x a) a).Perm (a++l)
 | [],a=>by simp
 | x::l,a=>by
  rw[abz];refine(zrh l _).trans ?_;refine((zA2 x a).append_right l).trans ?_;rw[aau];exact acu.symm
def IY(l:List Nat):(kY l).Perm l:=by have:=zrh l [];simpa[kY] using this
def zxO(x:Nat):∀{l:List Nat},l.Pairwise (·<=·)->∀ y∈l.dropWhile (fun y=>decide (y<=x)),x<=y
 | [],_,y,a=>by simp at a
 | b::l,h,y,a=>by
  rw[List.dropWhile_cons] at a;split at a
  ·exact zxO x (abE.1 h).2 y a
  ·rename_i c;simp only[decide_eq_true_eq] at c
   rcases aal.1 a with rfl|a
   ·omega
   ·have:=(abE.1 h).1 y a;omega
def zsk(x:Nat):∀{l:List Nat},∀ y∈l.takeWhile (fun y=>decide (y<=x)),y<=x
 | [],y,a=>by simp at a
 | b::l,y,a=>by
  rw[List.takeWhile_cons] at a;split at a
  ·rename_i c;simp only[decide_eq_true_eq] at c
   rcases aal.1 a with rfl|a
   ·exact c
   ·exact zsk x y a
  ·simp at a
def zwF(x:Nat){l:List Nat}(h:l.Pairwise (·<=·)):(sD x l).Pairwise (·<=·):=by
 have c:=h;rw[<-aaH (p:=fun y=>decide (y<=x)) (l:=l),ab7] at c;obtain⟨e,f,g⟩:=c;unfold sD;rw[ab7,abE];refine⟨e,⟨zxO x h,f⟩,fun a d b hb=>?_⟩
 rcases aal.1 hb with rfl|hb
 ·exact zsk _ a d
 ·exact g a d b hb
def zom:∀(l a:List Nat),a.Pairwise (·<=·)->(l.foldl (fun a x=>sD x a) a).Pairwise (·<=·)
 | [],a,h=>h
 | x::l,a,h=>zom l _ (zwF x h)
def zvJ{l:List Nat}(h:l.Nodup):(kY l).Pairwise (·<·):=by have c:=zom l [] List.Pairwise.nil;have d:(kY l).Nodup:=(IY l).nodup_iff.2 h;refine List.Pairwise.imp₂ ?_ c d;intro a b e f;exact Nat.lt_of_le_of_ne e f
def fM(rs:List Ru)(a:Nat):List Nat:=CR ((rs.filter fun r=>decide (r.aA=a)).map (·.nr))
def eJ(rs:List Ru):List Nat:=CR (rs.map (·.aA))
def eX(rs:List Ru)(a n:Nat):List Ru:=rs.filter fun r=>decide (r.aA=a/\r.nr=n)
def bE(R:Nat->List Ru)(o:Nat):List Nat->List af->List af×List (Nat×Nat)
 | [],c=>(c,[])
 | n::l,c=>((bE R o l (nO (R n) (c,o)).1).1,(n,(nO (R n) (c,o)).2)::(bE R o l (nO (R n) (c,o)).1).2)
def sn(rs:List Ru)(o a:Nat)(c:List af):List af :=
 bt (bC (bE (eX rs a) o (kY (fM rs a)) c).2.length (bE (eX rs a) o (kY (fM rs a)) c).1 (bE (eX rs a) o (kY (fM rs a)) c).2 o).1 32 0
def jo(rs:List Ru)(o:Nat):List Nat->List af->List af×List (Nat×Nat)
 | [],c=>(c,[])
 | a::l,c=>((jo rs o l (sn rs o a c)).1,(a,(sn rs o a c).length)::(jo rs o l (sn rs o a c)).2)
def df:List (Nat×Nat)->rB->rB
 | [],s=>s
 | x::l,s=>df l (f_ s.1 21 x.1 x.2 s.2,(f_ s.1 21 x.1 x.2 s.2).length)
def kF(p:Po):List af :=
 if(jo p.rules 1 (eJ p.rules) (bt [] 6 p.cF)).2=[] then(df (jo p.rules 1 (eJ p.rules) (bt [] 6 p.cF)).2 ((jo p.rules 1 (eJ p.rules) (bt [] 6 p.cF)).1,1)).1
 else bt (df (jo p.rules 1 (eJ p.rules) (bt [] 6 p.cF)).2 ((jo p.rules 1 (eJ p.rules) (bt [] 6 p.cF)).1,1)).1 32 4
def ix(w:Ru->Nat):List Ru->Nat
 | []=>0
 | r::l=>w r+ix w l
def Gm(r:Ru):Nat:=1+13*r.conds.length
def zxP:∀ l:List Ru,uT l=ix Gm l
 | []=>rfl
 | r::l=>by rw[uT,ix,zxP l,Gm]
def eY{α:Type}(g:α->Nat):List α->Nat
 | []=>0
 | x::l=>g x+eY g l
def zvK(g:Nat->Nat)(k c:Nat):∀{l:List Nat},l.Nodup->eY (fun n=>(if k=n then c else 0)+g n) l<=c+eY g l
 | [],_=>by simp[eY]
 | x::l,h=>by
  rw[abZ] at h;simp only[eY]
  by_cases e:k=x
  ·subst e
   have d:∀{l:List Nat},k∉l->eY (fun n=>(if k=n then c else 0)+g n) l=eY g l:=by
    intro l
    induction l with
    | nil=>intro _;rfl
    | cons y l b =>
     intro a;simp only[aal,not_or] at a;simp only[eY,if_neg a.1,b a.2,abl]
   rw[d h.1,if_pos rfl];omega
  ·have b:=zvK g k c h.2;rw[if_neg e];omega
def zxQ{α:Type}{f g:α->Nat}:∀{l:List α},(∀ x∈l,f x<=g x)->eY f l<=eY g l
 | [],_=>aan _
 | x::l,h=>by
  have:=zxQ (l:=l) fun y a=>h y (by simp[a]);have:=h x ir;simp only[eY];omega
def zm1{α:Type}{f g:α->Nat}:∀{l:List α},(∀ x∈l,f x=g x)->eY f l=eY g l
 | [],_=>rfl
 | x::l,h=>by simp only[eY,h x ir,zm1 (l:=l) fun y a=>h y (by simp[a])]
def zp8(w:Ru->Nat)(key:Ru->Nat){l:List Nat}(a:l.Nodup):∀ rs:List Ru,eY (fun n=>ix w (rs.filter fun r=>decide (key r=n))) l<=ix w rs
 | []=>by
  have:∀ l:List Nat,eY (fun n=>ix w ([].filter fun r=>decide (key r=n))) l=0:=by
   intro l;induction l with
   | nil=>rfl
   | cons x l b=>simp only[eY,b];rfl
  rw[this];exact aa7 _
 | r::rs=>by
  have b:=zp8 w key a rs
  have e:∀ n,ix w ((r::rs).filter fun r=>decide (key r=n))=(if key r=n then w r else 0)+ix w (rs.filter fun r=>decide (key r=n)):=by
   intro n;rw[abb]
   by_cases h:key r=n<;>simp[h,ix]
  rw[zm1 fun n _=>e n];have:=zvK (fun n=>ix w (rs.filter fun r=>decide (key r=n))) (key r) (w r) a;simp only[ix];omega
def zyU(rs:List Ru)(a n:Nat):eX rs a n=(rs.filter fun r=>decide (r.aA=a)).filter fun r=>decide (r.nr=n):=by
 rw[List.filter_filter];unfold eX
 congr 1
 funext r
 rw[aaS];simp[and_comm]
def zA3(rs:List Ru)(a:Nat):(fM rs a).length<=ix (fun _=>1) (rs.filter fun r=>decide (r.aA=a)):=by
 have h:∀ l:List Ru,ix (fun _=>1) l=l.length:=by
  intro l;induction l with
  | nil=>rfl
  | cons x l b=>simp only[ix,b,aay];omega
 rw[h]
 have:=OJ ((rs.filter fun r=>decide (r.aA=a)).map (·.nr)) []
 simpa[fM,CR] using this
section
variable {rs:List Ru} {o:Nat}
def CT(R:Nat->List Ru)(l:List Nat):Nat:=eY (fun n=>uT (R n)) l
def IZ{R:Nat->List Ru}:∀{l:List Nat} {c:List af},(∀ n∈l,∀ r∈R n,r.dc)->(1<=o/\o<=c.length)->Came c ((bE R o l c).1,o) (CT R l)/\kX (bE R o l c).1 (bE R o l c).2/\(bE R o l c).2.map (·.1)=l
 | [],c,_,h=>⟨Came.self h,by intro e he;simp[bE] at he,rfl⟩
 | n::l,c,j,g=>by
  have d:=K7 (l:=R n) (s:=(c,o)) (j n ir) g;have i:=d.grown.len;obtain⟨f,k,p⟩:=IZ (l:=l) (c:=(nO (R n) (c,o)).1) (fun m q=>j m (by simp[q])) ⟨g.1,by have:=g.2;simp only at i;omega⟩;have t:=f.grown.len
  refine⟨⟨(d.grown.trans f.grown).mono (by simp[CT,eY]),f.jB,fun a b=>f.sound (d.sound a (by simp only[CT,eY] at b;simp only;omega)) (by simp only[CT,eY] at b |-;simp only at i;omega),
   fun a b=>f.ks (d.ks a (by simp only[CT,eY] at b;simp only;omega)) (by simp only[CT,eY] at b |-;simp only at i;omega)⟩,?_,by simp only[bE,aaI,p]⟩
  intro e he;simp only[bE,aal] at he |-
  rcases he with rfl|he
  ·exact⟨d.jB.1,by have:=d.jB.2;simp only at t |-;omega⟩
  ·exact k e he
def zvL{R:Nat->List Ru}{d:Da}(hd:d.ok){v0:Nat}:∀{l:List Nat} {c:List af},(∀ n∈l,∀ r∈R n,r.dc)->(1<=o/\o<=c.length)->qj d c o v0->∀ e∈(bE R o l c).2,qj d (bE R o l c).1 e.2 (zx d v0 (R e.1))
 | [],c,_,_,_,e,he=>by simp[bE] at he
 | n::l,c,b,a,h,e,he=>by
  have f:=K7 (l:=R n) (s:=(c,o)) (b n ir) a;have j:=f.grown.len;have i:1<=o/\o<=(nO (R n) (c,o)).1.length:=⟨a.1,by have:=a.2;simp only at j;omega⟩;obtain⟨k,q,t⟩:=IZ (R:=R) (l:=l) (c:=(nO (R n) (c,o)).1) (fun m g=>b m (by simp[g])) i;have p:=zvL hd (R:=R) (l:=l) (c:=(nO (R n) (c,o)).1) (fun m g=>b m (by simp[g])) i (h.grown f.grown a.2);simp only[bE,aal] at he |-
  rcases he with rfl|he
  ·exact(zti hd (l:=R n) (s:=(c,o)) (b n ir) a h).grown k.grown f.jB.2
  ·exact p e he
def zp9{R:Nat->List Ru}{l:List Nat}{c:List af}(h:(bE R o l c).2.map (·.1)=l):(bE R o l c).2.length=l.length:=by rw[<-ab0 (f:=(·.1)),h]
def En(rs:List Ru)(a:Nat):Nat:=CT (eX rs a) (kY (fM rs a))+6*(fM rs a).length
def O7{l:List Nat}{x:Nat}:x∈kY l↔x∈l:=(IY l).mem_iff
def OI{a:Nat}(h:a∈eJ rs):fM rs a≠[]:=by
 rw[eJ,CS,aah] at h;obtain⟨r,b,rfl⟩:=h;intro e
 have:r.nr∈fM rs r.aA:=by rw[fM,CS,aah];exact⟨r,aa4.2 ⟨b,ir⟩,rfl⟩
 rw[e] at this;simp at this
def O8(b:∀ r∈rs,r.dc){a n:Nat}(h:n∈fM rs a):n<4294967296:=by rw[fM,CS,aah] at h;obtain⟨r,c,rfl⟩:=h;exact(b r (aa4.1 c).1).2.2.1
def I0(b:∀ r∈rs,r.dc){a n:Nat}:∀ r∈eX rs a n,r.dc:=fun r c=>b r (aa4.1 c).1
def zop(d:∀ r∈rs,r.dc){a:Nat}(f:a∈eJ rs){c:List af}(i:1<=o/\o<=c.length):Came c (sn rs o a c,(sn rs o a c).length) (En rs a):=by
 obtain⟨g,j,b⟩:=IZ (R:=eX rs a) (l:=kY (fM rs a)) (c:=c) (fun _ _=>I0 d) i
 have m:(bE (eX rs a) o (kY (fM rs a)) c).2≠[]:=by intro e;rw[e] at b;have h:=(IY (fM rs a)).length_eq;rw[<-b] at h;exact OI f (aaE.1 (by simpa using h.symm))
 have n:=zp9 b;rw[(IY _).length_eq] at n;have s:0<(fM rs a).length:=aaX.2 (OI f);have t:=Ef (o:=o) _ m (aan _) j (fun e q=>O8 d (a:=a) (O7.1 (by rw[<-b];exact aah.2 ⟨e,q,rfl⟩))) g.jB;have p:=SD (c:=(bC (bE (eX rs a) o (kY (fM rs a)) c).2.length (bE (eX rs a) o (kY (fM rs a)) c).1 (bE (eX rs a) o (kY (fM rs a)) c).2 o).1) (op:=32) (k:=0) (.inr (.inr ⟨rfl,by decide,by decide⟩)) (by decide)
 exact((g.trans t).trans p).mono (by unfold En;omega)
def zDk(n:Nat)(c:List af)(l:List (Nat×Nat)):(bC (n+1) c l o).2=(bC (n+1) c l o).1.length:=by
 unfold bC
 split<;>rfl
def zEv(d:Da):(ui d 0).1=d.nr/\(ui d 4).1=d.aA:=by constructor<;>simp[ui,j_]
def zsl{a n:Nat}(h:n∉fM rs a):eX rs a n=[]:=by rw[eX,ab4];intro r c b;simp only[decide_eq_true_eq] at b;refine h ?_;rw[fM,CS,aah];exact⟨r,aa4.2 ⟨c,by simp[b.1]⟩,b.2⟩
def zDl(g:∀ r∈rs,r.dc){a:Nat}(w:a∈eJ rs){c:List af}(i:1<=o/\o<=c.length){d:Da}(hd:d.ok){v0:Nat}(f:qj d c o v0):qj d (sn rs o a c) (sn rs o a c).length (zx d v0 (eX rs a d.nr)):=by
 obtain⟨j,v,b⟩:=IZ (R:=eX rs a) (l:=kY (fM rs a)) (c:=c) (fun _ _=>I0 g) i;have x:=zvL hd (R:=eX rs a) (l:=kY (fM rs a)) (c:=c) (fun _ _=>I0 g) i f
 have k:(bE (eX rs a) o (kY (fM rs a)) c).2≠[]:=by intro e;rw[e] at b;have f:=(IY (fM rs a)).length_eq;rw[<-b] at f;exact OI w (aaE.1 (by simpa using f.symm))
 have t:=Y8 (o:=o) (a:=d.nr) (v0:=v0) (vs:=fun n=>zx d v0 (eX rs a n)) _ k (aan _) v (fun e p=>O8 g (a:=a) (O7.1 (by rw[<-b];exact aah.2 ⟨e,p,rfl⟩))) j.jB
  (by rw[b];exact zvJ (Lc _)) (f.grown j.grown i.2) x
 have A:=Ef (o:=o) _ k (aan _) v (fun e p=>O8 g (a:=a) (O7.1 (by rw[<-b];exact aah.2 ⟨e,p,rfl⟩))) j.jB
 have q:(bC (bE (eX rs a) o (kY (fM rs a)) c).2.length (bE (eX rs a) o (kY (fM rs a)) c).1 (bE (eX rs a) o (kY (fM rs a)) c).2 o).2=(bC (bE (eX rs a) o (kY (fM rs a)) c).2.length (bE (eX rs a) o (kY (fM rs a)) c).1 (bE (eX rs a) o (kY (fM rs a)) c).2 o).1.length:=by obtain⟨m,u⟩:∃ m,(bE (eX rs a) o (kY (fM rs a)) c).2.length=m+1:=⟨_,(Nat.succ_pred_eq_of_pos (aaX.2 k)).symm⟩;rw[u];exact zDk _ _ _
 have y:z9 v0 (fun n=>zx d v0 (eX rs a n)) d.nr (bE (eX rs a) o (kY (fM rs a)) c).2=zx d v0 (eX rs a d.nr):=by
  unfold z9;rw[b];split
  ·rfl
  ·rename_i h;rw[zsl (fun u=>h (O7.2 u))];rfl
 intro s z;rw[zu,sn,Sx,(zEv d).1];have:=t { s with a:=d.nr } (St.Ea z hd.1) rfl;rw[q,zu,y] at this;exact this
def BI(rs:List Ru)(l:List Nat):Nat:=eY (En rs) l
def Ld(j:∀ r∈rs,r.dc):∀{l:List Nat} {c:List af},(∀ a∈l,a∈eJ rs)->(1<=o/\o<=c.length)->Came c ((jo rs o l c).1,o) (BI rs l)/\kX (jo rs o l c).1 (jo rs o l c).2/\(jo rs o l c).2.map (·.1)=l
 | [],c,_,h=>⟨Came.self h,by intro e he;simp[jo] at he,rfl⟩
 | a::l,c,k,g=>by
  have d:=zop j (k a ir) g;have i:=d.grown.len;obtain⟨f,n,p⟩:=Ld j (l:=l) (c:=sn rs o a c) (fun m q=>k m (by simp[q])) ⟨g.1,by have:=g.2;simp only at i;omega⟩;have s:=f.grown.len
  refine⟨⟨(d.grown.trans f.grown).mono (by simp[BI,eY]),f.jB,fun a b=>f.sound (d.sound a (by simp only[BI,eY] at b;omega)) (by simp only[BI,eY] at b |-;simp only at i;omega),
   fun a b=>f.ks (d.ks a (by simp only[BI,eY] at b;omega)) (by simp only[BI,eY] at b |-;simp only at i;omega)⟩,?_,by simp only[jo,aaI,p]⟩
  intro e he;simp only[jo,aal] at he |-
  rcases he with rfl|he
  ·exact⟨d.jB.1,by have:=d.jB.2;simp only at s |-;omega⟩
  ·exact n e he
def ztx(f:∀ r∈rs,r.dc){d:Da}(hd:d.ok){v0:Nat}:∀{l:List Nat} {c:List af},(∀ a∈l,a∈eJ rs)->(1<=o/\o<=c.length)->qj d c o v0->∀ e∈(jo rs o l c).2,qj d (jo rs o l c).1 e.2 (zx d v0 (eX rs e.1 d.nr))
 | [],c,_,_,_,e,he=>by simp[jo] at he
 | a::l,c,g,b,j,e,he=>by
  have h:=zop f (g a ir) b;have n:=h.grown.len;have k:1<=o/\o<=(sn rs o a c).length:=⟨b.1,by have:=b.2;simp only at n;omega⟩;obtain⟨p,s,t⟩:=Ld f (l:=l) (c:=sn rs o a c) (fun m i=>g m (by simp[i])) k;have q:=ztx f hd (l:=l) (c:=sn rs o a c) (fun m i=>g m (by simp[i])) k (j.grown h.grown b.2);simp only[jo,aal] at he |-
  rcases he with rfl|he
  ·exact(zDl f (g a ir) b hd j).grown p.grown h.jB.2
  ·exact q e he
def SO:∀{l:List (Nat×Nat)} {s:rB},kX s.1 l->(∀ e∈l,e.1<4294967296)->(1<=s.2/\s.2<=s.1.length)->Came s.1 (df l s) (3*l.length)
 | [],s,_,_,h=>Came.self h
 | x::l,s,d,f,g=>by
  have b:=SG (c:=s.1) (op:=21) (k:=x.1) (.inl rfl) (f x ir) (d x ir) g;have i:=SO (l:=l) (s:=(f_ s.1 21 x.1 x.2 s.2,(f_ s.1 21 x.1 x.2 s.2).length)) ((show kX s.1 l from fun e a=>d e (by simp[a])).grown b.grown) (fun e a=>f e (by simp[a])) b.jB;exact(b.trans i).mono (by simp only[aay];omega)
def zty{d:Da}{a:Nat}{vs:Nat->Nat}:∀{l:List (Nat×Nat)} {s:rB} {v0:Nat},kX s.1 l->(∀ e∈l,e.1<4294967296)->(1<=s.2/\s.2<=s.1.length)->Gd d s.1 s.2 a v0->(∀ e∈l,qj d s.1 e.2 (vs e.1))->Gd d (df l s).1 (df l s).2 a (z9 v0 vs a l)
 | [],s,v0,_,_,_,h,_=>by simpa[df,z9] using h
 | x::l,s,v0,g,i,j,u,n=>by
  have b:=SG (c:=s.1) (op:=21) (k:=x.1) (.inl rfl) (i x ir) (g x ir) j
  have hd:Gd d (f_ s.1 21 x.1 x.2 s.2) (f_ s.1 21 x.1 x.2 s.2).length a (if a=x.1 then vs x.1 else v0):=by
   intro t o p;rw[zu,K2 (.inl rfl) (g x ir) j];simp only[takeN,if_true,p]
   by_cases q:a=x.1
   ·simp[q];exact n x ir t o
   ·simp[q];exact u t o p
  have r:=(show kX s.1 l from fun e f=>g e (by simp[f]));have v:=zty (vs:=vs) (l:=l) (s:=(f_ s.1 21 x.1 x.2 s.2,(f_ s.1 21 x.1 x.2 s.2).length)) (r.grown b.grown) (fun e f=>i e (by simp[f])) b.jB hd (fun e f=>(n e (by simp[f])).grown b.grown (r e f).2)
  have e:z9 v0 vs a (x::l)=z9 (if a=x.1 then vs x.1 else v0) vs a l:=by
   unfold z9;simp only[aaI,aal]
   by_cases q:a=x.1
   ·subst q;simp
   ·by_cases m:a∈l.map (·.1)
    ·rw[if_pos (.inr m),if_pos m]
    ·rw[if_neg (fun h=>h.elim q m),if_neg m,if_neg q]
  rw[e];exact v
end
def Po.dc(p:Po):Prop:=(∀ r∈p.rules,r.dc)/\p.cF<4294967296
def Em(p:Po):Nat:=BI p.rules (eJ p.rules)+3*(eJ p.rules).length+1
def Tm(d:Da)(p:Po):Nat:=zx d p.cF (eX p.rules d.aA d.nr)
def zxR{w v:Ru->Nat}:∀{l:List Ru},(∀ r∈l,w r<=v r)->ix w l<=ix v l
 | [],_=>aan _
 | r::l,h=>by
  have:=zxR (l:=l) fun y a=>h y (by simp[a]);have:=h r ir;simp only[ix];omega
def zvM(w v:Ru->Nat):∀ l:List Ru,ix (fun r=>w r+v r) l=ix w l+ix v l
 | []=>rfl
 | r::l=>by simp only[ix,zvM w v l];omega
def Tn(k:Nat):∀ l:List Ru,ix (fun _=>k) l=k*l.length
 | []=>rfl
 | r::l=>by simp only[ix,Tn k l,aay,Nat.mul_add];omega
def zDm(rs:List Ru)(a:Nat):En rs a<=ix (fun r=>Gm r+6) (rs.filter fun r=>decide (r.aA=a)):=by
 have c:=zp8 Gm (·.nr) (l:=kY (fM rs a)) ((IY _).nodup_iff.2 (Lc _)) (rs.filter fun r=>decide (r.aA=a))
 have b:=zA3 rs a;rw[Tn] at b;rw[zvM,Tn]
 have e:CT (eX rs a) (kY (fM rs a))=eY (fun n=>ix Gm ((rs.filter fun r=>decide (r.aA=a)).filter fun r=>decide (r.nr=n))) (kY (fM rs a)) :=
  zm1 fun n _=>by rw[zxP,zyU]
 unfold En;rw[e];omega
def Zr(rs:List Ru):(eJ rs).length<=rs.length:=by
 have:=OJ (rs.map (·.aA)) []
 simpa[eJ,CR] using this
def Zv{p:Po}(e:p.rules.length<=64)(b:∀ r∈p.rules,r.conds.length<=4):Em p<=4095:=by
 have f:=zxQ (l:=eJ p.rules) fun a _=>zDm p.rules a
 have g:=zp8 (fun r=>Gm r+6) (·.aA) (l:=eJ p.rules) (Lc _) p.rules
 have c:=zxR (w:=fun r=>Gm r+6) (v:=fun _=>59) (l:=p.rules) fun r d=>by have:=b r d;simp only[Gm];omega
 rw[Tn] at c;have h:=Zr p.rules;unfold Em BI;omega
def dM(d:Da)(r:Ru):Bool:=Cd.ko d r.conds&&decide (r.aA=d.aA)&&decide (r.nr=d.nr)
def zrj(d:Da)(v0:Nat):∀ rs:List Ru,zx d v0 (eX rs d.aA d.nr)=((rs.find? (dM d)).map (·.act)).getD v0
 | []=>rfl
 | r::rs=>by
  have c:=zrj d v0 rs;unfold eX at c |-;rw[abb,acy]
  by_cases h:r.aA=d.aA/\r.nr=d.nr
  ·rw[if_pos (by simpa using h)];cases b:Cd.ko d r.conds
   ·have a:dM d r=false:=by simp[dM,b]
    simp only[zx,b,a];simpa using c
   ·have a:dM d r=true:=by simp[dM,b,h]
    simp[zx,b,a]
  ·rw[if_neg (by simpa using h)]
   have a:dM d r=false:=by
    cases e:dM d r with
    | false=>rfl
    | true=>simp only[dM,aaB,decide_eq_true_eq] at e;exact absurd ⟨e.1.2,e.2⟩ h
   rw[a];exact c
def zA4(k:Nat):dB (bt [] 6 k)=true:=by
 have b:(rN 6).map (fun r=>(r.2.2.1,r.2.2.2))=some (true,false):=by decide
 rw[aa8] at b;obtain⟨r,c,a⟩:=b;simp only[acB.injEq] at a;simp[dB,bt,jP,fg,jX,nH,kA,c,a.1,a.2,bf,gL]
 done
def ztz:∀{l:List (Nat×Nat)} {s:rB},l≠[]->(df l s).2=(df l s).1.length
 | [],_,h=>absurd rfl h
 | [x],s,_=>rfl
 | x::y::l,s,_=>ztz (l:=y::l) ir
def zpv{p:Po}(d:p.dc):nN (bt [] 6 p.cF) (kF p) (Em p)/\(Em p<=4095->dB (kF p)=true/\yA (kF p)):=by
 obtain⟨m,u,g⟩:=Ld (rs:=p.rules) (o:=1) d.1 (l:=eJ p.rules) (c:=bt [] 6 p.cF) (fun _ h=>h) ⟨aan _,aan _⟩
 have v:∀ e∈(jo p.rules 1 (eJ p.rules) (bt [] 6 p.cF)).2,e.1<4294967296:=by
  intro e a
  have:e.1∈eJ p.rules:=by rw[<-g];exact aah.2 ⟨e,a,rfl⟩
  rw[eJ,CS,aah] at this;obtain⟨r,w,h⟩:=this;rw[<-h];exact(d.1 r w).2.1
 have x:=SO (s:=((jo p.rules 1 (eJ p.rules) (bt [] 6 p.cF)).1,1)) u v m.jB
 have b:(jo p.rules 1 (eJ p.rules) (bt [] 6 p.cF)).2.length=(eJ p.rules).length:=by rw[<-ab0 (f:=(·.1)),g]
 have n:=zA4 p.cF;have q:yA (bt [] 6 p.cF):=K6 d.2 (fun y z=>by simp at z);have t:(bt [] 6 p.cF).length=1:=rfl
 by_cases a:(jo p.rules 1 (eJ p.rules) (bt [] 6 p.cF)).2=[]
 ·have A:eJ p.rules=[]:=by rw[<-g,a];rfl
  have i:kF p=bt [] 6 p.cF:=by unfold kF;rw[if_pos a,a,A];rfl
  rw[i];exact⟨(nN.refl _).mono (aa7 _),fun _=>⟨n,q⟩⟩
 ·have B:=SD (c:=(df (jo p.rules 1 (eJ p.rules) (bt [] 6 p.cF)).2 ((jo p.rules 1 (eJ p.rules) (bt [] 6 p.cF)).1,1)).1) (op:=32) (k:=4) (.inr (.inr ⟨rfl,by decide,by decide⟩)) (by decide);have j:=((m.trans x).trans B).mono (show _<=Em p by rw[b];exact aan _)
  have i:kF p=bt (df (jo p.rules 1 (eJ p.rules) (bt [] 6 p.cF)).2 ((jo p.rules 1 (eJ p.rules) (bt [] 6 p.cF)).1,1)).1 32 4:=by unfold kF;rw[if_neg a]
  rw[i];exact⟨j.grown,fun C=>⟨j.sound n (by rw[t];omega),j.ks q (by rw[t];omega)⟩⟩
def zyV{p:Po}(j:p.dc):nN (bt [] 6 p.cF) (kF p) (Em p)/\(Em p<=4095->dB (kF p)=true/\yA (kF p))/\∀ d:Da,d.ok->qj d (kF p) (kF p).length (Tm d p):=by
 obtain⟨f,g⟩:=zpv j;obtain⟨q,v,k⟩:=Ld (rs:=p.rules) (o:=1) j.1 (l:=eJ p.rules) (c:=bt [] 6 p.cF) (fun _ h=>h) ⟨aan _,aan _⟩
 have w:∀ e∈(jo p.rules 1 (eJ p.rules) (bt [] 6 p.cF)).2,e.1<4294967296:=by
  intro e b
  have:e.1∈eJ p.rules:=by rw[<-k];exact aah.2 ⟨e,b,rfl⟩
  rw[eJ,CS,aah] at this;obtain⟨r,i,h⟩:=this;rw[<-h];exact(j.1 r i).2.1
 have m:∀ d:Da,qj d (bt [] 6 p.cF) 1 p.cF:=fun d=>zxt d [] p.cF;have x:∀ d:Da,d.ok->_:=fun d hd=>ztx (rs:=p.rules) (o:=1) j.1 hd (l:=eJ p.rules) (c:=bt [] 6 p.cF) (fun _ h=>h) ⟨aan _,aan _⟩ (m d)
 by_cases b:(jo p.rules 1 (eJ p.rules) (bt [] 6 p.cF)).2=[]
 ·have t:eJ p.rules=[]:=by rw[<-k,b];rfl
  have i:p.rules=[]:=by
   cases y:p.rules with
   | nil=>rfl
   | cons r l =>
    have:r.aA∈eJ p.rules:=by rw[eJ,CS];exact aah.2 ⟨r,by rw[y];simp,rfl⟩
    rw[t] at this;simp at this
  have n:kF p=bt [] 6 p.cF:=by unfold kF;rw[if_pos b,b,t];rfl
  refine⟨f,g,fun d hd=>?_⟩;rw[n]
  have:Tm d p=p.cF:=by unfold Tm eX;rw[i];rfl
  rw[this];exact m d
 ·have n:kF p=bt (df (jo p.rules 1 (eJ p.rules) (bt [] 6 p.cF)).2 ((jo p.rules 1 (eJ p.rules) (bt [] 6 p.cF)).1,1)).1 32 4:=by unfold kF;rw[if_neg b]
  have z:=ztz (s:=((jo p.rules 1 (eJ p.rules) (bt [] 6 p.cF)).1,1)) b;refine⟨f,g,fun d hd=>?_⟩;rw[n];have A:=zty (a:=d.aA) (vs:=fun a=>zx d p.cF (eX p.rules a d.nr)) v w q.jB ((m d).grown q.grown (aan _) |>.dep d.aA) (x d hd);intro s B;rw[zu,Sx,(zEv d).2];have:=A { s with a:=d.aA } (St.Ea B hd.2.1) rfl;rw[z,zu] at this;rw[this];unfold z9 Tm;rw[k];split
  ·rfl
  ·rename_i h
   have:eX p.rules d.aA d.nr=[]:=by rw[eX,ab4];intro r i u;simp only[decide_eq_true_eq] at u;exact h (by rw[eJ,CS,aah];exact⟨r,i,u.1⟩)
   rw[this];rfl
open Go Go.RowKit
variable {G:aM}
def eg(v:Nat):Bool:=decide (v=0\/v=196608\/v=2147221504\/v=2147418112\/327680<=v/\v<=331775)
def sE:List (List UInt8×Int):=[([107,105,108,108],0),([116,114,97,112],196608),([108,111,103],2147221504),([97,108,108,111,119],2147418112)]
def To[bN G]:bA G (.F 394 [] [] (.mp 0) [some (.map (sE.map fun p=>(.str p.1,.int .u32 p.2)))]):=by refine ee bN.aeN (aaa rfl) ?_;simp[sE]
def BQ(v:Nat):List UInt8:=((sE.find? fun p=>p.2==(v:Int)).map (·.1)).getD []
def zqa[bN G](v:Nat):bA G (.F 393 [.mp 0,.int .u32 v] [some (.map (sE.map fun p=>(.str p.1,.int .u32 p.2)))] (.str (BQ v)) [some (.map (sE.map fun p=>(.str p.1,.int .u32 p.2)))]) :=
 .nat bN.aeM rfl ⟨rfl,sE,rfl,by decide,rfl⟩
def O9{v:Nat}(a:v<4294967296):c_ .u32 (v:Int) 327680=(((v+4294639616)%4294967296:Nat):Int):=by unfold c_;rw[IntKind.wrap,show IntKind.u32.signed=false from rfl];simp[IntKind.bits];omega
def ztA[eB G][bN G](v:Nat)(j:v<4294967296):∃ s e,FP G 395 [.int .u32 v] (.a_ [.str s,.int .i64 e])/\(e==0)=eg v:=by
 by_cases b:BQ v=[]
 ·have t:v≠0/\v≠196608/\v≠2147221504/\v≠2147418112:=by refine⟨?_,?_,?_,?_⟩<;>(rintro rfl;revert b;decide)
  obtain⟨k,m⟩:∃ k,k=(v+4294639616)%4294967296:=⟨_,rfl⟩;have d:=O9 j;rw[<-m] at d
  by_cases h:k<=4095
  ·have n:=zFu (G:=G) k an;refine⟨[101,114,114,111,114,58]++br k,0,?_,?_⟩
   ·refine bD bN.aeO (aaa rfl) ?_;have a:((k:Int)<=4095)=True:=eq_true an;have c:(6+(br k).length<=9223372036854775807)=True:=eq_true (by have:=SA k 16;unfold br;omega);have o:fV .u64 (k:Int)=(k:Int):=IntWalk.u64_in _ ⟨an,an⟩;simp;refine vb To ir ?_;simp;refine yY (zqa v) ?_;simp[b,d,a,o];refine ax n ?_;simp[c]
   ·have:eg v=true:=by simp[eg];omega
    rw[this];rfl
  ·refine⟨[],1,?_,?_⟩
   ·refine bD bN.aeO (aaa rfl) ?_;have a:((k:Int)<=4095)=False:=eq_false an;simp;refine vb To ir ?_;simp;refine yY (zqa v) ?_;simp[b,d,a]
   ·have:eg v=false:=by simp[eg];omega
    rw[this];rfl
 ·refine⟨BQ v,0,?_,?_⟩
  ·refine bD bN.aeO (aaa rfl) ?_
   have q:(BQ v).isEmpty=false:=by simpa using b
   simp;refine vb To ir ?_;simp;refine yY (zqa v) ?_;simp[q]
  ·have:eg v=true:=by
    have f:∀ l:List (List UInt8×Int),((l.find? fun p=>p.2==(v:Int)).map (·.1)).getD []≠[]->∃ p∈l,p.2=(v:Int):=by
     intro l h
     cases g:l.find? (fun p=>p.2==(v:Int)) with
     | none=>rw[g] at h;simp at h
     | some p=>exact⟨p,aa3 g,by simpa using ab1 g⟩
    obtain⟨p,i,r⟩:=f _ b;simp only[sE,aal,abt,or_false] at i
    rcases i with rfl|rfl|rfl|rfl<;>simp only at r<;>simp[eg]<;>omega
   rw[this];rfl
def Ru.cs(r:Ru):List V:=[.int .u32 (r.aA:Int),.int .u32 (r.nr:Int),.vs (CL r.conds) .no,.int .u32 (r.act:Int)]
def RL(l:List Ru):List (List V):=l.map Ru.cs
@[simp] theorem zMq (l:List Ru):(RL l).length=l.length:=by simp[RL]
theorem GO{l:List Ru}{i:Nat}{x:Ru}(h:l[i]?=some x):(RL l)[i]?=some x.cs:=by simp[RL,h]
def Po.cs(p:Po):List V:=[.vs (RL p.rules) .no,.int .u32 (p.cF:Int)]
def jh(r:Ru):Bool:=r.conds.all Cd.right&&eg r.act&&decide (r.conds.length<=4)
def vV(p:Po):Bool:=p.rules.all jh&&eg p.cF&&decide (p.rules.length<=64)
def zHm[eB G][bN G][cM G][i_ G](r:Ru)(k:r.conds.length<=maxLen)(l:r.act<4294967296):FP G 405 [.agg r.cs] (.bool (jh r)):=by
 refine bD i_.aeS (aaa rfl) ?_;obtain⟨s,e,m,a⟩:=ztA (G:=G) r.act l;simp[Ru.cs];refine aQ r.conds.length (fun i=>[(1,.ptr 0 0),(8,.vs (CL r.conds) .no),(9,.int .i64 r.conds.length),(10,.int .i64 i)]) (fun _=>[some (.cells r.cs)]) (fun i=>(r.conds.take i).all Cd.right=true) ?_ ?_
 ·simp[av,aj,Ru.cs]
 intro i hi b;unfold maxLen at k
 by_cases c:i<r.conds.length
 ·obtain⟨x,n⟩:∃ x,x=r.conds[i]:=⟨_,rfl⟩
  have g:r.conds[i]?=some x:=by rw[aab c,n]
  have d:=LN g
  have o:(CL r.conds)[i]'(by simpa using c)=x.cs:=by rw[aab (by simpa using c)] at d;exact aaK.inj d
  have h:=Ui (G:=G) x;simp only[Cd.cs] at h d o
  have p:(r.conds.take (i+1)).all Cd.right=((r.conds.take i).all Cd.right&&x.right):=by rw[aaW,g];simp
  simp(disch:=omega)[bM,d,Ru.cs];refine ax h ?_
  cases j:x.right with
  | false =>
   have:jh r=false:=by
    have:r.conds.all Cd.right=false:=by rw[acr];exact⟨x,aaq g,by simp[j]⟩
    simp[jh,this]
   simp[this]
  | true =>
   simp(disch:=omega)[av,aj,bH,c,-aad]
   have:(r.conds.take (i+1)).all Cd.right=true:=by rw[p,b,j];rfl
   simpa using this
 ·have:i=r.conds.length:=an
  subst this;rw[aaY] at b
  have q:((r.conds.length:Int)<=4)=(r.conds.length<=4):=by rw[eq_iff_iff];omega
  simp(disch:=omega)[Ru.cs];refine ax m ?_
  cases f:eg r.act with
  | true =>
   rw[f] at a;simp only[beq_iff_eq] at a;subst a
   simp[jh,b,f,q]
  | false =>
   rw[f] at a;simp[jh,b,f,a]
def zpw[eB G][bN G][cM G][i_ G](p:Po)(l:p.rules.length<=maxLen)(m:∀ r∈p.rules,r.conds.length<=maxLen/\r.act<4294967296)(hd:p.cF<4294967296):FP G 406 [.agg p.cs] (.bool (vV p)):=by
 refine bD i_.aeT (aaa rfl) ?_;obtain⟨s,e,n,a⟩:=ztA (G:=G) p.cF hd;simp[Po.cs];refine aQ p.rules.length (fun i=>[(1,.ptr 0 0),(8,.vs (RL p.rules) .no),(9,.int .i64 p.rules.length),(10,.int .i64 i)]) (fun _=>[some (.cells p.cs)]) (fun i=>(p.rules.take i).all jh=true) ?_ ?_
 ·simp[av,aj,Po.cs]
 intro i hi b;unfold maxLen at l
 by_cases c:i<p.rules.length
 ·obtain⟨x,o⟩:∃ x,x=p.rules[i]:=⟨_,rfl⟩
  have d:p.rules[i]?=some x:=by rw[aab c,o]
  have f:=GO d
  have q:(RL p.rules)[i]'(by simpa using c)=x.cs:=by rw[aab (by simpa using c)] at f;exact aaK.inj f
  have h:=m x (aaq d);have j:=zHm (G:=G) x h.1 h.2;simp only[Ru.cs] at j f q
  have t:(p.rules.take (i+1)).all jh=((p.rules.take i).all jh&&jh x):=by rw[aaW,d];simp
  simp(disch:=omega)[bM,f,Po.cs];refine ax j ?_
  cases k:jh x with
  | false =>
   have:vV p=false:=by
    have:p.rules.all jh=false:=by rw[acr];exact⟨x,aaq d,by simp[k]⟩
    simp[vV,this]
   simp[this]
  | true =>
   simp(disch:=omega)[av,aj,bH,c,-aad]
   have:(p.rules.take (i+1)).all jh=true:=by rw[t,b,k];rfl
   simpa using this
 ·have:i=p.rules.length:=an
  subst this;rw[aaY] at b
  have u:((p.rules.length:Int)<=64)=(p.rules.length<=64):=by rw[eq_iff_iff];omega
  simp(disch:=omega)[Po.cs];refine ax n ?_
  cases g:eg p.cF with
  | true =>
   rw[g] at a;simp only[beq_iff_eq] at a;subst a
   simp[vV,b,g,u]
  | false =>
   rw[g] at a;simp[vV,b,g,a]
def iy(l:List Nat):Nat:=l.foldl (fun a d=>16*a+d) 0
def Gn(l:List Nat)(d:Nat):iy (l++[d])=16*iy l+d:=by simp[iy]
def zsm:∀ n (l:List Nat),l.length=n->(∀ d∈l,d<16)->iy l<16^n:=by
 intro n
 induction n with
 | zero=>intro l a _;have:=aaE.1 a;subst this;simp[iy]
 | succ n b =>
  intro l a h
  rcases aba l with rfl|⟨m,d,rfl⟩
  ·simp at a
  ·rw[aa0] at a h |-;have e:=b m (by simpa using a) (fun x c=>h x (by simp[c]));have f:=h d ir;rw[Gn,Nat.pow_succ];omega
def zA5{k:Nat}(h:k<16):2^(64-4*k)=2^(60-4*k)*16:=by rw[show 64-4*k=(60-4*k)+4 by omega,Nat.pow_add]
def zyW(n:Nat)(f:n<18446744073709551616):∀ k,k<=16->∃ ds:List Nat,wz n k=([48,120]++ds.map kg,decide (ds≠[]))/\(∀ d∈ds,d<16)/\iy ds=n/2^(64-4*k)/\ds.length<=k/\(ds.head?=some 0->k=16/\ds.length=1)/\(k=16->ds≠[]):=by
 intro k
 induction k with
 | zero =>
  intro _;refine⟨[],by simp[wz],ir,?_,ir,ir,ir⟩;rw[show 64-4*0=64 by omega,acv (show n<2^64 from f)]
  rfl
 | succ k g =>
  intro u;obtain⟨ds,i,j,e,v,m,_⟩:=g an;obtain⟨d,hd⟩:∃ d,d=n/2^(60-4*k)%16:=⟨_,rfl⟩;have o:=zA5 (k:=k) an
  have p:n/2^(64-4*k)=n/2^(60-4*k)/16:=by rw[o,Nat.div_div_eq_div_mul]
  have r:64-4*(k+1)=60-4*k:=an
  rw[r];rw[p] at e
  have s:d<16:=an
  unfold wz;rw[<-hd,i];generalize n/2^(60-4*k)=q at *
  by_cases b:(decide (ds≠[])||decide (0<d)||decide (k=15))=true
  ·refine⟨ds++[d],?_,?_,?_,?_,?_,ir⟩
   ·rw[if_pos b];simp
   ·intro x t
    rcases aat.1 t with h|h
    ·exact j x h
    ·simp at h;omega
   ·rw[Gn,e];omega
   ·simp;omega
   ·intro c
    cases ds with
    | nil =>
     simp at c b;subst c;simp at b
     simp;omega
    | cons a l =>
     simp at c;have:=m (by simp[c]);omega
  ·rw[if_neg b];simp at b;obtain⟨⟨rfl,w⟩,y⟩:=b;refine⟨[],ir,ir,?_,ir,ir,an⟩;have:iy []=0:=rfl;rw[this] at e |-;omega
def I1(n:Nat)(a:n<18446744073709551616):∃ ds:List Nat,br n=[48,120]++ds.map kg/\(∀ d∈ds,d<16)/\iy ds=n/\1<=ds.length/\ds.length<=16/\(ds.head?=some 0->ds.length=1):=by
 obtain⟨ds,b,c,e,f,g,i⟩:=zyW n a 16 an;refine⟨ds,by rw[br,b],c,by simpa using e,?_,f,fun h=>(g h).2⟩;have:=i rfl
 cases ds with
 | nil=>exact absurd rfl this
 | cons _ _=>simp
def zG(w:List UInt8):Prop:=∀ b∈w,b≠32/\b≠10/\b.toNat<128
def ztB:∀ d,d<16->kg d≠32/\kg d≠10/\(kg d).toNat<128:=by decide
def Tp(n:Nat)(c:n<18446744073709551616):zG (br n):=by
 obtain⟨ds,e,f,_⟩:=I1 n c;intro b a;rw[e] at a;simp only[aau,aaT,aal,aah] at a
 rcases a with rfl|rfl|⟨d,hd,rfl⟩
 ·decide
 ·decide
 ·exact ztB d (f d hd)
def I2(n:Nat):(br n).length<=18:=by have:=SA n 16;unfold br;omega
def zvN(n:Nat):br n≠[]:=by
 intro h
 have:∀ k,(wz n k).1≠[]:=by
  intro k
  induction k with
  | zero=>simp[wz]
  | succ k a=>unfold wz;split<;>simp[a]
 exact this 16 h
def zA6(n:Nat)(a:n<18446744073709551616):∃ r,br n=48::120::r:=by obtain⟨ds,b,_⟩:=I1 n a;exact⟨_,b⟩
def pg(M:List (List UInt8×Int))(v:Nat):List UInt8:=((M.find? fun p=>p.2==(v:Int)).map (·.1)).getD []
def cY(M:List (List UInt8×Int))(v:Nat):List UInt8:=if pg M v=[] then br v else pg M v
def pU:List (List UInt8×Int):=[([120,54,52],3221225534),([120,56,54],1073741827),([97,54,52],3221225655),([97,114,109],1073741864)]
def CU:List UInt8:=[114,101,97,100]
def CV:List UInt8:=[119,114,105,116,101]
def Gp:List UInt8:=[111,112,101,110]
def CW:List UInt8:=[99,108,111,115,101]
def CX:List UInt8:=[101,120,105,116]
def Gq:List UInt8:=[102,111,114,107]
def CY:List UInt8:=[107,105,108,108]
def Gr:List UInt8:=[109,109,97,112]
def Gs(a:Nat):Option (List (List UInt8×Int)) :=
 if a=3221225534 then some [(CU,0),(CV,1),(Gp,2),(CW,3),(CX,60),(Gq,57),(CY,62),(Gr,9)]
 else if a=1073741827 then some [(CU,3),(CV,4),(Gp,5),(CW,6),(CX,1),(Gq,2),(CY,37),(Gr,90)]
 else if a=3221225655 then some [(CU,63),(CV,64),(CW,57),(CX,93),(CY,129),(Gr,222)]
 else if a=1073741864 then some [(CU,3),(CV,4),(Gp,5),(CW,6),(CX,1),(Gq,2),(CY,37)]
 else none
def oU(a:Nat):List (List UInt8×Int):=(Gs a).getD []
structure iG (M:List (List UInt8×Int)):Prop where
 di:(M.map (·.2)).Nodup
 keys:(M.map (·.1)).Nodup
 cJ:∀ p∈M,zG p.1/\p.1≠[]/\p.1.head?≠some 48/\p.1.length<=5/\0<=p.2/\p.2<4294967296
instance (w:List UInt8):Decidable (zG w):=inferInstanceAs (Decidable (∀ b∈w,b≠32/\b≠10/\b.toNat<128))
def EF:iG pU:=⟨by decide,by decide,by decide⟩
def I3:iG sE:=⟨by decide,by decide,by decide⟩
def EG(a:Nat):iG (oU a):=by
 unfold oU Gs
 repeat' split
 all_goals first|exact⟨by decide,by decide,by decide⟩
def zH{M:List (List UInt8×Int)}{v:Nat}(h:pg M v≠[]):(pg M v,(v:Int))∈M:=by
 unfold pg at h |-
 cases a:M.find? (fun p=>p.2==(v:Int)) with
 | none=>rw[a] at h;simp at h
 | some p =>
  have b:=aa3 a
  have c:p.2=(v:Int):=by simpa using ab1 a
  simp[<-c,b]
def Lq{M:List (List UInt8×Int)}{s:List UInt8}{v:Int}(a:(M.map (·.1)).Nodup)(h:(s,v)∈M):M.find? (fun p=>p.1==s)=some (s,v):=by
 induction M with
 | nil=>simp at h
 | cons p M b =>
  simp only[aaI,abZ] at a
  rcases aal.1 h with rfl|h
  ·simp
  ·have c:p.1≠s:=by rintro rfl;exact a.1 (aah.2 ⟨_,h,rfl⟩)
   rw[abr (by simpa using c)];exact b a.2 h
def zpx{M:List (List UInt8×Int)}(a:iG M){v:Nat}(b:v<18446744073709551616):zG (cY M v):=by
 unfold cY;split
 ·exact Tp v b
 ·rename_i h;exact(a.cJ _ (zH h)).1
def Tq{M:List (List UInt8×Int)}(a:iG M){v:Nat}:(cY M v).length<=18:=by
 unfold cY;split
 ·exact I2 v
 ·rename_i h;have:=(a.cJ _ (zH h)).2.2.2.1;simp only at this;omega
def zxS(v:Nat):BQ v=pg sE v:=rfl
def kI:List UInt8:=[101,114,114,111,114,58]
def iT(v:Nat):List UInt8:=if BQ v=[] then kI++br (v-327680) else BQ v
def zyX{v:Nat}(c:v<4294967296):zG (iT v):=by
 unfold iT;split
 ·intro b a
  rcases aat.1 a with h|h
  ·have:zG kI:=by decide
   exact this b h
  ·exact Tp (v-327680) an b h
 ·rename_i h;exact(I3.cJ _ (zH h)).1
def zDn(k:Nat):(kI++br k).length<=24:=by have:=I2 k;simp[kI];omega
def zA7{M:List (List UInt8×Int)}(a:iG M)(v:Nat):(pg M v).length<=5:=by
 by_cases h:pg M v=[]
 ·rw[h];exact aa7 _
 ·exact(a.cJ _ (zH h)).2.2.2.1
def zvO{v:Nat}:(iT v).length<=24:=by
 unfold iT;split
 ·exact zDn _
 ·exact Nat.le_trans (zA7 I3 v) (by decide)
def aL:List (List UInt8)->List UInt8
 | []=>[]
 | [w]=>w
 | w::v::r=>w++32::aL (v::r)
def BR(w:List UInt8){r:List (List UInt8)}(h:r≠[]):aL (w::r)=w++32::aL r:=by
 cases r with
 | nil=>exact absurd rfl h
 | cons v r=>rfl
def zor:∀{a b:List (List UInt8)},a≠[]->b≠[]->aL (a++b)=aL a++32::aL b
 | [],_,h,_=>absurd rfl h
 | [w],b,_,h=>by rw[List.singleton_append,BR w h];rfl
 | w::v::r,b,_,h=>by
  rw[aau,BR w ir,zor ir h];simp[aL]
def iU(c:Int):List UInt8:=if c=0 then [101,113] else if c=1 then [110,101] else if c=2 then [108,116] else if c=3 then [108,101] else if c=4 then [103,116] else [103,101]
def k8(c:Cd):List (List UInt8):=[[97,aaZ (48+c.arg.toNat)],br c.mask,iU c.cmp,br c.val]
def xE(k:Nat):List UInt8:=if k=0 then [105,102] else [97,110,100]
def iY:Nat->List Cd->List (List UInt8)
 | _,[]=>[]
 | k,c::l=>xE k::k8 c++iY (k+1) l
def qD(r:Ru):List (List UInt8):=[[111,110],cY pU r.aA,cY (oU r.aA) r.nr,iT r.act]++iY 0 r.conds
def I4(v:Nat):List (List UInt8):=[[100,101,102,97,117,108,116],iT v]
def zyY(c:Int):zG (iU c):=by
 unfold iU
 repeat' split
 all_goals decide
def zA8{c:Cd}(h:c.right=true):zG [97,aaZ (48+c.arg.toNat)]:=by
 simp only[Cd.right,decide_eq_true_eq] at h
 have:c.arg=0\/c.arg=1\/c.arg=2\/c.arg=3\/c.arg=4\/c.arg=5:=an
 rcases this with h|h|h|h|h|h<;>rw[h]<;>decide
def zm4{c:Cd}(h:c.right=true)(a:c.ok):∀ w∈k8 c,zG w:=by
 intro w b;simp only[k8,aal,abt,or_false] at b
 rcases b with rfl|rfl|rfl|rfl
 ·exact zA8 h
 ·exact Tp _ a.1
 ·exact zyY _
 ·exact Tp _ a.2
def zwG(k:Nat):zG (xE k):=by unfold xE;split<;>decide
def zpy:∀{l:List Cd} {k:Nat},(∀ c∈l,c.right=true/\c.ok)->∀ w∈iY k l,zG w
 | [],k,_,w,a=>by simp[iY] at a
 | c::l,k,h,w,a=>by
  simp only[iY,aau,aal,aat] at a
  rcases a with rfl|a|a
  ·exact zwG k
  ·exact zm4 (h c ir).1 (h c ir).2 w a
  ·exact zpy (fun c b=>h c (by simp[b])) w a
def zyZ{r:Ru}(b:∀ c∈r.conds,c.right=true/\c.ok)(e:r.aA<4294967296)(f:r.nr<4294967296)(d:r.act<4294967296):∀ w∈qD r,zG w:=by
 intro w a;simp only[qD,aau,aaT,aal] at a
 rcases a with rfl|rfl|rfl|rfl|a
 ·decide
 ·exact zpx EF an
 ·exact zpx (EG _) an
 ·exact zyX d
 ·exact zpy b w a
open Classical in
noncomputable def yF{α:Type}(p:α->Prop):Option α:=if h:∃ x,p x then some h.choose else none
section
variable {α:Type} {p:α->Prop} {x:α}
def Gt(h:yF p=some x):p x:=by
 unfold yF at h;split at h
 ·rename_i a;cases h;exact a.choose_spec
 ·cases h
def O_(h:yF p=none)(x:α):¬p x:=by
 unfold yF at h;split at h
 ·cases h
 ·rename_i a;exact fun b=>a ⟨x,b⟩
def Lr(a:p x)(b:∀ y,p y->y=x):yF p=some x:=by
 cases h:yF p with
 | none=>exact absurd a (O_ h x)
 | some y=>rw[b y (Gt h)]
def Gu(h:∀ x,¬p x):yF p=none:=by
 cases a:yF p with
 | none=>rfl
 | some y=>exact absurd (Gt a) (h y)
end
def zFT:∀ a,a<16->∀ b,b<16->kg a=kg b->a=b:=by decide
def zpz:∀{a b:List Nat},(∀ d∈a,d<16)->(∀ d∈b,d<16)->a.map kg=b.map kg->a=b
 | [],[],_,_,_=>rfl
 | [],_::_,_,_,h=>by simp at h
 | _::_,[],_,_,h=>by simp at h
 | x::a,y::b,c,e,h=>by
  simp only[aaI,abm.injEq] at h;rw[zFT x (c x ir) y (e y ir) h.1,zpz (fun d hd=>c d (by simp[hd])) (fun d hd=>e d (by simp[hd])) h.2]
def Tr{l:List Nat}(b:l≠[])(c:l.head?≠some 0):0<iy l:=by
 obtain⟨n,e⟩:∃ n,l.length=n:=⟨_,rfl⟩
 induction n generalizing l with
 | zero=>exact absurd (aaE.1 e) b
 | succ n f =>
  rcases aba l with rfl|⟨m,d,rfl⟩
  ·exact absurd rfl b
  ·rw[aa0] at *;rw[Gn]
   cases m with
   | nil=>simp at c;omega
   | cons a m =>
    have:=f (l:=a::m) ir (by simpa using c) (by simpa using e);omega
def zA9:∀(n:Nat) {a b:List Nat},a.length=n->(∀ d∈a,d<16)->(∀ d∈b,d<16)->a.head?≠some 0->b.head?≠some 0->iy a=iy b->a=b:=by
 intro n
 induction n with
 | zero =>
  intro a b c _ _ _ f g;have:=aaE.1 c;subst this
  cases b with
  | nil=>rfl
  | cons y b=>have:=Tr (l:=y::b) ir f;rw[<-g] at this;simp[iy] at this
 | succ n o =>
  intro a b c i j f p g
  rcases aba a with rfl|⟨m,d,rfl⟩
  ·simp at c
  rcases aba b with rfl|⟨k,e,rfl⟩
  ·have:=Tr (l:=m.concat d) (by simp[aa0]) f;rw[g] at this;simp[iy] at this
  rw[aa0] at *;rw[aa0] at *;rw[Gn,Gn] at g;have hd:=i d ir;have s:=j e ir
  have q:m.head?≠some 0:=by cases m with
   | nil=>simp
   | cons x m=>simpa using f
  have r:k.head?≠some 0:=by cases k with
   | nil=>simp
   | cons x k=>simpa using p
  rw[o (a:=m) (b:=k) (by simpa using c) (fun x h=>i x (by simp[h])) (fun x h=>j x (by simp[h])) q r an,show d=e by omega]
def ztC{ds:List Nat}(h:∀ d∈ds,d<16)(n:1<=ds.length)(r:ds.length<=16)(s:ds.head?=some 0->ds.length=1):iy ds<18446744073709551616/\br (iy ds)=[48,120]++ds.map kg:=by
 have o:iy ds<18446744073709551616:=by
  have a:=zsm _ ds rfl h;have b:16^ds.length<=16^16:=ab9 (by decide) r
  have c:(16:Nat)^16=18446744073709551616:=by decide
  omega
 refine⟨o,?_⟩;obtain⟨i,t,u,j,k,w,p⟩:=I1 _ o;rw[t]
 congr 2
 have e:∀{l:List Nat},1<=l.length->(l.head?=some 0->l.length=1)->l.head?=some 0->l=[0]:=by
  intro l _ v f;have:=v f
  match l,this,f with
  | [x],_,f=>simp at f;rw[f]
 by_cases m:ds.head?=some 0
 ·have q:=e n s m
  by_cases g:i.head?=some 0
  ·rw[e k p g,q]
  ·have:=Tr (l:=i) (by intro h;simp[h] at k) g;rw[j,q] at this;simp[iy] at this
 ·by_cases g:i.head?=some 0
  ·have:=Tr (l:=ds) (by intro h;simp[h] at n) m;rw[<-j,e k p g] at this;simp[iy] at this
  ·exact zA9 _ rfl u h g m j
def I5{n m:Nat}(c:n<18446744073709551616)(d:m<18446744073709551616)(h:br n=br m):n=m:=by obtain⟨a,e,f,g,_⟩:=I1 n c;obtain⟨b,i,j,k,_⟩:=I1 m d;rw[e,i] at h;rw[<-g,<-k,zpz f j (abU h)]
noncomputable def dH(s:List UInt8):Option Nat:=yF fun n=>n<18446744073709551616/\br n=s
def Tt{n:Nat}(h:n<18446744073709551616):dH (br n)=some n:=Lr ⟨h,rfl⟩ fun y a=>I5 a.1 h a.2
def Aa{s:List UInt8}{n:Nat}(h:dH s=some n):n<18446744073709551616/\br n=s:=by unfold dH at h;have:=Gt h;exact this
def EH(b:UInt8):Option Nat:=if 48<=b.toNat/\b.toNat<=57 then some (b.toNat-48) else if 97<=b.toNat/\b.toNat<=102 then some (b.toNat-87) else none
def zFU{b:UInt8}{d:Nat}(h:EH b=some d):d<16/\b=kg d:=by
 have a:∀ k,k<16->(kg k).toNat=if k<10 then 48+k else 87+k:=by decide
 unfold EH at h;split at h
 ·cases h;refine⟨an,abd.1 ?_⟩
  rw[a _ an];split<;>omega
 ·split at h
  ·cases h;refine⟨an,abd.1 ?_⟩
   rw[a _ an];split<;>omega
  ·cases h
def ztD{f:UInt8->Bool}:∀{D:List UInt8},(∃ b∈D,f b=false)->∃(p:Nat) (b:UInt8),D[p]?=some b/\f b=false/\∀ i,i<p->∃ c,D[i]?=some c/\f c=true
 | [],h=>by simp at h
 | x::D,h=>by
  cases a:f x with
  | false=>exact⟨0,x,rfl,a,fun i hi=>absurd hi (aa5 _)⟩
  | true =>
   obtain⟨b,hb,d⟩:=h
   rcases aal.1 hb with rfl|hb
   ·rw[a] at d;cases d
   obtain⟨p,b,e,g,j⟩:=ztD (D:=D) ⟨b,hb,d⟩;refine⟨p+1,b,e,g,fun i hi=>?_⟩
   cases i with
   | zero=>exact⟨x,rfl,a⟩
   | succ i=>exact j i an
def zDo{s:List UInt8}(h:dH s=none)(u:3<=s.length)(k:s.length<=18)(m:s.take 2=[48,120])(n:s[2]?=some 48->s.length=3):∃ b∈s.drop 2,(EH b).isSome=false:=by
 apply Classical.byContradiction;intro o
 have p:∀ b∈s.drop 2,∃ d,EH b=some d:=by
  intro b a
  cases q:EH b with
  | some d=>exact⟨d,rfl⟩
  | none=>exact absurd ⟨b,a,by rw[q];rfl⟩ o
 have c:∀ D:List UInt8,(∀ b∈D,∃ d,EH b=some d)->∃ ds:List Nat,(∀ d∈ds,d<16)/\D=ds.map kg:=by
  intro D
  induction D with
  | nil=>intro _;exact⟨[],ir,rfl⟩
  | cons x D r =>
   intro j;obtain⟨d,hd⟩:=j x ir;obtain⟨ds,e,f⟩:=r fun b a=>j b (by simp[a]);have:=zFU hd;exact⟨d::ds,by intro y g;rcases aal.1 g with rfl|g;exact this.1;exact e y g,by rw[this.2,f];rfl⟩
 obtain⟨ds,e,f⟩:=c _ p
 have i:s=[48,120]++ds.map kg:=by rw[<-f,<-m,abv]
 have v:s.length=2+ds.length:=by rw[i];simp;omega
 have t:ds.head?=some 0->ds.length=1:=by
  intro hd
  have:s[2]?=some 48:=by
   rw[i]
   cases ds with
   | nil=>simp at hd
   | cons x l=>simp at hd;subst hd;rfl
  have:=n this;omega
 have:=ztC e an an t;exact O_ h _ ⟨this.1,by rw[this.2,<-i]⟩
def zos{M:List (List UInt8×Int)}(g:iG M){v w:Nat}(e:v<18446744073709551616)(i:w<18446744073709551616)(h:cY M v=cY M w):v=w:=by
 have c:∀{v w:Nat},v<18446744073709551616->pg M w≠[]->br v≠pg M w:=by intro v w e d j;have f:=(g.cJ _ (zH d)).2.2.1;obtain⟨r,k⟩:=zA6 v e;rw[<-j,k] at f;exact f rfl
 unfold cY at h
 split at h<;>split at h
 ·exact I5 e i h
 ·rename_i _ d;exact absurd h (c e d)
 ·rename_i d _;exact absurd h.symm (c i d)
 ·rename_i f l;have a:=Lq g.keys (zH f);have b:=Lq g.keys (zH l);rw[h,b] at a
  injection a with a
  injection a with _ a
  omega
noncomputable def oV(M:List (List UInt8×Int))(s:List UInt8):Option Nat:=yF fun v=>v<4294967296/\cY M v=s
def Lt{M:List (List UInt8×Int)}(a:iG M){v:Nat}(b:v<4294967296):oV M (cY M v)=some v:=Lr ⟨b,rfl⟩ fun y c=>zos a an an c.2
def Tu{M:List (List UInt8×Int)}{s:List UInt8}{v:Nat}(h:oV M s=some v):v<4294967296/\cY M v=s:=by unfold oV at h;have:=Gt h;exact this
def ztE{M:List (List UInt8×Int)}(c:iG M){s:List UInt8}{v:Nat}(h:(s,(v:Int))∈M):pg M v=s:=by
 have d:=(c.cJ _ h).2.1
 have a:∀{M:List (List UInt8×Int)},(M.map (·.2)).Nodup->(s,(v:Int))∈M->M.find? (fun p=>p.2==(v:Int))=some (s,(v:Int)):=by
  intro M b h
  induction M with
  | nil=>simp at h
  | cons p M e =>
   simp only[aaI,abZ] at b
   rcases aal.1 h with rfl|h
   ·simp
   ·have d:p.2≠(v:Int):=by intro f;exact b.1 (aah.2 ⟨_,h,by simp[f]⟩)
    rw[abr (by simpa using d)];exact e b.2 h
 unfold pg;rw[a c.di h];rfl
def ztF{M:List (List UInt8×Int)}(a:iG M){s:List UInt8}{k:Int}(h:M.find? (fun p=>p.1==s)=some (s,k)):∃ v:Nat,k=v/\oV M s=some v:=by
 have b:=aa3 h;obtain⟨_,c,_,_,d,e⟩:=a.cJ _ b;simp only at c d e;obtain⟨v,rfl⟩:∃ v:Nat,k=v:=⟨k.toNat,an⟩
 have f:cY M v=s:=by unfold cY;rw[ztE a b,if_neg c]
 exact⟨v,rfl,by rw[<-f];exact Lt a an⟩
def zlT{M:List (List UInt8×Int)}(c:iG M){s:List UInt8}(h:M.find? (fun p=>p.1==s)=none){v:Nat}(a:cY M v=s):pg M v=[]/\br v=s:=by
 unfold cY at a;split at a
 ·rename_i b;exact⟨b,a⟩
 ·rename_i b;have:=Lq c.keys (zH b);rw[a,h] at this;cases this
def zqb{M:List (List UInt8×Int)}{s:List UInt8}{p:List UInt8×Int}(h:M.find? (fun p=>p.1==s)=some p):p=(s,p.2):=by have:=ab1 h;simp only[beq_iff_eq] at this;rw[<-this]
def ztG{M:List (List UInt8×Int)}(c:iG M){s:List UInt8}(h:M.find? (fun p=>p.1==s)=none) :
  oV M s=match dH s with
   | none=>none
   | some n=>if n<4294967296/\pg M n=[] then some n else none:=by
 cases e:dH s with
 | none =>
  refine Gu fun v a=>?_;have:=zlT c h a.2
  exact O_ e v ⟨an,this.2⟩
 | some n =>
  have d:=Aa e;simp only;split
  ·rename_i b
   have:cY M n=s:=by unfold cY;rw[if_pos b.2,d.2]
   rw[<-this];exact Lt c b.1
  ·rename_i b;refine Gu fun v a=>b ?_;have f:=zlT c h a.2;have:=I5 (n:=v) (m:=n) an d.1 (by rw[f.2,d.2]);subst this;exact⟨a.1,f.1⟩
noncomputable def eP(s:List UInt8):Option Nat:=yF fun v=>eg v=true/\iT v=s
def Lu{v:Nat}(h:eg v=true):v<4294967296:=by simp only[eg,decide_eq_true_eq] at h;omega
def zqc{v w:Nat}(i:eg v=true)(j:eg w=true)(h:iT v=iT w):v=w:=by
 have hd:∀ p∈sE,p.1.take 6≠kI:=by decide
 have g:∀{v:Nat},eg v=true->BQ v=[]->327680<=v/\v<=331775:=by
  intro v h k
  have c:v≠0/\v≠196608/\v≠2147221504/\v≠2147418112:=by refine⟨?_,?_,?_,?_⟩<;>(rintro rfl;revert k;decide)
  simp only[eg,decide_eq_true_eq] at h;omega
 have d:∀{v w:Nat},pg sE w≠[]->kI++br v≠pg sE w:=by intro v w c l;refine hd _ (zH c) ?_;show(pg sE w).take 6=kI;rw[<-l];rfl
 unfold iT at h;rw[zxS,zxS] at h
 split at h<;>split at h
 ·rename_i e f;have a:=g i e;have b:=g j f;have:=I5 an an (abU h);omega
 ·rename_i _ c;exact absurd h (d c)
 ·rename_i c _;exact absurd h.symm (d c)
 ·rename_i e f;have a:=Lq I3.keys (zH e);have b:=Lq I3.keys (zH f);rw[h,b] at a
  injection a with a
  injection a with _ a
  omega
def Gv{v:Nat}(a:eg v=true):eP (iT v)=some v:=Lr ⟨a,rfl⟩ fun y b=>zqc b.1 a b.2
def BS{s:List UInt8}{v:Nat}(h:eP s=some v):eg v=true/\iT v=s:=by unfold eP at h;have:=Gt h;exact this
def gC(w:List UInt8):Prop:=∀ b∈w,b≠32
def zsn{w:List UInt8}(h:zG w):gC w:=fun b a=>(h b a).1
def zm6{w r:List UInt8}(h:gC w):(w++32::r).takeWhile (· !=32)=w/\(w++32::r).drop (w.length+1)=r:=by
 constructor
 ·induction w with
  | nil=>simp
  | cons a w c =>
   have:=h a ir;simp only[aau];rw[aa2 (by simpa using this),c fun b d=>h b (by simp[d])]
 ·rw[<-acC];simp
def zrk{w:List UInt8}(h:gC w):w.takeWhile (· !=32)=w:=by
 induction w with
 | nil=>rfl
 | cons a w c =>
  rw[aa2 (by simpa using h a ir),c fun b d=>h b (by simp[d])]
def zwH{w v r q:List UInt8}(c:gC w)(d:gC v)(h:w++32::r=v++32::q):w=v/\r=q:=by have a:=zm6 (r:=r) c;have b:=zm6 (r:=q) d;rw[h] at a;have e:w=v:=a.1.symm.trans b.1;subst e;exact⟨rfl,a.2.symm.trans b.2⟩
def Tv:∀{a b:List (List UInt8)},a≠[]->b≠[]->(∀ w∈a,gC w)->(∀ w∈b,gC w)->aL a=aL b->a=b
 | [],_,h,_,_,_,_=>absurd rfl h
 | _,[],_,h,_,_,_=>absurd rfl h
 | [w],[v],_,_,_,_,h=>by simp only[aL] at h;rw[h]
 | [w],v::y::b,_,_,c,_,h=>by
  rw[BR v ir] at h;simp only[aL] at h
  exact absurd rfl (c w ir 32 (by rw[h];simp))
 | w::x::a,[v],_,_,_,d,h=>by
  rw[BR w ir] at h;simp only[aL] at h
  exact absurd rfl (d v ir 32 (by rw[<-h];simp))
 | w::x::a,v::y::b,_,_,c,d,h=>by
  rw[BR w ir,BR v ir] at h;have:=zwH (c w ir) (d v ir) h;rw[this.1,Tv ir ir (fun z e=>c z (by simp[e])) (fun z e=>d z (by simp[e])) this.2]
def Cd.dc(c:Cd):Prop:=c.right=true/\c.ok
def zFV{a b:Int}(c:0<=a/\a<=5)(d:0<=b/\b<=5)(h:aaZ (48+a.toNat)=aaZ (48+b.toNat)):a=b:=by have:=congrArg acF h;simp only[abn] at this;omega
def zDp{a b:Int}(e:0<=a/\a<=5)(f:0<=b/\b<=5)(h:iU a=iU b):a=b:=by
 have c:a=0\/a=1\/a=2\/a=3\/a=4\/a=5:=an
 have d:b=0\/b=1\/b=2\/b=3\/b=4\/b=5:=an
 rcases c with rfl|rfl|rfl|rfl|rfl|rfl<;>rcases d with rfl|rfl|rfl|rfl|rfl|rfl<;>first|rfl|(exfalso;revert h;decide)
def zrl{c d:Cd}(l:c.dc)(hd:d.dc)(h:k8 c=k8 d):c=d:=by obtain⟨a,e⟩:=l;obtain⟨b,f⟩:=hd;simp only[Cd.right,decide_eq_true_eq] at a b;simp only[k8,abm.injEq,and_true] at h;have g:=zFV ⟨a.1,a.2.1⟩ ⟨b.1,b.2.1⟩ h.1.2;have i:=I5 e.1 f.1 h.2.1;have j:=zDp ⟨a.2.2.1,a.2.2.2⟩ ⟨b.2.2.1,b.2.2.2⟩ h.2.2.1;have k:=I5 e.2 f.2 h.2.2.2;cases c;cases d;simp only at g i j k;subst g;subst i;subst j;subst k;rfl
def Tw{c:Cd}(h:c.dc):∀ w∈k8 c,gC w:=fun w a=>zsn (zm4 h.1 h.2 w a)
noncomputable def d_(s:List UInt8):Option Cd:=yF fun c=>c.dc/\aL (k8 c)=s
def zBa{c d:Cd}(a:c.dc)(hd:d.dc)(h:aL (k8 c)=aL (k8 d)):c=d :=
 zrl a hd (Tv (by simp[k8]) (by simp[k8]) (Tw a) (Tw hd) h)
def zm7{c:Cd}(h:c.dc):d_ (aL (k8 c))=some c:=Lr ⟨h,rfl⟩ fun y a=>zBa a.1 h a.2
def Pa{s:List UInt8}{c:Cd}(h:d_ s=some c):c.dc/\aL (k8 c)=s:=by unfold d_ at h;have:=Gt h;exact this
open Go Go.RowKit
variable {G:aM}
def I6{t:List UInt8}{i:Nat}{b:UInt8}(h:t[i]?=some b)(a:b.toNat<128):Utf8.decode ⟨t.toArray⟩ i=(b.toNat,1):=by
 obtain⟨hi,c⟩:=aae.1 h
 have d:(ByteArray.get! ⟨t.toArray⟩ (i+0))=b:=by simp[ByteArray.get!,hi,c]
 unfold Utf8.decode;simp only[d,a,if_true]
def zDq{d:Nat}(h:d<16):((kg d).toNat=48)=(d=0):=by
 have:∀ d<16,((kg d).toNat=48)=(d=0):=by decide
 exact this d h
def zBb{d:Nat}(h:d<10):(kg d).toNat=48+d:=by
 have:∀ d<10,(kg d).toNat=48+d:=by decide
 exact this d h
def zBc{d:Nat}(h:d<16)(a:10<=d):(kg d).toNat=87+d:=by
 have:∀ d<16,10<=d->(kg d).toNat=87+d:=by decide
 exact this d h a
def zL0{a:Nat}(h:a*16<18446744073709551616):jc .u64 (a:Int) 4=((a*16:Nat):Int):=by unfold jc;rw[show min (4:Int).toNat IntKind.u64.bits=4 from rfl,show((a:Int)*2^4)=((a*16:Nat):Int) by rw[abe];rfl];exact IntWalk.u64_in _ ⟨an,an⟩
def aaN{a d:Nat}(h:a*16<18446744073709551616)(hd:d<16):uK .u64 ((a*16:Nat):Int) (d:Int)=((16*a+d:Nat):Int):=by unfold uK;rw[qp,qp,BitVec.toNat_or,acd,acd];simp only[IntKind.bits];have b:d<2^4:=hd;rw[acx (show a*16<2^64 from h),acx (show d<2^64 by omega),show a*16=2^4*a by omega,<-Nat.two_pow_add_eq_or_of_lt b];exact IntWalk.u64_in _ ⟨an,an⟩
def zBd[cP G](ds:List Nat)(hd:∀ d∈ds,d<16)(L:1<=ds.length)(F_:ds.length<=16)(M:ds.head?=some 0->ds.length=1):FP G 144 [.str ([48,120]++ds.map kg)] (.a_ [.int .u64 (iy ds:Nat),.int .i64 0]):=by
 refine bD cP.agd (aaa rfl) ?_;obtain⟨N,m⟩:∃ N,N=ds.length:=⟨_,rfl⟩;obtain⟨T,f⟩:∃ T:List UInt8,T=[48,120]++ds.map kg:=⟨_,rfl⟩
 have O:T.length=N+2:=by rw[f];simp;omega
 have P:T.take 2=[48,120]:=by rw[f];rfl
 have B:T.drop 2=ds.map kg:=by rw[f];rfl
 have Q:∀ x,ds.head?=some x->T[2]?=some (kg x):=by
  intro x c
  cases ds with
  | nil=>simp at c
  | cons a l=>simp at c;subst c;rw[f];rfl
 obtain⟨x,c⟩:∃ x,ds.head?=some x:=by
  cases ds with
  | nil=>simp at L
  | cons a l=>exact⟨a,rfl⟩
 have n:x<16:=hd x (List.mem_of_head? c);have C:=zDq n;obtain⟨y,j⟩:∃ y,y=kg x:=⟨_,rfl⟩
 have o:T[2]?=some y:=by rw[j];exact Q x c
 have p:=(aae.1 o).2;rw[<-j] at C;rw[<-f];have R:(((N:Int)+2)<3)=False:=eq_false an;have S:(18<(N:Int)+2)=False:=eq_false an;have U:((2:Int)<=(N:Int)+2)=True:=eq_true an;have c4:(2<N+2)=True:=eq_true an
 have c5:(3<(N:Int)+2)=(N≠1):=by rw[eq_iff_iff];omega
 have V:((y.toNat:Int)==48)=decide (x=0):=by
  have:((y.toNat:Int)=48)=(x=0):=by rw[<-C,eq_iff_iff];omega
  rw[aaS];simp[this]
 have g:x=0->N=1:=fun h=>by rw[m];exact M (by rw[c,h])
 have E:∀ i,i<N->∃ d,ds[i]?=some d/\d<16/\(ds.map kg)[i]?=some (kg d):=by
  intro i hi
  have e:i<ds.length:=an
  exact⟨ds[i],aab e,hd _ (List.getElem_mem e),by simp[aab e]⟩
 obtain⟨b,BT⟩:∃ b:Nat->Nat,∀ i,b i=iy (ds.take i):=⟨_,fun _=>rfl⟩
 have q:b N=iy ds:=by rw[BT,m,aaY]
 have W:b 0=0:=by rw[BT];rfl
 obtain⟨D,F⟩:∃ D,D=ds.map kg:=⟨_,rfl⟩
 have Lw:D.length=N:=by rw[F,m];simp
 rw[<-F] at B E
 by_cases H:x=0<;>simp(disch:=omega)[O,P,B,p,R,S,U,V,H,g]
 all_goals
  refine aQ N (fun i=>[(4,.int .u64 (b i:Nat)),(32,.ptr 0 0)]) (fun i=>[some (.dE D i)]) (fun _=>True) ?_ ?_
  ·simp[av,aj,W];exact aap (by first|omega|(have:=g H;omega))
  intro i hi _
  by_cases e:i<N
  ·obtain⟨d,X,r,Y⟩:=E i e;have I:=I6 Y (ztB d r).2.2
   have k:i<D.length:=an
   have Z:b (i+1)=16*b i+d:=by rw[BT,BT,aaW,X];exact Gn _ _
   have J:b i*16<18446744073709551616:=by
    have:=zsm i (ds.take i) (by rw[aaL];omega) (fun y j=>hd y (abA j));rw[<-BT] at this;have h2:16^i<=16^15:=ab9 (by decide) an
    have h3:(16:Nat)^15=1152921504606846976:=by decide
    omega
   have K:=zL0 J;have s:=aaN J r;rw[<-Z] at s
   by_cases t:d<10
   ·have u:=zBb t;have v:((48:Int)<=((48+d:Nat):Int))=True:=eq_true an;have w:(((48+d:Nat):Int)<=57)=True:=eq_true an
    have z:c_ .i32 ((48+d:Nat):Int) 48=(d:Int):=by unfold c_;rw[show((48+d:Nat):Int)-48=(d:Int) by omega];exact IntWalk.i32_in _ ⟨an,an⟩
    have A:fV .u64 (d:Int)=(d:Int):=IntWalk.u64_in _ ⟨an,an⟩;simp(disch:=omega)[k,I,u,v,w,z,A,K,s,av,aj,e,-aad,-abe]
   ·have u:=zBc r an;have v:((48:Int)<=((87+d:Nat):Int))=True:=eq_true an;have w:(((87+d:Nat):Int)<=57)=False:=eq_false an;have b5:((97:Int)<=((87+d:Nat):Int))=True:=eq_true an;have b6:(((87+d:Nat):Int)<=102)=True:=eq_true an
    have z:c_ .i32 ((87+d:Nat):Int) 97=((d-10:Nat):Int):=by unfold c_;rw[show((87+d:Nat):Int)-97=((d-10:Nat):Int) by omega];exact IntWalk.i32_in _ ⟨an,an⟩
    have b7:aE .i32 ((d-10:Nat):Int) 10=(d:Int):=by unfold aE;rw[show((d-10:Nat):Int)+10=(d:Int) by omega];exact IntWalk.i32_in _ ⟨an,an⟩
    have A:fV .u64 (d:Int)=(d:Int):=IntWalk.u64_in _ ⟨an,an⟩;simp(disch:=omega)[k,I,u,v,w,z,A,b5,b6,b7,K,s,av,aj,e,-aad,-abe]
  ·have:i=N:=an
   subst this
   have k:¬i<D.length:=an
   simp(disch:=omega)[k,q]
def zBe[cP G](n:Nat)(a:n<18446744073709551616):FP G 144 [.str (br n)] (.a_ [.int .u64 n,.int .i64 0]):=by obtain⟨ds,b,c,d,e,f,g⟩:=I1 n a;have:=zBd (G:=G) ds c e f g;rwa[<-b,d] at this
def zxT{t:List UInt8}{i:Nat}{b:UInt8}(h:t[i]?=some b)(u:¬b.toNat<128):∃ r n,Utf8.decode ⟨t.toArray⟩ i=(r,n)/\128<=r/\1<=n/\i+n<=t.length/\∀ j,0<j->j<n->∀ c,t[i+j]?=some c->128<=c.toNat:=by
 obtain⟨hi,v⟩:=aae.1 h
 have p:∀ k,k<t.length->ByteArray.get! ⟨t.toArray⟩ k=t[k]!:=fun k f=>by simp[ByteArray.get!,f]
 have w:(ByteArray.mk t.toArray).size=t.length:=by simp[ByteArray.size]
 have x:ByteArray.get! ⟨t.toArray⟩ (i+0)=b:=by rw[ace,p i hi];simp[hi,v]
 have y:∀ k c,t[i+k]?=some c->ByteArray.get! ⟨t.toArray⟩ (i+k)=c:=fun k c f=>by
  obtain⟨a,g⟩:=aae.1 f;rw[p _ a];simp[a,g]
 have l:∀ k,(decide (i+k<(ByteArray.mk t.toArray).size)&&(ByteArray.get! ⟨t.toArray⟩ (i+k)).toNat/64==2)=true->i+k<t.length/\∀ c,t[i+k]?=some c->128<=c.toNat:=by intro k f;simp only[aaB,decide_eq_true_eq,beq_iff_eq,w] at f;refine⟨f.1,fun c d=>?_⟩;rw[y k c d] at f;omega
 have z:Utf8.runeError=65533:=rfl;unfold Utf8.decode;simp only[x];rw[if_neg u]
 have e:∃ r n,(Utf8.runeError,1)=(r,n)/\128<=r/\1<=n/\i+n<=t.length/\∀ j,0<j->j<n->∀ c,t[i+j]?=some c->128<=c.toNat :=
  ⟨_,_,rfl,by rw[z];omega,aan _,hi,fun j a g=>by omega⟩
 split
 ·rename_i a;simp only[aaB] at a;have m:=l 1 (by simpa using a.2);split
  ·rename_i g;exact⟨_,_,rfl,an,an,an,fun j q s c d=>by have:j=1:=an;subst this;exact m.2 c d⟩
  ·exact e
 ·split
  ·rename_i a;simp only[aaB] at a;have m:=l 1 (by simpa using a.1.2);have o:=l 2 (by simpa using a.2);split
   ·rename_i g;simp only[aaB,decide_eq_true_eq] at g
    exact⟨_,_,rfl,an,an,an,fun j q s c d=>by
     have:j=1\/j=2:=an
     rcases this with rfl|rfl
     ·exact m.2 c d
     ·exact o.2 c d⟩
   ·exact e
  ·split
   ·rename_i a;simp only[aaB] at a;have m:=l 1 (by simpa using a.1.1.2);have o:=l 2 (by simpa using a.1.2);have A:=l 3 (by simpa using a.2);split
    ·rename_i g;simp only[aaB,decide_eq_true_eq] at g
     exact⟨_,_,rfl,an,an,an,fun j q s c d=>by
      have:j=1\/j=2\/j=3:=an
      rcases this with rfl|rfl|rfl
      ·exact m.2 c d
      ·exact o.2 c d
      ·exact A.2 c d⟩
    ·exact e
   ·exact e
def zqd{t:List UInt8}{m:UInt8}(q:m.toNat<128){i k:Nat}(c:i<k)(s:k<=t.length)(d:∀ j,i<=j->j<k->t[j]?≠some m)(f:k<t.length->t[k]?=some m) :
  ∃ r n,Utf8.decode ⟨t.toArray⟩ i=(r,n)/\r≠m.toNat/\1<=n/\i+n<=k:=by
 obtain⟨b,a⟩:∃ b,t[i]?=some b:=⟨_,aab an⟩
 by_cases h:b.toNat<128
 ·refine⟨_,_,I6 a h,fun e=>d i (aan _) c ?_,aan _,c⟩;rw[a,abd.1 e]
 ·obtain⟨r,n,g,u,l,v,o⟩:=zxT a h;refine⟨r,n,g,an,l,?_⟩
  rcases abB k (i+n) with w|p
  ·have:=o (k-i) an an m (by rw[show i+(k-i)=k by omega];exact f an);omega
  ·exact p
def Tz[cP G](s:List UInt8)(X:s.length<4611686018427387904):FP G 144 [.str s] (.a_ [.int .u64 ((dH s).getD 0:Nat),.int .i64 (if dH s=none then 2 else 0)]):=by
 cases I:dH s with
 | some n =>
  obtain⟨O,u⟩:=Aa I;rw[<-u]
  exact zBe n O
 | none =>
  refine bD cP.agd (aaa rfl) ?_;simp only[abH,if_true]
  by_cases g:(s.length:Int)<3
  ·simp[g]
  by_cases m:18<(s.length:Int)
  ·simp[g,m]
  have x:((2:Int)<=(s.length:Int))=True:=eq_true an;have J:(2<s.length)=True:=eq_true an
  by_cases j:s.take 2=[48,120]
  ·obtain⟨y,P⟩:∃ y,y=s[2]'(by omega):=⟨_,rfl⟩
   have K:s[2]?=some y:=by rw[aab an,P]
   have L:=(aae.1 K).2
   by_cases o:((y.toNat:Int)==48)=true/\3<(s.length:Int)
   ·simp(disch:=omega)[g,m,x,J,j,L,o.1,o.2]
   ·obtain⟨Q,R,T⟩:=zDo I an an j (fun h=>by
     rw[K] at h;cases h;apply Classical.byContradiction;intro Y
     exact o ⟨rfl,an⟩)
    obtain⟨p,b,p1,p2,p3⟩:=ztD (f:=fun b=>(EH b).isSome) ⟨Q,R,T⟩;obtain⟨D,z⟩:∃ D,D=s.drop 2:=⟨_,rfl⟩
    have Z:D.length=s.length-2:=by rw[z];simp
    rw[<-z] at p1 p3;have n8:p<D.length:=(aae.1 p1).1;have A:D.take (s.length-2)=D:=aap an;obtain⟨w,U,B⟩:∃ w,((y.toNat:Int)==48)=w/\(w=true->(3<(s.length:Int))=False):=⟨_,rfl,fun h=>eq_false fun u=>o ⟨h,u⟩⟩;cases w
    all_goals
     try replace B:=B rfl
     simp(disch:=omega)[g,m,x,J,j,L,U,B,<-z,A];refine wu (S:=Nat×Int) (fun q=>p+1-q.1) (fun q=>[(4,.int .u64 q.2),(32,.ptr 0 0)]) (fun q=>[some (.dE D q.1)]) (fun q=>q.1<=p) (0,0) ?_ ?_
     ·simp[av,aj]
     rintro⟨i,v⟩ hi;simp only at hi |-
     have a:i<D.length:=an
     rcases acg hi with V|W
     ·subst V
      have e:∃ r n,Utf8.decode ⟨D.toArray⟩ i=(r,n)/\¬(48<=r/\r<=57)/\¬(97<=r/\r<=102):=by
       by_cases M:b.toNat<128
       ·refine⟨_,_,I6 p1 M,?_⟩;unfold EH at p2;split at p2
        ·cases p2
        ·split at p2
         ·cases p2
         ·exact⟨by assumption,by assumption⟩
       ·obtain⟨r,n,C,N,_⟩:=zxT p1 M;exact⟨r,n,C,an,an⟩
      obtain⟨r,n,t,r1,r2⟩:=e
      by_cases k:(48:Int)<=(r:Int)<;>by_cases l:(r:Int)<=57<;>by_cases E:(97:Int)<=(r:Int)<;>by_cases F:(r:Int)<=102<;>first
       | (exfalso;omega)
       | (simp[a,t,k,l,E,F,av,aj];done)
     ·obtain⟨c,C,N⟩:=p3 i W;obtain⟨d,hd⟩:=aaD.1 N
      have e:c.toNat<128/\(48<=c.toNat/\c.toNat<=57\/97<=c.toNat/\c.toNat<=102):=by
       unfold EH at hd;split at hd
       ·exact⟨an,.inl (by assumption)⟩
       ·split at hd
        ·exact⟨an,.inr (by assumption)⟩
        ·cases hd
      have t:=I6 C e.1
      rcases e.2 with e|e
      ·have k:((48:Int)<=(c.toNat:Int))=True:=eq_true an;have l:((c.toNat:Int)<=57)=True:=eq_true an;simp[a,t,k,l,av,aj];exact⟨(i+1,uK .u64 (jc .u64 v 4) (fV .u64 (c_ .i32 (c.toNat:Int) 48))),by simp only;omega,by simp only;omega,by simp[av],by simp[aj]⟩
      ·have k:((48:Int)<=(c.toNat:Int))=True:=eq_true an;have l:((c.toNat:Int)<=57)=False:=eq_false an;have E:((97:Int)<=(c.toNat:Int))=True:=eq_true an;have F:((c.toNat:Int)<=102)=True:=eq_true an;simp[a,t,k,l,E,F,av,aj];exact⟨(i+1,uK .u64 (jc .u64 v 4) (fV .u64 (aE .i32 (c_ .i32 (c.toNat:Int) 97) 10))),by simp only;omega,by simp only;omega,by simp[av],by simp[aj]⟩
  ·have H:(s.take 2==[48,120])=false:=by simpa using j
   simp[g,m,x,j,H]
def vL(M:List (List UInt8×Int)):List (V×V):=M.map fun p=>(.str p.1,.int .u32 p.2)
def zqe{s:List UInt8}:∀{M:List (List UInt8×Int)} (i:Nat),M.find? (fun p=>p.1==s)=none->j6 (.sc .str) (.str s) (vL M) i=some none
 | [],i,_=>rfl
 | p::M,i,h=>by
  rw[ach] at h
  have b:(s==p.1)=false:=by have:=h p ir;simp only[beq_iff_eq] at this;simpa using fun e=>this e.symm
  have a:=zqe (M:=M) (i+1) (by rw[ach];exact fun q c=>h q (by simp[c]));simp only[vL] at a;simp only[vL,aaI,j6,j7,qx,b,a]
def zqf{s:List UInt8}{v:Int}:∀{M:List (List UInt8×Int)} (i:Nat),M.find? (fun p=>p.1==s)=some (s,v)->∃ j,j6 (.sc .str) (.str s) (vL M) i=some (some (j,.int .u32 v))
 | [],i,h=>by simp at h
 | p::M,i,h=>by
  by_cases e:p.1=s
  ·rw[List.find?_cons_of_pos (by simpa using e)] at h;cases h;exact⟨i,by simp[vL,j6,j7,qx]⟩
  ·rw[abr (by simpa using e)] at h;obtain⟨j,a⟩:=zqf (i+1) h
   have b:(s==p.1)=false:=by simpa using fun e'=>e e'.symm
   simp only[vL] at a;exact⟨j,by simp only[vL,aaI,j6,j7,qx,b,a]⟩
def mH(M:List (List UInt8×Int)):ae:=[some (.map (vL M))]
def zDr[bN G]{M:List (List UInt8×Int)}(a:iG M)(v:Nat):bA G (.F 393 [.mp 0,.int .u32 v] (mH M) (.str (pg M v)) (mH M)) :=
 .nat bN.aeM rfl ⟨rfl,M,rfl,a.di,rfl⟩
def zDs[bN G](v:Nat):bA G (.F 393 [.nilm,.int .u32 v] [] (.str []) []) :=
 .nat bN.aeM rfl ⟨rfl,rfl⟩
def TA(M:List (List UInt8×Int)):aj 1 [some (.map (vL M))]=[some (.map (vL M))]:=by simp[aj,aw.cl,vL,aaJ,V.cl]
def zwI[cW G]:bA G (.F 449 [] [] (.mp 0) (mH pU)):=by refine ee cW.afn (aaa rfl) ?_;simp[mH,vL,pU]
def zDt[cW G](a:Nat){M:List (List UInt8×Int)}(h:Gs a=some M):bA G (.F 450 [.int .u32 a] [] (.mp 0) (mH M)):=by
 refine ee cW.afo (aaa rfl) ?_;unfold Gs at h;split at h
 ·rename_i b;cases h;simp[b,mH,vL,CU,CV,Gp,CW,CX,Gq,CY,Gr]
 ·split at h
  ·rename_i b c;cases h;simp[c,mH,vL,CU,CV,Gp,CW,CX,Gq,CY,Gr]
  ·split at h
   ·rename_i b c d;cases h;simp[d,mH,vL,CU,CV,CW,CX,CY,Gr]
   ·split at h
    ·rename_i b c d e;cases h;simp[e,mH,vL,CU,CV,Gp,CW,CX,Gq,CY]
    ·cases h
def zBf[cW G](a:Nat)(h:Gs a=none):bA G (.F 450 [.int .u32 a] [] .nilm []):=by
 refine ee cW.afo (aaa rfl) ?_;unfold Gs at h;split at h
 ·cases h
 ·split at h
  ·cases h
  ·split at h
   ·cases h
   ·split at h
    ·cases h
    ·rename_i f g i j
     have b:((a:Int)==3221225534)=false:=by simp;omega
     have c:((a:Int)==1073741827)=false:=by simp;omega
     have d:((a:Int)==3221225655)=false:=by simp;omega
     have e:((a:Int)==1073741864)=false:=by simp;omega
     simp[b,c,d,e]
def jW(k:IntKind)(o:Option Nat):V:=.a_ [.int k ((o.getD 0:Nat):Int),.int .i64 (if o=none then 2 else 0)]
def zqg[cP G][bN G][cW G]{M:List (List UInt8×Int)}(k:iG M)(s:List UInt8)(q:s.length<4611686018427387904)(m:V)(H:ae)
  (c:m=.mp 0/\H=mH M\/m=.nilm/\H=[]/\M=[]):bA G (.F 452 [m,.str s] H (jW .u32 (oV M s)) H):=by
 refine ee cW.afp (aaa rfl) ?_;have d:=Tz (G:=G) s q
 cases b:M.find? (fun p=>p.1==s) with
 | some p =>
  rcases c with⟨rfl,rfl⟩|⟨_,_,rfl⟩
  ·rw[zqb b] at b;obtain⟨v,r,a⟩:=ztF k b;obtain⟨j,f⟩:=zqf 0 b;simp[mH,f,a,r,jW]
  ·simp at b
 | none =>
  have f:=zqe 0 b;have a:=ztG k b
  cases l:dH s with
  | none =>
   rw[l] at d a;simp only at a;rw[a]
   rcases c with⟨rfl,rfl⟩|⟨rfl,rfl,rfl⟩ <;>
   ·simp[mH,f];refine ax d ?_
    simp[jW,TA]
  | some n =>
   have x:=(Aa l).1;rw[l] at d a;simp only at a;rw[a];have o:jR .u64 (n:Int) 32=((n/4294967296:Nat):Int):=shU (n:=n) (e:=32) (by decide)
   by_cases g:n<4294967296
   ·have i:fV .u32 (n:Int)=(n:Int):=IntWalk.u32_in _ ⟨an,an⟩;rw[acv g] at o
    have w:bA G (.F 393 [m,.int .u32 n] H (.str (pg M n)) H):=by
     rcases c with⟨rfl,rfl⟩|⟨rfl,rfl,rfl⟩
     ·exact zDr k n
     ·exact zDs n
    rcases c with⟨rfl,rfl⟩|⟨rfl,rfl,rfl⟩
    all_goals
     try simp only[mH] at w |-
     simp[f];refine ax d ?_;simp[o,i];refine yY w ?_
    ·by_cases h:pg M n=[]
     ·simp[h,g,i,jW,TA]
     ·have t:(pg M n).isEmpty=false:=by simpa using h
      simp[h,t,g,i,jW,TA]
    ·have h:pg [] n=[]:=rfl;simp[h,g,i,jW]
   ·have u:4294967296<=n:=an
    rcases c with⟨rfl,rfl⟩|⟨rfl,rfl,rfl⟩ <;>
    ·simp[mH,f,g];refine ax d ?_;simp[o,u,jW,TA,-abI]
def zrm[cP G][bN G][cW G](s:List UInt8)(c:s.length<4611686018427387904):FP G 454 [.str s] (jW .u32 (oV pU s)):=by refine bD cW.afq (aaa rfl) ?_;have a:=zwI (G:=G);have b:=zqg (G:=G) EF s c _ _ (.inl ⟨rfl,rfl⟩);simp only[mH,jW] at a b |-;simp;refine vb a ir ?_;simp;refine yY b ?_;simp
def zvP[cP G][bN G][cW G](a:Nat)(s:List UInt8)(f:s.length<4611686018427387904):FP G 456 [.int .u32 a,.str s] (jW .u32 (oV (oU a) s)):=by
 refine bD cW.afr (aaa rfl) ?_;have g:=EG a
 cases c:Gs a with
 | none =>
  have e:oU a=[]:=by simp[oU,c]
  have d:=zBf (G:=G) a c;have b:=zqg (G:=G) g s f _ _ (.inr ⟨rfl,rfl,e⟩);simp only[jW] at b |-;simp;refine vb d ir ?_;simp;refine yY b ?_
  simp
 | some M =>
  have e:oU a=M:=by simp[oU,c]
  have d:=zDt (G:=G) a c;have b:=zqg (G:=G) g s f _ _ (.inl ⟨rfl,rfl⟩);rw[e] at b |-;simp only[mH,jW] at d b |-;simp;refine vb d ir ?_;simp;refine yY b ?_;simp
def zDu{s:List UInt8}{k:Int}(h:sE.find? (fun p=>p.1==s)=some (s,k)):∃ v:Nat,k=v/\eP s=some v:=by
 have a:=aa3 h
 have c:∀ p∈sE,p.2=0\/p.2=196608\/p.2=2147221504\/p.2=2147418112:=by decide
 have d:=c _ a;have b:=(I3.cJ _ a).2.1;simp only at d b;obtain⟨v,rfl⟩:∃ v:Nat,k=v:=⟨k.toNat,an⟩;have e:BQ v=s:=ztE I3 a
 have f:eg v=true:=by simp only[eg,decide_eq_true_eq];omega
 have g:iT v=s:=by unfold iT;rw[e,if_neg b]
 exact⟨v,rfl,by rw[<-g];exact Gv f⟩
def TB{s:List UInt8}(h:sE.find? (fun p=>p.1==s)=none){v:Nat}(c:eg v=true)(b:iT v=s):∃ k,v=327680+k/\k<=4095/\s=kI++br k:=by
 by_cases a:BQ v=[]
 ·have e:v≠0/\v≠196608/\v≠2147221504/\v≠2147418112:=by refine⟨?_,?_,?_,?_⟩<;>(rintro rfl;revert a;decide)
  simp only[eg,decide_eq_true_eq] at c;exact⟨v-327680,an,an,by rw[<-b];exact if_pos a⟩
 ·have:=Lq I3.keys (zH (v:=v) a)
  have d:pg sE v=s:=by rw[<-b];exact(if_neg a).symm
  rw[d,h] at this;cases this
def zqh{k:Nat}(h:k<=4095):eP (kI++br k)=some (327680+k):=by
 have a:eg (327680+k)=true:=by simp only[eg,decide_eq_true_eq];omega
 have b:BQ (327680+k)=[]:=by
  apply Classical.byContradiction;intro c
  have d:∀ p∈sE,p.2=0\/p.2=196608\/p.2=2147221504\/p.2=2147418112:=by decide
  have:=d _ (zH (v:=327680+k) c);simp only at this;omega
 have e:iT (327680+k)=kI++br k:=by rw[iT,if_pos b,show 327680+k-327680=k by omega]
 rw[<-e];exact Gv a
def zmd[cP G][bN G][cW G](s:List UInt8)(B:s.length<4611686018427387904):FP G 457 [.str s] (jW .u32 (eP s)):=by
 refine bD cW.afs (aaa rfl) ?_;have w:=To (G:=G);have r:(sE.map fun p:List UInt8×Int=>((V.str p.1,V.int .u32 p.2):V×V))=vL sE:=rfl;rw[r] at w
 cases c:sE.find? (fun p=>p.1==s) with
 | some p =>
  rw[zqb c] at c;obtain⟨v,t,a⟩:=zDu c;obtain⟨j,e⟩:=zqf 0 c;simp;refine vb w ir ?_
  simp[e,a,t,jW]
 | none =>
  have e:=zqe 0 c
  by_cases f:(s.length:Int)<6
  ·have a:eP s=none:=Gu fun v b=>by
    obtain⟨k,_,_,g⟩:=TB c b.1 b.2;rw[g] at f;simp[kI] at f;omega
   simp;refine vb w ir ?_;simp[e,f,a,jW]
  have i:((6:Int)<=(s.length:Int))=True:=eq_true an
  by_cases d:s.take 6=[101,114,114,111,114,58]
  ·have h:=Tz (G:=G) (s.drop 6) (by simp;omega)
   have u:s=kI++s.drop 6:=by rw[show kI=s.take 6 from d.symm,abv]
   have m:(s.drop 6).take (s.length-6)=s.drop 6:=aap ir
   cases l:dH (s.drop 6) with
   | none =>
    have a:eP s=none:=Gu fun v b=>by
     obtain⟨k,_,o,g⟩:=TB c b.1 b.2;refine O_ l k ⟨an,?_⟩;rw[g];simp[kI]
    rw[l] at h;simp;refine vb w ir ?_;simp[e,f,i,d,m,av];refine ax h ?_
    simp[a,jW]
   | some n =>
    obtain⟨_,o⟩:=Aa l;rw[l] at h
    by_cases x:n<=4095
    ·have a:eP s=some (327680+n):=by rw[u,<-o];exact zqh x
     have q:(4095<(n:Int))=False:=eq_false an;have y:fV .u32 (n:Int)=(n:Int):=IntWalk.u32_in _ ⟨an,an⟩
     have z:aE .u32 327680 (n:Int)=((327680+n:Nat):Int):=by unfold aE;rw[show(327680:Int)+(n:Int)=((327680+n:Nat):Int) by omega];exact IntWalk.u32_in _ ⟨an,an⟩
     simp;refine vb w ir ?_;simp[e,f,i,d,m,av];refine ax h ?_;simp[a,jW,q,y,z,-aad]
    ·have a:eP s=none:=Gu fun v b=>by
      obtain⟨k,_,C,g⟩:=TB c b.1 b.2
      have:br n=br k:=by rw[o,g];simp[kI]
      have:=I5 an an this;omega
     have q:(4095<(n:Int))=True:=eq_true an;simp;refine vb w ir ?_;simp[e,f,i,d,m,av];refine ax h ?_;simp[a,jW,q]
  ·have A:(s.take 6==[101,114,114,111,114,58])=false:=by simpa using d
   have a:eP s=none:=Gu fun v b=>by
    obtain⟨k,_,_,g⟩:=TB c b.1 b.2;rw[g] at d;exact d rfl
   simp;refine vb w ir ?_;simp[e,f,i,d,A,a,jW]
def I8{a b:Nat}(h:a≠b):((a:Int)==(b:Int))=false:=by simp;omega
def zDv(c:Int):(iU c).length=2:=by
 unfold iU
 repeat' split
 all_goals rfl
def Lx(c:Cd):List UInt8:=aL (k8 c)
def zDw(c:Cd):Lx c=[97,aaZ (48+c.arg.toNat)]++32::(br c.mask++32::(iU c.cmp++32::br c.val)):=rfl
def ztH(c:Cd):(Lx c).length<=43:=by have a:=I2 c.mask;have b:=I2 c.val;have d:=zDv c.cmp;rw[zDw];simp;omega
def fR(m:UInt8)(s:List UInt8):List UInt8:=s.takeWhile (· !=m)
def iz(m:UInt8)(s:List UInt8):List UInt8:=s.drop ((fR m s).length+1)
def EJ(m:UInt8):∀ s,(fR m s).length<=s.length/\s.take (fR m s).length=fR m s/\(∀ j,j<(fR m s).length->s[j]?≠some m)/\((fR m s).length<s.length->s[(fR m s).length]?=some m)/\∀ b∈fR m s,b≠m
 | []=>⟨aan _,rfl,fun j h=>absurd h (aa5 _),fun h=>absurd h (aa5 _),fun b h=>by simp[fR] at h⟩
 | a::s=>by
  obtain⟨c,d,e,f,g⟩:=EJ m s
  by_cases h:a=m
  ·subst h
   have:fR a (a::s)=[]:=by simp[fR]
   rw[this];exact⟨aa7 _,rfl,fun j h=>absurd h (aa5 _),fun _=>rfl,fun b h=>by simp at h⟩
  ·have:fR m (a::s)=a::fR m s:=by unfold fR;rw[aa2 (by simpa using h)]
   rw[this];refine⟨by simpa using c,by simp[d],?_,by simpa using f,?_⟩
   ·intro j i
    cases j with
    | zero=>simpa using h
    | succ j=>simpa using e j (by simpa using i)
   ·intro b hb
    rcases aal.1 hb with rfl|hb
    ·exact h
    ·exact g b hb
def zBg{m:UInt8}{s:List UInt8}(h:(fR m s).length<s.length):s=fR m s++m::iz m s:=by
 obtain⟨e,a,f,b,g⟩:=EJ m s;have c:=b h;obtain⟨_,d⟩:=aae.1 c
 conv=>lhs;rw[<-abv (fR m s).length s,a,abh h,d]
 rfl
def zFW{m:UInt8}{s:List UInt8}(h:¬(fR m s).length<s.length):fR m s=s/\iz m s=[]:=by
 obtain⟨b,a,_⟩:=EJ m s
 have:s.length<=(fR m s).length:=an
 exact⟨by rw[<-a];exact aap this,ab5 an⟩
def zot{m:UInt8}{s:List UInt8}(h:iz m s≠[]):s=fR m s++m::iz m s:=by
 by_cases a:(fR m s).length<s.length
 ·exact zBg a
 ·exact absurd (zFW a).2 h
def I9{w r:List UInt8}(h:gC w):fR 32 (w++32::r)=w/\iz 32 (w++32::r)=r:=by have:=zm6 (r:=r) h;unfold iz;rw[show fR 32 (w++32::r)=w from this.1];exact⟨rfl,this.2⟩
def zso(m:UInt8)(s:List UInt8):(iz m s).length<=s.length:=by unfold iz;simp
def zsp[fU G](s:List UInt8)(A:s.length<4611686018427387904):FP G 459 [.str s] (.a_ [.str (fR 32 s),.str (iz 32 s)]):=by
 refine bD fU.aft (aaa rfl) ?_;obtain⟨f,a,g,c,_⟩:=EJ 32 s;obtain⟨w,h⟩:∃ w,w=fR 32 s:=⟨_,rfl⟩;rw[<-h] at f a g c |-
 have k:iz 32 s=s.drop (w.length+1):=by rw[h];rfl
 rw[k];simp;refine wu (S:=Nat) (fun i=>s.length+1-i) (fun i=>[(0,.str s),(7,.ptr 0 0)]) (fun i=>[some (.dE s i)]) (fun i=>i<=w.length) 0 ?_ ?_
 ·simp[av,aj]
 intro i hi
 by_cases l:i<w.length
 ·obtain⟨r,n,d,o,B,C⟩:=zqd (m:=32) (by decide) l f (fun j _ p=>g j p) c
  have q:i<s.length:=an
  have t:((r:Int)==32)=false:=I8 (b:=32) o;simp[q,d,t,av,aj];exact⟨i+n,by simp only;omega,an,by simp[av],by simp[aj]⟩
 ·have hi:i=w.length:=an
  subst hi
  by_cases e:w.length<s.length
  ·have d:=I6 (c e) (by decide);have u:((w.length:Int)<=(s.length:Int))=True:=eq_true an
   have v:aE .i64 (w.length:Int) 1=((w.length+1:Nat):Int):=by rw[ey]<;>omega
   have x:(s.drop (w.length+1)).take (s.length-(w.length+1))=s.drop (w.length+1):=aap ir;have y:(((w.length+1:Nat):Int)<=(s.length:Int))=True:=eq_true an;simp[e,d,u,v,x,y,a,av,aj,-aad]
  ·have hd:s.drop (w.length+1)=[]:=ab5 an
   have z:w=s:=by rw[<-a];exact aap an
   simp[e,hd,z,av,aj]
def vM(o:Option Cd):V:=.a_ [.agg (o.getD ⟨0,0,0,0⟩).cs,.int .i64 (if o=none then 2 else 0)]
def zwJ{s:List UInt8}{c:Cd}(a:c.dc):aL (k8 c)=s ↔
  fR 32 s=[97,aaZ (48+c.arg.toNat)]/\dH (fR 32 (iz 32 s))=some c.mask/\fR 32 (iz 32 (iz 32 s))=iU c.cmp/\dH (iz 32 (iz 32 (iz 32 s)))=some c.val:=by
 have w:=Tw a;simp only[k8,aal,abt,or_false,forall_eq_or_imp,forall_eq] at w;obtain⟨k,l,n,_⟩:=w;constructor
 ·intro h;rw[show aL (k8 c)=[97,aaZ (48+c.arg.toNat)]++32::(br c.mask++32::(iU c.cmp++32::br c.val)) from rfl] at h;have b:=I9 (r:=br c.mask++32::(iU c.cmp++32::br c.val)) k;have f:=I9 (r:=iU c.cmp++32::br c.val) l;have g:=I9 (r:=br c.val) n;rw[h] at b;rw[b.2,f.1,f.2,g.1,g.2];exact⟨b.1,Tt a.2.1,rfl,Tt a.2.2⟩
 ·rintro⟨o,p,q,t⟩;have i:=(Aa t).2;have u:=(Aa p).2;have d:=zot (m:=32) (s:=iz 32 (iz 32 s)) (by rw[<-i];exact zvN _);have e:=zot (m:=32) (s:=iz 32 s) (by rw[d];simp);have j:=zot (m:=32) (s:=s) (by rw[e];simp);rw[<-i,q] at d;rw[<-u,d] at e;rw[o,e] at j;rw[j];rfl
def zvQ{s:List UInt8}{c:Cd}(a:c.dc)(h:aL (k8 c)=s):d_ s=some c:=by rw[<-h];exact zm7 a
def zvR(f:Nat->Bool):∀ n,∃ N,N<=n/\(∀ i,i<N->f i=false)/\(N<n->f N=true)
 | 0=>⟨0,aan _,fun i h=>absurd h (aa5 _),fun h=>absurd h (aa5 _)⟩
 | n+1=>by
  obtain⟨N,d,a,c⟩:=zvR f n
  rcases abB N n with h|h
  ·exact⟨N,an,a,fun _=>c h⟩
  ·have:N=n:=an
   subst this
   cases b:f N with
   | true=>exact⟨N,an,a,fun _=>b⟩
   | false=>exact⟨N+1,aan _,fun i hi=>by rcases abB i N with h|h;exact a i h;rw[show i=N by omega,b],fun h=>absurd h (Nat.lt_irrefl _)⟩
def zt3[cP G][bp G][fU G](s:List UInt8)(T:s.length<4611686018427387904):FP G 460 [.str s] (vM (d_ s)):=by
 refine bD fU.afu (aaa rfl) ?_;have l1:=zso 32 s;have l2:=zso 32 (iz 32 s);have l3:=zso 32 (iz 32 (iz 32 s));have l4:=(EJ 32 (iz 32 s)).1;have q1:=zsp (G:=G) s T;have o:=zsp (G:=G) (iz 32 s) an;have p:=zsp (G:=G) (iz 32 (iz 32 s)) an;have p1:=Tz (G:=G) (fR 32 (iz 32 s)) an;have p2:=Tz (G:=G) (iz 32 (iz 32 (iz 32 s))) an;have f:=fun c b=>zwJ (s:=s) (c:=c) b
 generalize hA:fR 32 s=A at *;generalize hM:fR 32 (iz 32 s)=M at *;generalize hC:fR 32 (iz 32 (iz 32 s))=C at *;generalize hV:iz 32 (iz 32 (iz 32 s))=V3 at *;generalize iz 32 (iz 32 s)=R2 at *;generalize iz 32 s=R1 at *
 have r:(∀ c:Cd,c.dc->¬(A=[97,aaZ (48+c.arg.toNat)]/\dH M=some c.mask/\C=iU c.cmp/\dH V3=some c.val))->d_ s=none :=
  fun h=>Gu fun c b=>h c b.1 ((f c b.1).1 b.2)
 by_cases d:A.length=2
 ·obtain⟨x,y,rfl⟩:∃ x y,A=[x,y]:=by
   match A,d with
   | [x,y],_=>exact⟨x,y,rfl⟩
  by_cases t:x=97/\48<=y.toNat/\y.toNat<=53
  ·obtain⟨rfl,y1,y2⟩:=t;have U:((y.toNat:Int)<48)=False:=eq_false an;have W:(53<(y.toNat:Int))=False:=eq_false an
   have X:c_ .u8 (y.toNat:Int) 48=((y.toNat-48:Nat):Int):=by unfold c_;rw[show(y.toNat:Int)-48=((y.toNat-48:Nat):Int) by omega];exact IntWalk.u8_in _ ⟨an,an⟩
   have Y:fV .i64 ((y.toNat-48:Nat):Int)=((y.toNat-48:Nat):Int):=IntWalk.i64_in _ ⟨an,an⟩
   have ya:∀ a:Int,0<=a->a<=5->y=aaZ (48+a.toNat)->a=((y.toNat-48:Nat):Int):=by intro a qA jA h;rw[h,abn];omega
   have u:y=aaZ (48+(((y.toNat-48:Nat):Int)).toNat):=by apply abd.1;rw[abn];omega
   obtain⟨N,n1,I,J⟩:=zvR (fun i=>(iU (i:Int)==C)&&(dH M).isSome&&(dH V3).isSome) 6
   have z:d_ s=if N<6 then some ⟨((y.toNat-48:Nat):Int),N,(dH M).getD 0,(dH V3).getD 0⟩ else none:=by
    split
    ·rename_i j;have h:=J j;simp only[aaB,beq_iff_eq] at h;obtain⟨m,B⟩:=aaD.1 h.1.2;obtain⟨v,D⟩:=aaD.1 h.2;rw[B,D];have K:(⟨((y.toNat-48:Nat):Int),N,m,v⟩:Cd).dc:=⟨by simp only[Cd.right,decide_eq_true_eq];omega,(Aa B).1,(Aa D).1⟩;exact zvQ K ((f _ K).2 ⟨by simp only;rw[<-u],B,h.1.1.symm,D⟩)
    ·rename_i j
     refine r fun c b ⟨e,Z,g3,g4⟩=>?_
     have E:=b.1;simp only[Cd.right,decide_eq_true_eq] at E;have:=I c.cmp.toNat an;rw[show((c.cmp.toNat:Nat):Int)=c.cmp by omega,Z,g4,g3] at this;simp at this
   rw[z];simp;refine ax q1 ?_;simp;refine ax o ?_;simp;refine ax p ?_;simp[U,W];refine ax p1 ?_;simp;refine ax p2 ?_;simp;refine ax Uj ?_
   obtain⟨k,L⟩:∃ k:Int,k=if dH M=none then 2 else 0:=⟨_,rfl⟩
   obtain⟨l,O⟩:∃ l:Int,l=if dH V3=none then 2 else 0:=⟨_,rfl⟩
   have step:∀ w:List UInt8,((w==C)&&(dH M).isSome&&(dH V3).isSome)=false->(w==C)=false\/(w==C)=true/\(dH M).isSome=false\/(w==C)=true/\(dH M).isSome=true/\(dH V3).isSome=false:=by intro w h;revert h;generalize(w==C)=p1;generalize(dH M).isSome=p2;generalize(dH V3).isSome=p3;revert p1 p2 p3;decide
   have P:(k==0)=(dH M).isSome:=by rw[L];cases dH M<;>rfl
   have Q:(l==0)=(dH V3).isSome:=by rw[O];cases dH V3<;>rfl
   rw[<-L,<-O];generalize(dH M).getD 0=m at *;generalize(dH V3).getD 0=v at *;generalize(dH M).isSome=i1 at *;generalize(dH V3).isSome=i2 at *;simp;refine aQ N (fun i=>[(2,.ptr 0 0),(4,.str [97,y]),(7,.str C),(9,.int .u64 m),(10,.int .i64 k),(11,.int .u64 v),(12,.int .i64 l),(59,.agg C_),(60,.int .i64 i)]) (fun _=>[some (.cells [.int .i64 0,.int .i64 0,.int .u64 0,.int .u64 0])]) (fun _=>True) ?_ ?_
   ·simp[av,aj,aX,V.cl,C_]
   intro i hi _
   rcases acg hi with R|S
   ·by_cases j:N<6
    ·have h:=J j;simp only[aaB,beq_iff_eq] at h;obtain⟨⟨h,rfl⟩,rfl⟩:=h;subst R
     have:i=0\/i=1\/i=2\/i=3\/i=4\/i=5:=an
     rcases this with rfl|rfl|rfl|rfl|rfl|rfl<;>subst h<;>simp[iU,C_,Cd.cs,X,Y,P,Q,vM]
    ·have:N=6:=an
     subst this;subst R;simp[vM,Cd.cs]
   ·have hp:=I i S
    have:i=0\/i=1\/i=2\/i=3\/i=4\/i=5:=an
    rcases this with rfl|rfl|rfl|rfl|rfl|rfl
    all_goals rcases step _ hp with h|⟨h,rfl⟩|⟨h,rfl,rfl⟩
    all_goals
     first
     | change (([101,113]:List UInt8)==C)=_ at h
     | change (([110,101]:List UInt8)==C)=_ at h
     | change (([108,116]:List UInt8)==C)=_ at h
     | change (([108,101]:List UInt8)==C)=_ at h
     | change (([103,116]:List UInt8)==C)=_ at h
     | change (([103,101]:List UInt8)==C)=_ at h
     simp[h,P,Q,C_,av,aj,show aE .i64 0 1=1 from rfl,show aE .i64 1 1=2 from rfl,show aE .i64 2 1=3 from rfl,show aE .i64 3 1=4 from rfl,show aE .i64 4 1=5 from rfl,show aE .i64 5 1=6 from rfl,aX,V.cl,S]
  ·have F:d_ s=none:=r fun c b ⟨e,_⟩=>t (by
    have E:=b.1;simp only[Cd.right,decide_eq_true_eq] at E;simp only[abm.injEq,and_true] at e;have:=congrArg acF e.2;rw[abn] at this
    exact⟨e.1,an,an⟩)
   rw[F];simp;refine ax q1 ?_;simp;refine ax o ?_;simp;refine ax p ?_
   by_cases n:x=97
   ·by_cases g:(y.toNat:Int)<48
    ·simp[n,g,vM,Cd.cs]
    ·have H:(53<(y.toNat:Int))=True:=eq_true (by
      apply Classical.byContradiction;intro h
      exact t ⟨n,an,an⟩)
     simp[n,g,H,vM,Cd.cs]
   ·have hx:((x.toNat:Int) !=97)=true:=by have q:x.toNat≠97:=(fun h=>n (abd.1 h));simp;omega
    simp[hx,vM,Cd.cs]
 ·have F:d_ s=none:=r fun c b ⟨e,_⟩=>d (by rw[e];rfl);rw[F]
  have h_:((A.length:Int) !=2)=true:=by simp;omega
  simp;refine ax q1 ?_;simp;refine ax o ?_;simp;refine ax p ?_;simp[h_,vM,Cd.cs]
def zno:∀(a:List Cd) (k:Nat) (b:List Cd),iY k (a++b)=iY k a++iY (k+a.length) b
 | [],k,b=>by simp[iY]
 | c::a,k,b=>by
  simp only[aau,iY,aay];rw[zno a (k+1) b,show k+1+a.length=k+(a.length+1) by omega];simp
def Pe(r:Ru):List (List UInt8):=[[111,110],cY pU r.aA,cY (oU r.aA) r.nr,iT r.act]
def CZ(r:Ru)(i:Nat):List UInt8:=aL (Pe r++iY 0 (r.conds.take i))
def zro(r:Ru):CZ r 0=[111,110,32]++cY pU r.aA++[32]++cY (oU r.aA) r.nr++[32]++iT r.act:=by simp[CZ,Pe,iY,aL]
def zBh(r:Ru):CZ r r.conds.length=aL (qD r):=by rw[CZ,aaY];rfl
def zrp{r:Ru}{i:Nat}{c:Cd}(h:r.conds[i]?=some c):CZ r (i+1)=CZ r i++(32::xE i++32::Lx c):=by
 have hi:=(aae.1 h).1
 have a:r.conds.take (i+1)=r.conds.take i++[c]:=by rw[aaW,h];rfl
 have e:Pe r++iY 0 (r.conds.take (i+1))=(Pe r++iY 0 (r.conds.take i))++(xE i::k8 c):=by rw[a,zno,aaL,Nat.min_eq_left an,abl];simp[iY]
 rw[CZ,e,zor (by simp[Pe]) ir,BR _ (by simp[k8])];simp[CZ,Lx]
def zBi(k:Nat):(xE k).length<=3:=by unfold xE;split<;>simp
def ztI(r:Ru):∀ i,i<=r.conds.length->(CZ r i).length<=80+50*i
 | 0,_=>by
  have a:=Tq EF (v:=r.aA);have b:=Tq (EG r.aA) (v:=r.nr);have d:=zvO (v:=r.act);rw[zro];simp
  omega
 | i+1,h=>by
  have e:=ztI r i an;have c:r.conds[i]?=some r.conds[i]:=aab an;have a:=ztH r.conds[i];have b:=zBi i;rw[zrp c];simp;omega
def Ru.Pf(r:Ru):Prop:=(∀ c∈r.conds,c.ok)/\r.aA<4294967296/\r.nr<4294967296/\r.act<4294967296
def Ly(s:List UInt8)(e d:Bool):aw:=.cells [.str s,.bool e,.bool d]
def fK(H:ae)(b:Nat)(s:List UInt8)(e d:Bool):ae:=H.set b (some (Ly s e d))
structure uV (H:ae) (b:Nat) (s:List UInt8) (e d:Bool):Prop where
 hb:H[b]?=some (some (Ly s e d))
 shut:im H
section
variable {H:ae} {b:Nat} {s s':List UInt8} {e e' d d':Bool}
def uV.lb(h:uV H b s e d):b<H.length:=(aae.1 h.hb).1
def uV.cS(h:uV H b s e d):H[b]?=some (some (.cells [.str s,.bool e,.bool d])):=h.hb
@[simp] theorem C4 (H:ae) (b:Nat) (s:List UInt8) (e d:Bool):(fK H b s e d).length=H.length:=by simp[fK]
theorem Pg(h:im H)(s:List UInt8)(e d:Bool):im (fK H b s e d):=by intro n a;rw[C4] at a;unfold fK;rw[Ed,h n a];simp[Ly,aw.cl,aX,V.cl]
def uV.set(h:uV H b s e d)(s':List UInt8)(e' d':Bool):uV (fK H b s' e' d') b s' e' d':=⟨by rw[fK,aaF h.lb],Pg h.shut _ _ _⟩
def zpA:fK (fK H b s e d) b s' e' d'=fK H b s' e' d':=by simp[fK]
def TC(h:b<H.length)(R:ae):fK (H++R) b s e d=fK H b s e d++R:=by rw[fK,fK,abC _ _ h]
def im.aa1(h:im H){R:ae}(b:∀ m,H.length+R.length<=m->R.map (aax (aw.cl m))=R):im (H++R):=by intro m a;rw[aaM] at a;rw[aav,h m an,b m a]
def zy0(h:im H)(S:List UInt8)(i:Nat):aj (H.length+1) (H++[some (.dE S i)])=H++[some (.dE S i)]:=by have:=(h.app (r:=[some (.dE S i)]) (fun n=>by simp[aw.cl])).self;simpa using this
end
open Go Go.RowKit
variable {G:aM}
def gT(ws:List (List UInt8))(l:List UInt8):List UInt8:=ws.headD l
def aZ(ws:List (List UInt8)):List (List UInt8):=ws.tail
def eQ(l:List UInt8)(ws:List (List UInt8)):List UInt8:=if ws=[] then l else aL ws
def bn(ws:List (List UInt8)):Bool:=decide (ws=[])
section
variable {H:ae} {b:Nat} {l S:List UInt8} {ws:List (List UInt8)} {e d:Bool}
def uV.Ja{s:List UInt8}{e:Bool}(h:uV H b s e d){R:ae}(a:∀ n,R.map (aax (aw.cl n))=R):uV (H++R) b s e d :=
 ⟨by rw[aam h.lb];exact h.hb,h.shut.app a⟩
def zqi[dP G](h:uV H b S e d)(x:Int):SF G 464 [.ptr b 0,.int .i64 x] H (.a_ []) (fK H b S e (d||x !=0)):=by
 refine ke dP.afw (aaa rfl) ?_;have c:=h.cS;have a:=(h.set S e (d||x !=0)).shut.self;simp only[fK,Ly,abi] at a |-
 cases d<;>simp[c]<;>simpa using a
def zvS[dP G](h:uV H b S false d)(P:S.length<4611686018427387904) :
  SF G 463 [.ptr b 0] H (.str (fR 32 S)) (fK H b (if(fR 32 S).length<S.length then iz 32 S else S) (!decide ((fR 32 S).length<S.length)) d):=by
 refine ke dP.afv (aaa rfl) ?_;obtain⟨q,g,t,k,_⟩:=EJ 32 S;obtain⟨w,u⟩:∃ w,w=fR 32 S:=⟨_,rfl⟩;rw[<-u] at q g t k |-
 have C:iz 32 S=S.drop (w.length+1):=by rw[u];rfl
 rw[C];have v:=h.cS;have c:=h.lb
 have l:∀ x,(H++[x])[b]?=some (some (.cells [.str S,.bool false,.bool d])):=fun x=>by rw[aam c];exact v
 have o:∀ x:Option aw,(H++[x])[H.length]?=some x:=fun x=>by rw[aaw an];simp
 have z:∀ x y,(H++[x]).set b y=H.set b y++[x]:=fun x y=>by rw[abC _ _ c]
 have D:∀ x y,(H.set b y++[x])[b]?=some y:=fun x y=>by rw[aam (by simpa using c),aaF c]
 have A:=zy0 h.shut S;have B:(b<H.length+1)=True:=eq_true an;have f:=fun s e r=>(Pg (b:=b) h.shut s e d).back r;simp only[C4] at f;simp only[fK,Ly] at f |-;simp[v,l];refine wu (S:=Nat) (fun i=>S.length+1-i) (fun i=>[(0,.ptr b 0),(17,.ptr H.length 0)]) (fun i=>H++[some (.dE S i)]) (fun i=>i<=w.length) 0 ?_ ?_
 ·simp[av,A,B]
 intro i hi
 by_cases E:i<w.length
 ·obtain⟨r,n,p,F,Q,R⟩:=zqd (m:=32) (by decide) E q (fun j _ I=>t j I) k
  have J:i<S.length:=an
  have a:((r:Int)==32)=false:=I8 (b:=32) F;simp[J,p,a,o,av];exact⟨i+n,by simp only;omega,an,by simp[av,B],by simp[A]⟩
 ·have hi:i=w.length:=an
  subst hi
  by_cases a:w.length<S.length
  ·have p:=I6 (k a) (by decide);have K:((w.length:Int)<=(S.length:Int))=True:=eq_true an
   have L:aE .i64 (w.length:Int) 1=((w.length+1:Nat):Int):=by rw[ey]<;>omega
   have M:(S.drop (w.length+1)).take (S.length-(w.length+1))=S.drop (w.length+1):=aap ir;have N:(((w.length+1:Nat):Int)<=(S.length:Int))=True:=eq_true an;simp[a,p,K,L,M,N,g,l,o,z,f,-aad]
  ·have O:w=S:=by rw[<-g];exact aap an
   simp[a,O,l,o,z,D,f]
def Jc[dP G](c:∀ w∈ws,gC w)(h:uV H b (eQ l ws) (bn ws) d)(a:(aL ws).length<4611686018427387904) :
  SF G 463 [.ptr b 0] H (.str (gT ws [])) (fK H b (eQ (gT ws l) (aZ ws)) (bn (aZ ws)) (d||bn ws)):=by
 match ws,c,h,a with
 | [],_,h,_ =>
  refine ke dP.afv (aaa rfl) ?_;have e:=h.cS;have f:=(h.set (eQ l []) true true).shut.self;simp only[fK,Ly,abi,bn,eQ,gT,aZ,if_true,List.headD_nil,List.tail_nil,decide_true,Bool.or_true] at e f |-
  simp[e,f]
 | [w],c,h,a =>
  have:=zvS (G:=G) (S:=w) h a;rw[show fR 32 w=w from zrk (c w ir)] at this
  simpa[bn,eQ,gT,aZ] using this
 | w::v::r,c,h,a =>
  have g:eQ l (w::v::r)=w++32::aL (v::r):=rfl;have i:aL (w::v::r)=w++32::aL (v::r):=rfl;rw[g] at h;rw[i] at a;have:=zvS (G:=G) h a;have t:=I9 (r:=aL (v::r)) (c w ir);rw[t.1,t.2,if_pos ir,decide_eq_true ir] at this;simpa[bn,eQ,gT,aZ] using this
def zlU(w:List UInt8)(ws:List (List UInt8)):(aL ws).length<=(aL (w::ws)).length:=by
 cases ws with
 | nil=>simp[aL]
 | cons v r=>rw[BR w ir];simp;omega
def BU(ws:List (List UInt8)):(aL (aZ ws)).length<=(aL ws).length:=by
 cases ws with
 | nil=>simp[aL,aZ]
 | cons v r=>exact zlU v r
def EK(ws:List (List UInt8)):(gT ws []).length<=(aL ws).length:=by
 match ws with
 | []=>simp[aL,gT]
 | [w]=>simp[aL,gT]
 | w::v::r=>simp[aL,gT]
def xF(ws:List (List UInt8)):List UInt8:=gT ws []++32::(gT (aZ ws) []++32::(gT (aZ (aZ ws)) []++32::gT (aZ (aZ (aZ ws))) []))
def CI(l:List UInt8)(ws:List (List UInt8)):List UInt8:=gT (aZ (aZ (aZ ws))) (gT (aZ (aZ ws)) (gT (aZ ws) (gT ws l)))
def zt4[cP G][bp G][fU G][dP G](u:∀ w∈ws,gC w)(h:uV H b (eQ l ws) (bn ws) d)(S:(aL ws).length<1152921504606846976) :
  SF G 465 [.ptr b 0] H (.agg ((d_ (xF ws)).getD ⟨0,0,0,0⟩).cs) (fK H b (eQ (CI l ws) (aZ (aZ (aZ (aZ ws))))) (bn (aZ (aZ (aZ (aZ ws))))) (d||bn (aZ (aZ (aZ ws)))||(d_ (xF ws)).isNone)):=by
 refine ke dP.afx (aaa rfl) ?_;have T:=BU ws;have U:=BU (aZ ws);have W:=BU (aZ (aZ ws));have X:=EK ws;have Y:=EK (aZ ws);have k3:=EK (aZ (aZ ws));have k4:=EK (aZ (aZ (aZ ws)));have n1:∀ w∈(aZ ws),gC w:=fun w h=>u w (aaU h);have v:∀ w∈(aZ (aZ ws)),gC w:=fun w h=>n1 w (aaU h);have L:∀ w∈(aZ (aZ (aZ ws))),gC w:=fun w h=>v w (aaU h)
 have M:(xF ws).length<4611686018427387904:=by simp only[xF,aaM,aay];omega
 have m:=zt3 (G:=G) (xF ws) M;obtain⟨Z,y⟩:∃ Z:ae,Z=[some (.cells [.int .i64 0,.int .i64 0,.int .u64 0,.int .u64 0])]:=⟨_,rfl⟩
 have a:∀ n,Z.map (aax (aw.cl n))=Z:=fun n=>by rw[y];simp[aw.cl,aX,V.cl]
 have z:=h.Ja (R:=Z) a;have q1:=Jc (G:=G) u z an;have A:=z.set (eQ (gT ws l) (aZ ws)) (bn (aZ ws)) (d||bn ws);have p:=Jc (G:=G) n1 A an;have B:=A.set (eQ (gT (aZ ws) (gT ws l)) (aZ (aZ ws))) (bn (aZ (aZ ws))) (d||bn ws||bn (aZ ws));have q:=Jc (G:=G) v B an;have C:=B.set (eQ (gT (aZ (aZ ws)) (gT (aZ ws) (gT ws l))) (aZ (aZ (aZ ws)))) (bn (aZ (aZ (aZ ws)))) (d||bn ws||bn (aZ ws)||bn (aZ (aZ ws)))
 have f:=Jc (G:=G) L C an;obtain⟨g,i⟩:∃ g,g=(d||bn ws||bn (aZ ws)||bn (aZ (aZ ws))||bn (aZ (aZ (aZ ws)))):=⟨_,rfl⟩
 have D:g=(d||bn (aZ (aZ (aZ ws)))):=by
  rw[i]
  match ws with
  | []=>simp[bn,aZ]
  | [_]=>simp[bn,aZ]
  | [_,_]=>simp[bn,aZ]
  | _::_::_::r=>simp[bn,aZ]
 rw[<-i] at f;have h4:=C.set (eQ (CI l ws) (aZ (aZ (aZ (aZ ws))))) (bn (aZ (aZ (aZ (aZ ws))))) g;obtain⟨c,E⟩:∃ c,c=(d_ (xF ws)).getD ⟨0,0,0,0⟩:=⟨_,rfl⟩;have N:=(h.set (eQ (CI l ws) (aZ (aZ (aZ (aZ ws))))) (bn (aZ (aZ (aZ (aZ ws))))) g).Ja (R:=Z++[some (.cells c.cs)]) (fun n=>by rw[aav,a];simp[aw.cl,aX,V.cl,Cd.cs]);have F:=h.lb
 have I:∀(s:List UInt8) (e d:Bool) (s':List UInt8) (e' d':Bool) (R:ae),fK (fK H b s e d++R) b s' e' d'=fK H b s' e' d'++R:=fun s e d s' e' d' R=>by rw[TC (by simpa using F),zpA]
 simp only[TC F,I] at q1 p q f;have t:=zqi (G:=G) N (if d_ (xF ws)=none then 2 else 0)
 have O:((if d_ (xF ws)=none then(2:Int) else 0) !=0)=(d_ (xF ws)).isNone:=by cases d_ (xF ws)<;>rfl
 rw[I,O,D] at t;rw[D] at f ;have J:=fun s e d' r=>(Pg (b:=b) h.shut s e d').back r;simp only[C4] at J;subst y
 have P:∀(s:List UInt8) (e d:Bool) (r:ae) (k:Nat),(fK H b s e d++r)[H.length+k]?=r[k]?:=fun s e d r k=>by rw[aaw ir,C4];congr 1;omega
 have zy:∀(s:List UInt8) (e d:Bool) (r:ae),(fK H b s e d++r)[H.length]?=r[0]?:=fun s e d r=>P s e d r 0
 have K:∀(s:List UInt8) (e d:Bool) (r:ae) (k:Nat) (x:Option aw),(fK H b s e d++r).set (H.length+k) x=fK H b s e d++r.set k x:=fun s e d r k x=>by rw[aaQ _ _ ir,C4];congr 1;congr 1;omega
 have Q:∀(s:List UInt8) (e d:Bool) (r:ae) (x:Option aw),(fK H b s e d++r).set H.length x=fK H b s e d++r.set 0 x:=fun s e d r x=>K s e d r 0 x;have j:∀ n:Nat,n<5764607523034234880->(n<=9223372036854775807)=True:=fun n h=>eq_true an;generalize d_ (xF ws)=o at *;simp only[vM,<-E,xF] at m;rw[<-E];simp only[Cd.cs,aau,aaT] at m q1 p q f t |-;generalize gT ws []=w1 at *;generalize gT (aZ ws) []=w2 at *
 generalize gT (aZ (aZ ws)) []=w3 at *;generalize gT (aZ (aZ (aZ ws))) []=w4 at *;simp;refine cL q1 ?_;simp(disch:=(first|omega|(simp;omega))) [j];refine cL p ?_;simp(disch:=(first|omega|(simp;omega))) [j];refine cL q ?_;simp(disch:=(first|omega|(simp;omega))) [j];refine cL f ?_;simp(disch:=(first|omega|(simp;omega))) [j];refine ax m ?_;simp[K];refine cL t ?_;simp[Q,J]
end
open Go Go.RowKit
variable {G:aM}
def ztJ{rs:List Nat}{f:Nat}{args:List V}{r:V}{H H':ae}{base:Nat}{d:Option Nat}{os:List aD}{K:List Kt}{e:Env}{Q:Ex->Env->ae->Prop}(h:SF G f args H r H')(b:Kh e rs H H')
  (c:WO G base os K (e.put d r) H' Q):zEi G rs f args base d os K e H Q:=by
 obtain⟨g,H1,i,j,a⟩:=h;exact⟨g,H1,i,by rw[a];exact b,by rw[j,a];exact c⟩
def TD:∀{cs a:List Cd} {k:Nat} {ws:List (List UInt8)},(∀ c∈cs,c.dc)->(∀ c∈a,c.dc)->iY k cs++ws=iY k a->∃ t,a=cs++t/\ws=iY (k+cs.length) t
 | [],a,k,ws,_,_,h=>⟨a,rfl,h⟩
 | c::cs,[],k,ws,_,_,h=>by simp[iY] at h
 | c::cs,c'::a,k,ws,d,f,h=>by
  have g:∀ c:Cd,(k8 c).length=4:=fun _=>rfl;simp only[iY,aau,abm.injEq,true_and,abq] at h;have i:=List.append_inj h (by rw[g,g]);have e:=zrl (d c ir) (f c' ir) i.1;subst e;obtain⟨t,rfl,j⟩:=TD (fun x b=>d x (by simp[b])) (fun x b=>f x (by simp[b])) i.2;exact⟨t,rfl,by rw[j,aay,show k+1+cs.length=k+(cs.length+1) by omega]⟩
def zrq:∀(a b:List Cd) (k:Nat),iY k (a++b)=iY k a++iY (k+a.length) b
 | [],b,k=>rfl
 | c::a,b,k=>by simp[iY,zrq a b (k+1),show k+1+a.length=k+(a.length+1) by omega]
def ztK{ws:List (List UInt8)}(f:∀ w∈ws,gC w){c:Cd}(g:c.dc):(bn (aZ (aZ (aZ ws)))=false/\d_ (xF ws)=some c)↔∃ r,ws=k8 c++r:=by
 constructor
 ·rintro⟨i,j⟩
  match ws,f,i,j with
  | [],_,h,_=>simp[bn,aZ] at h
  | [_],_,h,_=>simp[bn,aZ] at h
  | [_,_],_,h,_=>simp[bn,aZ] at h
  | [_,_,_],_,h,_=>simp[bn,aZ] at h
  | a::b::x::d::r,f,_,h =>
   have e:aL (k8 c)=aL [a,b,x,d]:=(Pa h).2
   have:=Tv (by simp[k8]) ir (Tw g) (fun w h=>f w (by
    simp only[aal,abt,or_false] at h |-
    rcases h with rfl|rfl|rfl|rfl<;>simp)) e
   exact⟨r,by rw[this];rfl⟩
 ·rintro⟨r,rfl⟩;exact⟨by simp[bn,aZ,k8],zm7 g⟩
def zou:∀ l:List (List UInt8),l.length<=(aL l).length+1
 | []=>by simp
 | [w]=>by simp
 | w::v::r=>by
  have:=zou (v::r);rw[BR w ir];simp at this |-;omega
def zHn{f b:Nat}{body:bc}{a:List jw}{args:List V}{H:ae}{R:V->ae->Prop}(d:G f=some ⟨b,body,a⟩)(e:args.length<=b)
  (h:W G body [] (ib (p_ 0 args)) H (QX a fun g H1=>R (g.cl H.length) (aj H.length H1))):∃ r H',SF G f args H r H'/\R r H':=by
 obtain⟨x,l,H1,c,i,vs,j,k⟩:=h;rw[<-MP] at c;exact⟨_,_,⟨_,_,.fn d e c i j,rfl,rfl⟩,k⟩
def zDx(ws:List (List UInt8)):aZ (aZ (aZ (aZ ws)))=ws.drop 4:=by
 match ws with
 | []=>rfl
 | [_]=>rfl
 | [_,_]=>rfl
 | [_,_,_]=>rfl
 | _::_::_::_::r=>rfl
section
variable {H:ae} {b:Nat} {l:List UInt8} {ws:List (List UInt8)} {d:Bool}
def EM(o:Option Nat):((if o=none then(2:Int) else 0) !=0)=o.isNone:=by cases o<;>rfl
def zDy[cP G][bN G][bp G][cW G][fU G][dP G](Y:∀ w∈ws,gC w)
  (h:uV H b (eQ l ws) (bn ws) false) (hl:(aL ws).length<1048576) :
  ∃ s e hg x,SF G 466 [.ptr b 0] H (.agg x.cs) (fK H b s e hg)/\(hg=false->jh x=true/\x.Pf/\qD x=[111,110]::ws)/\(hg=true->∀ y,jh y=true->y.Pf->qD y≠[111,110]::ws):=by
 obtain⟨M,hM⟩:∃ M,M=gT ws []:=⟨_,rfl⟩;obtain⟨C,hC⟩:∃ C,C=gT (aZ ws) []:=⟨_,rfl⟩;obtain⟨A,hA⟩:∃ A,A=gT (aZ (aZ ws)) []:=⟨_,rfl⟩;obtain⟨o,Jd⟩:∃ o,o=aZ (aZ (aZ ws)):=⟨_,rfl⟩;obtain⟨a,ha⟩:∃ a,a=(oV pU M).getD 0:=⟨_,rfl⟩;obtain⟨n,N⟩:∃ n,n=(oV (oU a) C).getD 0:=⟨_,rfl⟩;obtain⟨v,hv⟩:∃ v,v=(eP A).getD 0:=⟨_,rfl⟩;have t1:=BU ws;have t2:=BU (aZ ws);have t3:=BU (aZ (aZ ws));have k1:=EK ws;have k2:=EK (aZ ws)
 have k3:=EK (aZ (aZ ws));have n1:∀ w∈aZ ws,gC w:=fun w h=>Y w (aaU h);have n2:∀ w∈aZ (aZ ws),gC w:=fun w h=>n1 w (aaU h);have n3:∀ w∈o,gC w:=fun w h=>n2 w (aaU (by rw[Jd] at h;exact h));obtain⟨d1,hh⟩:∃ d1,d1=(bn ws||(oV pU M).isNone):=⟨_,rfl⟩;obtain⟨d2,Lv⟩:∃ d2,d2=(d1||bn (aZ ws)||(oV (oU a) C).isNone):=⟨_,rfl⟩;obtain⟨B,hj⟩:∃ B,B=(d2||bn (aZ (aZ ws))||(eP A).isNone):=⟨_,rfl⟩;have pM:=zrm (G:=G) M (by rw[hM];omega)
 have pC:=zvP (G:=G) a C (by rw[hC];omega);have pA:=zmd (G:=G) A (by rw[hA];omega);simp only[jW] at pM pC pA;rw[<-ha] at pM;rw[<-N] at pC;rw[<-hv] at pA;have lb:=h.lb;have O:=h.shut
 have ra:∀(s:List UInt8) (e d:Bool) (s':List UInt8) (e' d':Bool) (R:ae),fK (fK H b s e d++R) b s' e' d'=fK H b s' e' d'++R:=fun s e d s' e' d' R=>by rw[TC (by simpa using lb),zpA]
 have Ph:∀(R:ae),(∀ n,H.length+R.length<=n->R.map (aax (aw.cl n))=R)->∀(s:List UInt8) (e d:Bool),uV (fK H b s e d++R) b s e d:=fun R F s e d =>
  ⟨by rw[aam (by simpa using lb)];exact(h.set _ _ _).hb,(Pg O _ _ _).aa1 (R:=R) (by rw[C4];exact F)⟩
 have E:∀(R:ae),(∀ n,H.length+R.length<=n->R.map (aax (aw.cl n))=R)->∀(ws:List (List UInt8)),(∀ w∈ws,gC w)->(aL ws).length<1048576->∀ l d,
   SF G 463 [.ptr b 0] (fK H b (eQ l ws) (bn ws) d++R) (.str (gT ws [])) (fK H b (eQ (gT ws l) (aZ ws)) (bn (aZ ws)) (d||bn ws)++R):=by
  intro R F ws Y hD l d;have:=Jc (G:=G) Y (Ph R F (eQ l ws) (bn ws) d) an;rwa[ra] at this
 have Je:∀(R:ae),(∀ n,H.length+R.length<=n->R.map (aax (aw.cl n))=R)->∀(s:List UInt8) (e d:Bool) (x:Int),SF G 464 [.ptr b 0,.int .i64 x] (fK H b s e d++R) (.a_ []) (fK H b s e (d||x !=0)++R):=by intro R F s e d x;have:=zqi (G:=G) (Ph R F s e d) x;rwa[ra] at this
 have bY:fK H b (eQ l ws) (bn ws) false=H:=acs fun i=>by
  unfold fK;rw[abG];split
  ·rename_i u;first|(rw[if_pos lb,<-u,h.hb];done)|(rw[<-u,h.hb];done)
  ·rfl
 have gk:∀(s:List UInt8) (e d:Bool) (R:ae) (k:Nat),(fK H b s e d++R)[H.length+k]?=R[k]?:=fun s e d R k=>by rw[aaw ir,C4];congr 1;omega
 have zy:∀(s:List UInt8) (e d:Bool) (R:ae),(fK H b s e d++R)[H.length]?=R[0]?:=fun s e d R=>gk s e d R 0
 have sk:∀(s:List UInt8) (e d:Bool) (R:ae) (k:Nat) (x:Option aw),(fK H b s e d++R).set (H.length+k) x=fK H b s e d++R.set k x:=fun s e d R k x=>by rw[aaQ _ _ ir,C4];congr 1;congr 1;omega
 have BE:∀(s:List UInt8) (e d:Bool) (R:ae) (x:Option aw),(fK H b s e d++R).set H.length x=fK H b s e d++R.set 0 x:=fun s e d R x=>sk s e d R 0 x
 have gb:∀(s:List UInt8) (e d:Bool) (R:ae),(fK H b s e d++R)[b]?=some (some (.cells [.str s,.bool e,.bool d])):=fun s e d R=>by rw[aam (by simpa using lb)];exact(h.set s e d).hb
 have sb:∀(s:List UInt8) (e d:Bool) (s':List UInt8) (e' d':Bool) (R:ae),(fK H b s e d++R).set b (some (.cells [.str s',.bool e',.bool d']))=fK H b s' e' d'++R:=fun s e d s' e' d' R=>ra s e d s' e' d' R
 have bk:∀(s:List UInt8) (e d:Bool) (R:ae),aj H.length (fK H b s e d++R)=fK H b s e d:=fun s e d R=>by have:=(Pg (b:=b) O s e d).back R;rwa[C4] at this
 have tr:∀(s:List UInt8) (e d:Bool) (R:ae) (n:Nat),n=H.length+R.length->(∀ n,H.length+R.length<=n->R.map (aax (aw.cl n))=R)->aj n (fK H b s e d++R)=fK H b s e d++R:=fun s e d R n N F=>by
  subst N;have:=(Ph R F s e d).shut.self;simpa using this
 obtain⟨C0,hz⟩:∃ C0:Option aw,C0=some (.cells [.int .u32 0,.int .u32 0,.vs [] .full,.int .u32 0]):=⟨_,rfl⟩
 have R0:∀(a n v:Int) (m:Nat),([C0,some (.cells [.int .u32 a,.int .u32 n,.vs [] .full,.int .u32 v])]:ae).map (aax (aw.cl m))=[C0,some (.cells [.int .u32 a,.int .u32 n,.vs [] .full,.int .u32 v])]:=fun a n v m=>by
  subst hz;simp[aw.cl,aX,V.cl,Tk.cl]
 have q1:=E _ (fun m _=>R0 0 0 0 m) ws Y hl l false;rw[bY,<-hM] at q1;have m1:=Je _ (fun m _=>R0 a 0 0 m) (eQ (gT ws l) (aZ ws)) (bn (aZ ws)) (false||bn ws) (if oV pU M=none then 2 else 0);rw[EM,abc,<-hh] at m1;rw[abc] at q1;have q2:=E _ (fun m _=>R0 a 0 0 m) (aZ ws) n1 an (gT ws l) d1;rw[<-hC] at q2;have m2:=Je _ (fun m _=>R0 a n 0 m) (eQ (gT (aZ ws) (gT ws l)) (aZ (aZ ws))) (bn (aZ (aZ ws))) (d1||bn (aZ ws)) (if oV (oU a) C=none then 2 else 0)
 rw[EM,<-Lv] at m2;have q3:=E _ (fun m _=>R0 a n 0 m) (aZ (aZ ws)) n2 an (gT (aZ ws) (gT ws l)) d2;rw[<-hA,<-Jd] at q3;obtain⟨l3,Es⟩:∃ l3,l3=gT (aZ (aZ ws)) (gT (aZ ws) (gT ws l)):=⟨_,rfl⟩;rw[<-Es] at q3;have m3:=Je _ (fun m _=>R0 a n v m) (eQ l3 o) (bn o) (d2||bn (aZ (aZ ws))) (if eP A=none then 2 else 0);rw[EM,<-hj] at m3
 have hp:∀ cs:List Cd,(∀ c∈cs,c.dc)->o=iY 0 cs->B=false->cs.length<=4->jh ⟨a,n,cs,v⟩=true/\(⟨a,n,cs,v⟩:Ru).Pf/\qD ⟨a,n,cs,v⟩=[111,110]::ws:=by
  intro cs dO hE hd QA;rw[hj,Lv,hh] at hd;simp only[abD] at hd;obtain⟨⟨⟨⟨⟨g1,P⟩,Q⟩,g4⟩,g5⟩,g6⟩:=hd;obtain⟨a',ow⟩:=aaD.1 (by rw[<-aa9,P];rfl);obtain⟨n',zU⟩:=aaD.1 (by rw[<-aa9,g4];rfl);obtain⟨v',Cw⟩:=aaD.1 (by rw[<-aa9,g6];rfl);rw[ow] at ha;rw[zU] at N;rw[Cw] at hv;simp only[abJ] at ha N hv;subst ha;subst N;subst hv;have e1:=Tu ow;have e2:=Tu zU;have e3:=BS Cw;have T:=Lu e3.1;refine⟨?_,⟨fun c I=>(dO c I).2,e1.1,e2.1,T⟩,?_⟩
  ·simp only[jh,aaB,decide_eq_true_eq,abK];exact⟨⟨fun c I=>(dO c I).1,e3.1⟩,QA⟩
  ·match ws,g1,Q,g5 with
   | [],g,_,_=>simp[bn] at g
   | [_],_,g,_=>simp[bn,aZ] at g
   | [_,_],_,_,g=>simp[bn,aZ] at g
   | x::y::z::r,_,_,_ =>
    simp only[gT,aZ,acz,acD] at hM hC hA Jd;simp only[qD,aau,aaT,e1.2,e2.2,e3.2,<-hE];rw[hM,hC,hA,Jd]
 have Pj:∀ y:Ru,jh y=true->y.Pf->qD y=[111,110]::ws->B=false/\o=iY 0 y.conds/\(∀ c∈y.conds,c.dc)/\y.conds.length<=4:=by
  intro y hm ho u;simp only[jh,aaB,decide_eq_true_eq,abK] at hm;obtain⟨⟨y1,y2⟩,y3⟩:=hm;obtain⟨o1,o2,o3,o4⟩:=ho;simp only[qD,aau,aaT,abm.injEq,true_and] at u;subst u;simp only[gT,aZ,acz,acD] at hM hC hA Jd;have e1:=Lt EF o2;rw[<-hM] at e1;rw[e1] at ha;simp only[abJ] at ha;have e2:=Lt (EG y.aA) o3;rw[<-hC,<-ha] at e2;have e3:=Gv y2;rw[<-hA] at e3;refine⟨?_,Jd,fun c I=>⟨y1 c I,o1 c I⟩,y3⟩;rw[hj,Lv,hh,e1,e2,e3]
  simp[bn,aZ]
 suffices hs:∃ s e D cs,SF G 466 [.ptr b 0] H (.agg (⟨a,n,cs,v⟩:Ru).cs) (fK H b s e (D||decide (4<cs.length)))/\(D=false->B=false/\(∀ c∈cs,c.dc)/\o=iY 0 cs)/\(D=true->B=true\/∀ p,(∀ c∈p,c.dc)->o≠iY 0 p) by
  obtain⟨s,e,D,cs,h1,h2,h3⟩:=hs;refine⟨s,e,_,_,h1,?_,?_⟩
  ·intro T;simp only[abD,decide_eq_false_iff_not] at T;obtain⟨g1,P,Q⟩:=h2 T.1;exact hp cs P Q g1 an
  ·intro T y hm ho u;obtain⟨f1,f2,f3,f4⟩:=Pj y hm ho u
   cases FJ:D with
   | true =>
    rcases h3 FJ with h|h
    ·rw[f1] at h;cases h
    ·exact h _ f3 f2
   | false =>
    obtain⟨g1,P,Q⟩:=h2 FJ;rw[FJ] at T;simp only[abc,decide_eq_true_eq] at T;obtain⟨t,ht,r9⟩:=TD (ws:=[]) (k:=0) f3 P (by rw[abk,<-f2,Q])
    have:t=[]:=by
     cases t with
     | nil=>rfl
     | cons c t=>simp[iY] at r9
    subst this;rw[ht,abk] at T;omega
 obtain⟨R,F⟩:∃ R:V->ae->Prop,∀ r H',R r H'↔∃ s e D cs,r=.agg (⟨a,n,cs,v⟩:Ru).cs/\H'=fK H b s e (D||decide (4<cs.length))/\(D=false->B=false/\(∀ c∈cs,c.dc)/\o=iY 0 cs)/\(D=true->B=true\/∀ p,(∀ c∈p,c.dc)->o≠iY 0 p):=⟨_,fun _ _=>Iff.rfl⟩
 suffices hs:∃ r H',SF G 466 [.ptr b 0] H r H'/\R r H' by
  obtain⟨r,H',h1,h2⟩:=hs;obtain⟨s,e,D,cs,rfl,rfl,h3⟩:=(F _ _).1 h2;exact⟨s,e,D,cs,h1,h3⟩
 refine zHn dP.afy (aaa rfl) ?_;subst hz;simp;refine cL q1 ?_;simp;refine ax pM ?_;simp[sk];refine cL m1 ?_;simp;refine ztJ q2 ?_ ?_
 ·intro k hk id bI;simp at hk;subst hk;simp at bI;subst bI;rw[gk,gk]
 simp;refine ax pC ?_;simp[sk];refine cL m2 ?_;simp;refine cL q3 ?_;simp;refine ax pA ?_;simp[sk];refine cL m3 ?_;simp[sk];obtain⟨Z,K⟩:∃ Z:List Cd->ae,∀ cs,Z cs=[some (.cells [.int .u32 0,.int .u32 0,.vs [] .full,.int .u32 0]),some (.cells [.int .u32 a,.int .u32 n,.vs (CL cs) (.own (H.length+2)),.int .u32 v]),some (.zone cs.length)]:=⟨_,fun _=>rfl⟩
 have hq:∀ i,(Z i).length=3:=fun i=>by rw[K];rfl
 have TE:∀ i n,H.length+(Z i).length<=n->(Z i).map (aax (aw.cl n))=Z i:=fun i n N=>by
  rw[hq] at N;rw[K];simp[aw.cl,aX,V.cl,Tk.cl,show H.length+2<n by omega]
 have tz:∀ s e d i,aj (H.length+3) (fK H b s e d++Z i)=fK H b s e d++Z i:=fun s e d i=>tr s e d (Z i) _ (by rw[hq]) (TE i);have TG:(b<H.length+3)=True:=eq_true an;have wl:∀ l:List (List UInt8),l.length<=(aL l).length+1:=zou;have hK:=wl o
 have hG:(aL o).length<1048576:=by rw[Jd];omega
 refine wu (S:=List UInt8×List (List UInt8)×Bool×List Cd) (fun q=>if q.2.2.1 then 0 else q.2.1.length) (fun q=>[(0,.ptr b 0),(2,.ptr H.length 0),(3,.ptr (H.length+1) 0),(5,.str (xE q.2.2.2.length))])
  (fun q=>fK H b (eQ q.1 q.2.1) (bn q.2.1) q.2.2.1++Z q.2.2.2)
  (fun q=>(∀ w∈q.2.1,gC w)/\(aL q.2.1).length<1048576/\q.2.2.2.length+q.2.1.length<=1048577/\(q.2.2.1=false->B=false/\(∀ c∈q.2.2.2,c.dc)/\o=iY 0 q.2.2.2++q.2.1)/\(q.2.2.1=true->B=true\/∀ p,(∀ c∈p,c.dc)->o≠iY 0 p)) (l3,o,B,[]) ?_ ?_
 ·have t0:=tz (eQ l3 o) (bn o) B [];rw[K] at t0;simp only[show CL []=[] from rfl,ab3] at t0;refine⟨⟨n3,hG,by simp;omega,fun h=>⟨h,ir,rfl⟩,fun h=>.inl h⟩,?_,?_⟩
  ·simp[av,xE,TG]
  ·simp[t0,K,TG,show CL []=[] from rfl]
 rintro⟨l,ws,d,cs⟩ ⟨p1,p2,p3,p4,p5⟩;simp only at p1 p2 p3 p4 p5 |-
 have j:(d||bn ws)=true->∃ s e D p,V.agg (⟨a,n,cs,v⟩:Ru).cs=.agg (⟨a,n,p,v⟩:Ru).cs/\fK H b (eQ l ws) (bn ws) (d||decide (4<cs.length))=fK H b s e (D||decide (4<p.length))/\(D=false->B=false/\(∀ c∈p,c.dc)/\o=iY 0 p)/\(D=true->B=true\/∀ p,(∀ c∈p,c.dc)->o≠iY 0 p):=by
  intro u;refine⟨_,_,d,cs,rfl,rfl,fun hd=>?_,p5⟩;rw[hd,abc] at u
  have:ws=[]:=by simpa[bn] using u
  have:=p4 hd;subst ws;rw[abk] at this;exact this
 have hF:(H.length+2<H.length)=False:=eq_false an
 cases hd:d with
 | true =>
  rw[hd] at j;have j:=(F _ _).2 (j rfl);simp only[Bool.true_or] at j;simp only[K]
  cases u:bn ws<;>rw[u] at j<;>simp[BE,gb,sb,bk,hF,Tk.cl]<;>simpa[Ru.cs] using j
 | false =>
  subst hd
  cases u:bn ws with
  | true =>
   have j:=(F _ _).2 (j (by rw[u];rfl));rw[u] at j
   by_cases h4:4<cs.length
   ·have Lz:(4<(cs.length:Int))=True:=eq_true an;simp only[K];simp[BE,gb,sb,bk,hF,Tk.cl,Lz];simpa[Ru.cs,h4] using j
   ·have Lz:(4<(cs.length:Int))=False:=eq_false an;simp only[K];simp[BE,gb,sb,bk,hF,Tk.cl,Lz]
    simpa[Ru.cs,h4] using j
  | false =>
   have aB:ws≠[]:=by intro h;rw[h] at u;simp[bn] at u
   obtain⟨w,Y⟩:∃ w,w=gT ws []:=⟨_,rfl⟩;obtain⟨U,hU⟩:∃ U,U=aZ ws:=⟨_,rfl⟩
   have vP:ws=w::U:=by
    cases ws with
    | nil=>exact absurd rfl aB
    | cons x y=>rw[Y,hU];rfl
   have nU:∀ w∈U,gC w:=fun x h=>p1 x (by rw[vP];simp[h])
   have lU:(aL U).length<=(aL ws).length:=by rw[hU];exact BU ws
   have q:=E (Z cs) (TE cs) ws p1 p2 l false;rw[<-Y,<-hU,u,abc] at q;obtain⟨l1,mg⟩:∃ l1,l1=gT ws l:=⟨_,rfl⟩;rw[<-mg] at q;obtain⟨J,hJ⟩:∃ J,J=xE cs.length:=⟨_,rfl⟩;obtain⟨d',AZ⟩:∃ d',d'=!(w==J):=⟨_,rfl⟩
   have FQ:=Ph (Z cs++[none]) (fun m hm=>by
    rw[aaM] at hm;rw[aav,TE cs m an]
    rfl) (eQ l1 U) (bn U) d'
   have qc:=zt4 (G:=G) nU FQ an;obtain⟨c,I⟩:∃ c,c=(d_ (xF U)).getD ⟨0,0,0,0⟩:=⟨_,rfl⟩;obtain⟨l2,h_⟩:∃ l2,l2=CI l1 U:=⟨_,rfl⟩;obtain⟨X,hX⟩:∃ X,X=aZ (aZ (aZ (aZ U))):=⟨_,rfl⟩;obtain⟨L,Jf⟩:∃ L,L=(d'||bn (aZ (aZ (aZ U)))||(d_ (xF U)).isNone):=⟨_,rfl⟩;rw[ra,<-I,<-h_,<-hX,<-Jf] at qc
   have hu:X=U.drop 4:=by rw[hX,zDx]
   have H6:xE (cs.length+1)=[97,110,100]:=by simp[xE]
   have jI:((cs.length+1)*32<=140737488355328)=True:=eq_true (by rw[vP] at p3;simp at p3;omega);have Gw:(∀ f∈CL cs,f.length=4)=True:=eq_true (by intro f hf;simp only[CL,aah] at hf;obtain⟨y,_,rfl⟩:=hf;rfl)
   have eE:CL cs++[c.cs]=CL (cs++[c]):=by simp[CL]
   have hy:aj (H.length+3) (fK H b (eQ l2 X) (bn X) L++(Z (cs++[c])++[none]))=fK H b (eQ l2 X) (bn X) L++Z (cs++[c]):=by have:=(Ph (Z (cs++[c])) (TE _) (eQ l2 X) (bn X) L).shut.back [none];rw[aaM,C4,hq] at this;rw[<-abq];exact this
   have lX:(aL X).length<=(aL U).length:=by rw[hX];have:=BU U;have:=BU (aZ U);have:=BU (aZ (aZ U));have:=BU (aZ (aZ (aZ U)));omega
   have x9:(if L=true then 0 else X.length)<(if false=true then 0 else ws.length)/\(∀ w∈X,gC w)/\(aL X).length<1048576/\(cs++[c]).length+X.length<=1048577/\(L=false->B=false/\(∀ x∈cs++[c],x.dc)/\o=iY 0 (cs++[c])++X)/\(L=true->B=true\/∀ p,(∀ c∈p,c.dc)->o≠iY 0 p):=by
    obtain⟨g1,P,Q⟩:=p4 rfl
    have fz:X.length<=U.length:=by rw[hu];simp
    have zN:ws.length=U.length+1:=by rw[vP];rfl
    refine⟨?_,fun x W=>nU x (aaV (by rw[hu] at W;exact W)),an,by simp;omega,fun h=>?_,fun h=>.inr fun p lf o_=>?_⟩
    ·split<;>simp<;>omega
    ·rw[Jf,AZ] at h;simp only[abD,Bool.not_eq_false',beq_iff_eq] at h;obtain⟨⟨h1,h2⟩,h3⟩:=h;obtain⟨c',iE⟩:=aaD.1 (by rw[<-aa9,h3];rfl);rw[iE] at I;simp only[abJ] at I;subst I;have TH:=(Pa iE).1;obtain⟨r,hr⟩:=(ztK nU TH).1 ⟨h2,iE⟩
     have hH:X=r:=by rw[hu,hr];rfl
     refine⟨g1,fun x W=>?_,?_⟩
     ·rcases aat.1 W with W|W
      ·exact P x W
      ·rw[aaA.1 W];exact TH
     ·rw[Q,vP,hr,zrq,h1,hJ,hH];simp[iY]
    ·obtain⟨t,ht,r9⟩:=TD (k:=0) P lf (by rw[<-Q,o_])
     cases t with
     | nil=>exact aB r9
     | cons c' t =>
      rw[vP,abl] at r9;simp only[iY,aau,abm.injEq] at r9;have TH:=lf c' (by rw[ht];simp);have:=(ztK nU TH).2 ⟨_,r9.2⟩;rw[Jf,AZ,r9.1,this.1,this.2,hJ] at h;simp at h
   rw[K] at hy;have hI:=K;simp only[K,aau,aaT] at q qc hy |-;simp only[Cd.cs] at qc eE;simp[gb,u];refine cL q ?_;rw[<-hJ];cases hB:(w==J)
   all_goals
    rw[hB] at AZ;simp only[Bool.not_true,Bool.not_false] at AZ;subst AZ;simp[gb,sb,hB];refine ztJ qc ?_ ?_
    ·intro k hk id bI;simp at hk;subst hk;simp at bI;subst bI;rw[gk,gk]
    simp(disch:=omega)[gk,sk,jI,eE,Gw];refine⟨(l2,X,L,cs++[c]),?_,x9.2,?_,?_⟩
    ·simpa using x9.1
    ·simp[av,H6,TG]
    ·simp only[hI];simpa[TG] using hy
end
open Go Go.RowKit
def gD(m:UInt8):List UInt8->List (List UInt8)
 | []=>[[]]
 | b::s=>if b=m then []::gD m s else match gD m s with
  | []=>[[b]]
  | w::r=>(b::w)::r
def Ad(m:UInt8):∀ s,gD m s≠[]
 | []=>by simp[gD]
 | b::s=>by
  unfold gD;split
  ·simp
  ·split<;>simp
def zvT(m:UInt8):∀ s,gD m s=fR m s::(if(fR m s).length<s.length then gD m (iz m s) else [])
 | []=>by simp[gD,fR]
 | b::s=>by
  by_cases h:b=m
  ·subst h
   have:fR b (b::s)=[]:=by simp[fR]
   simp[gD,this,iz]
  ·have a:fR m (b::s)=b::fR m s:=by unfold fR;rw[aa2 (by simpa using h)]
   have hd:iz m (b::s)=iz m s:=by unfold iz;rw[a];rfl
   have c:=zvT m s;rw[show gD m (b::s)=(if b=m then []::gD m s else match gD m s with|[]=>[[b]]|w::r=>(b::w)::r) from rfl,if_neg h,c,a,hd];simp only[aay,Nat.add_lt_add_iff_right]
def TI:∀ s,aL (gD 32 s)=s
 | []=>rfl
 | b::s=>by
  have a:=TI s;have c:=Ad 32 s;unfold gD;split
  ·rename_i h;rw[BR [] c,a,h];rfl
  ·match d:gD 32 s,c with
   | w::r,_ =>
    rw[d] at a;simp only
    cases r with
    | nil=>simp only[aL] at a |-;rw[a]
    | cons v r=>rw[BR _ ir] at a |-;rw[<-a];rfl
def zBj(m:UInt8):∀ s,∀ w∈gD m s,∀ b∈w,b≠m
 | [],w,a=>by simp[gD] at a;subst a;simp
 | b::s,w,a=>by
  have c:=zBj m s;unfold gD at a;split at a
  ·rcases aal.1 a with rfl|a
   ·simp
   ·exact c w a
  ·rename_i e;split at a
   ·simp at a;subst a;simpa using e
   ·rename_i v r f;rw[f] at c
    rcases aal.1 a with rfl|a
    ·intro x d
     rcases aal.1 d with rfl|d
     ·exact e
     ·exact c v ir x d
    ·exact c w (by simp[a])
def TJ(s:List UInt8):∀ w∈gD 32 s,gC w:=zBj 32 s
def zDz{l:List (List UInt8)}(a:l≠[])(b:∀ w∈l,gC w):gD 32 (aL l)=l :=
 Tv (Ad 32 _) a (TJ _) b (TI _)
def Ru.cJ(x:Ru):Prop:=jh x=true/\x.Pf
def BV{x:Ru}(h:x.cJ):(∀ c∈x.conds,c.dc)/\x.aA<4294967296/\x.nr<4294967296/\eg x.act=true/\x.conds.length<=4:=by obtain⟨h,b,d,e,f⟩:=h;simp only[jh,aaB,decide_eq_true_eq,abK] at h;exact⟨fun c a=>⟨h.1.1 c a,b c a⟩,d,e,h.1.2,h.2⟩
def zy1{x:Ru}(h:x.cJ):∀ w∈qD x,gC w:=by obtain⟨a,b,d,e,_⟩:=BV h;exact fun w f=>zsn (zyZ (fun c g=>a c g) b d (Lu e) w f)
def zDA(x:Ru):qD x≠[]:=by simp[qD]
def zBk{x y:Ru}(g:x.cJ)(i:y.cJ)(h:qD x=qD y):x=y:=by
 obtain⟨x1,x2,x3,x4,_⟩:=BV g;obtain⟨j,q,r,l,_⟩:=BV i;simp only[qD,aau,aaT,abm.injEq,true_and] at h;obtain⟨m,d,n,o⟩:=h;have a:=zos EF an an m;rw[a] at d;have e:=zos (EG _) an an d;have f:=zqc x4 l n;obtain⟨t,b,p⟩:=TD (ws:=[]) (k:=0) x1 j (by rw[abk];exact o)
 have:t=[]:=by cases t with
  | nil=>rfl
  | cons c t=>simp[iY] at p
 rw[this,abk] at b;cases x;cases y;simp only at a e f b;subst a;subst e;subst f;subst b;rfl
noncomputable def tu(w:List UInt8):Option Ru:=yF fun x=>x.cJ/\qD x=gD 32 w
noncomputable def oG(w:List UInt8):Option Nat:=yF fun v=>eg v=true/\I4 v=gD 32 w
def zqj{w:List UInt8}{x:Ru}(h:x.cJ)(e:qD x=gD 32 w):tu w=some x:=Lr ⟨h,e⟩ fun y a=>zBk a.1 h (a.2.trans e.symm)
def TK{w:List UInt8}{x:Ru}(h:tu w=some x):x.cJ/\qD x=gD 32 w:=by unfold tu at h;have:=Gt h;exact this
def zsq{w:List UInt8}{v:Nat}(h:eg v=true)(e:I4 v=gD 32 w):oG w=some v:=Lr ⟨h,e⟩ fun y a=>zqc a.1 h (by
 have:=a.2.trans e.symm;simp only[I4,abm.injEq,and_true,true_and] at this
 exact this)
def TM{w:List UInt8}{v:Nat}(h:oG w=some v):eg v=true/\I4 v=gD 32 w:=by unfold oG at h;have:=Gt h;exact this
abbrev Jg:=Po×Nat×Nat
def mz:Po:=⟨[],0⟩
noncomputable def rX:Nat->List Ru->Option Nat->List (List UInt8)->Jg
 | at_,rs,a,[]=>(mz,at_,0)
 | at_,rs,a,w::r =>
  if r=[] then(if w=[] then(match a with|none=>(mz,at_,5)|some v=>(⟨rs,v⟩,0,0)) else(mz,at_,2))
  else match a with
   | some _=>(mz,at_,2)
   | none=>match tu w with
    | some x=>if 64<=rs.length then(mz,at_,3) else rX (at_+w.length+1) (rs++[x]) none r
    | none=>match oG w with
     | some v=>rX (at_+w.length+1) rs (some v) r
     | none=>(mz,at_,2)
noncomputable def dQ(s:List UInt8):Jg:=rX 0 [] none (gD 10 s)
def znb{w:List UInt8}{x:Ru}(h:tu w=some x):gT (gD 32 w) []=[111,110]:=by rw[<-(TK h).2];rfl
def ztL{w:List UInt8}{v:Nat}(h:oG w=some v):gT (gD 32 w) []=[100,101,102,97,117,108,116]:=by rw[<-(TM h).2];rfl
variable {G:aM}
def TO:V:=.agg [.vs [] .no,.int .u32 0]
def pj(r:Jg):V:=.a_ [.agg r.1.cs,.int .i64 (r.2.1:Nat),.int .i64 (r.2.2:Nat)]
def zHo(w:List UInt8):gD 32 w=gT (gD 32 w) []::aZ (gD 32 w):=by
 have:=Ad 32 w
 cases h:gD 32 w with
 | nil=>exact absurd h this
 | cons a b=>rfl
def zvU[cP G][bN G][bp G][cW G][fU G][dP G](S:List UInt8)(ha:S.length<=20000):FP G 467 [.str S] (pj (dQ S)):=by
 refine bD dP.afz (aaa rfl) ?_;have he:(20000<(S.length:Int))=False:=eq_false an;obtain⟨U,BW⟩:∃ r,r=dQ S:=⟨_,rfl⟩;rw[<-BW];simp[he]
 refine wu (S:=Nat×Nat×List Ru×Option Nat) (fun s=>S.length-(s.1+s.2.1)) (fun s=>[(0,.str S),(2,.ptr 0 0),(5,.ptr 1 0),(6,.int .i64 (s.1:Nat)),(7,.bool s.2.2.2.isSome),(20,.ptr 2 0)])
  (fun s=>[some (.cells [.vs [] .full,.int .u32 0]),some (.cells [.vs (RL s.2.2.1) (.own 3),.int .u32 (s.2.2.2.getD 0:Nat)]),some (.dE S (s.1+s.2.1)),some (.zone s.2.2.1.length)])
  (fun s=>s.1<=S.length/\s.2.1<=(fR 10 (S.drop s.1)).length/\s.2.2.1.length<=64/\rX s.1 s.2.2.1 s.2.2.2 (gD 10 (S.drop s.1))=U) (0,0,[],none) ?_ ?_
 ·refine⟨⟨aa7 _,aa7 _,ir,by rw[BW];rfl⟩,?_,?_⟩
  ·simp[av]
  ·simp[aj,aw.cl,aX,V.cl,Tk.cl,RL]
 rintro⟨o,j,rs,B⟩ ⟨p1,p2,p3,p4⟩;simp only at p1 p2 p3 p4 |-;obtain⟨w1,w2,w3,w4,w5⟩:=EJ 10 (S.drop o)
 have nK:(S.drop o).length=S.length-o:=by simp
 rw[zvT] at p4
 have mP:iz 10 (S.drop o)=S.drop (o+(fR 10 (S.drop o)).length+1):=by unfold iz;rw[acC];congr 1
 rw[mP,nK] at p4;obtain⟨w,W⟩:∃ w,w=fR 10 (S.drop o):=⟨_,rfl⟩;rw[<-W] at p2 p4 w1 w2 w3 w4 w5;rw[nK] at w1 w4;have hg:∀ i,o<=i->i<o+w.length->S[i]?≠some 10:=fun i K I h=>w3 (i-o) an (by rw[aci,show o+(i-o)=i by omega];exact h)
 have L:o+w.length<S.length->S[o+w.length]?=some 10:=fun h=>by have:=w4 an;rwa[aci] at this
 by_cases hj:j<w.length
 ·obtain⟨r,n,u,hr,hn,iH⟩:=zqd (t:=S) (m:=10) (by decide) (i:=o+j) (k:=o+w.length) an an (fun i K I=>hg i an I) L
  have h5:o+j<S.length:=an
  have cS:((r:Int) !=10)=true:=by have q:r≠10:=hr;simp;omega
  simp[h5,u,cS,-aad];refine⟨(o,j+n,rs,B),?_,⟨p1,by rw[<-W];simp only;omega,p3,?_⟩,?_,?_⟩
  ·simp only;omega
  ·simp only;rw[zvT,<-W,nK,mP,<-W];exact p4
  ·simp[av]
  ·simp[aj,aw.cl,aX,V.cl,Tk.cl,aca]
 have M:j=w.length:=an
 subst M
 by_cases g:o+w.length<S.length
 ·rw[if_pos an] at p4;obtain⟨q,N⟩:∃ q,q=o+w.length:=⟨_,rfl⟩;have u:=I6 (L g) (by decide);rw[<-N] at u g p4 |-
  have O:(S.drop o).take (q-o)=w:=by rw[show q-o=w.length by omega];exact w2
  have P:((o:Int)<=(q:Int))=True:=eq_true an;have Q:((q:Int)<=(S.length:Int))=True:=eq_true an
  have e3:aE .i64 (q:Int) 1=((q+1:Nat):Int):=by rw[ey]<;>omega
  have X:=Ad 10 (S.drop (q+1));obtain⟨dv,Y⟩:∃ dv:Int,dv=((B.getD 0:Nat):Int):=⟨_,rfl⟩;obtain⟨D,z⟩:∃ D:List UInt8->Bool->Bool->ae,∀ s e d,D s e d=[some (.cells [.vs [] .full,.int .u32 0]),some (.cells [.vs (RL rs) (.own 3),.int .u32 dv]),some (.dE S (q+1)),some (.zone rs.length),some (.cells [.str s,.bool e,.bool d])]:=⟨_,fun _ _ _=>rfl⟩
  have hh:∀ s e d,im (D s e d):=fun s e d m hm=>by
   rw[z] at hm |-;simp only[aay,ab3] at hm;simp[aw.cl,aX,V.cl,Tk.cl,show 3<m by omega]
  have Z:∀ s e d s' e' d',fK (D s e d) 4 s' e' d'=D s' e' d':=fun s e d s' e' d'=>by rw[z,z];rfl
  have TS:∀ s e d,uV (D s e d) 4 s e d:=fun s e d=>⟨by rw[z];rfl,hh s e d⟩;obtain⟨f,hf⟩:∃ f,f=gT (gD 32 w) []:=⟨_,rfl⟩;obtain⟨ws,vP⟩:∃ ws,ws=aZ (gD 32 w):=⟨_,rfl⟩
  have a:gD 32 w=f::ws:=by rw[hf,vP];exact zHo w
  have R:∀ x∈ws,gC x:=fun x hx=>TJ w x (by rw[a];simp[hx])
  have M:aL (f::ws)=w:=by rw[<-a];exact TI w
  have hz:(aL ws).length<=w.length:=by rw[<-M];exact zlU f ws
  have q1:=Jc (G:=G) (H:=D w false false) (b:=4) (l:=[]) (ws:=f::ws) (d:=false) (by rw[<-a];exact TJ w) (by
   rw[show eQ [] (f::ws)=w by rw[eQ,if_neg ir,M],show bn (f::ws)=false by simp[bn]];exact TS w false false) (by rw[M];omega)
  rw[show gT (f::ws) []=f from rfl,show aZ (f::ws)=ws from rfl,show bn (f::ws)=false by simp[bn],Z,Bool.or_false] at q1
  have Jh:U=(mz,o,2)->pj U=.a_ [TO,.int .i64 o,.int .i64 2]:=fun h=>by rw[h];rfl
  rw[<-Y]
  by_cases C:f=[111,110]/\B=none
  ·obtain⟨p,rfl⟩:=C;simp only[abH] at Y;simp only[rX,X,if_false] at p4;have FQ:uV (D (eQ f ws) (bn ws) false++[none]) 4 (eQ f ws) (bn ws) false:=(TS _ _ _).Ja (fun n=>rfl);obtain⟨s,e,E,x,c,g1,g2⟩:=zDy (G:=G) R FQ an;rw[TC (by rw[z];simp),Z] at c;have jI:((rs.length+1)*40<=140737488355328)=True:=eq_true an;have Gw:(∀ f∈RL rs,f.length=4)=True:=eq_true (by intro f hf;simp only[RL,aah] at hf;obtain⟨y,_,rfl⟩:=hf;rfl)
   have eE:RL rs++[x.cs]=RL (rs++[x]):=by simp[RL]
   have zg:(f==[111,110])=true:=by simpa using p
   simp only[z,Ru.cs,aau,aaT] at q1 c eE
   cases hb:E with
   | true =>
    have F:tu w=none:=Gu fun y hy=>g2 hb y hy.1.1 hy.1.2 (by rw[hy.2,a,p])
    have hd:oG w=none:=by
     cases h:oG w with
     | none=>rfl
     | some v=>have:=ztL h;rw[a] at this;rw[show gT (f::ws) []=f from rfl,p] at this;cases this
    rw[F,hd] at p4;simp only at p4;rw[hb] at c;rw[Jh p4.symm,TO];simp[g,u,O,P,Q,-aad];refine cL q1 ?_;simp[zg,-aad];refine cL c ?_
    simp[jI,Gw,eE,e3,-aad]
   | false =>
    obtain⟨x1,x2,x3⟩:=g1 hb;have F:tu w=some x:=zqj ⟨x1,x2⟩ (by rw[x3,a,p]);rw[F] at p4;simp only at p4;rw[hb] at c;simp[g,u,O,P,Q,-aad];refine cL q1 ?_;simp[zg,-aad];refine cL c ?_
    by_cases zV:64<=rs.length
    ·rw[if_pos zV] at p4
     have BX:rs.length=64:=an
     rw[<-p4];simp[BX,pj,mz,Po.cs,RL,-aad]
    ·rw[if_neg zV] at p4
     have hk:((rs.length:Int)==64)=false:=by simp;omega
     simp[hk,jI,Gw,eE,e3,-aad];refine⟨(q+1,0,rs++[x],none),?_,⟨by simp only;omega,aa7 _,by simp;omega,?_⟩,?_,?_⟩
     ·simp only;omega
     ·simp only;rw[N];rw[N] at p4;exact p4
     ·simp[av]
     ·simp[aj,aw.cl,aX,V.cl,Tk.cl,Y]
  by_cases zT:f=[100,101,102,97,117,108,116]/\B=none
  ·obtain⟨p,rfl⟩:=zT;simp only[abH] at Y;simp only[rX,X,if_false] at p4
   have F:tu w=none:=by
    cases h:tu w with
    | none=>rfl
    | some v=>have:=znb h;rw[a] at this;rw[show gT (f::ws) []=f from rfl,p] at this;cases this
   rw[F] at p4;simp only at p4;have c:=Jc (G:=G) R (TS (eQ f ws) (bn ws) false) an;obtain⟨A,hA⟩:∃ A,A=gT ws []:=⟨_,rfl⟩;have lA:=EK ws;rw[<-hA] at c lA;rw[Z,abc] at c;have pA:=zmd (G:=G) A an;have m1:=zqi (G:=G) (TS (eQ (gT ws f) (aZ ws)) (bn (aZ ws)) (bn ws)) (if eP A=none then 2 else 0);rw[EM,Z] at m1
   have zg:(f==[100,101,102,97,117,108,116])=true:=by simpa using p
   have hs:(f==[111,110])=false:=by rw[p];rfl
   have cJ:bn ws=false->(eP A).isNone=false->bn (aZ ws)=true->∃ v,eP A=some v/\oG w=some v:=by
    intro a1 a2 a3;obtain⟨v,T⟩:=aaD.1 (by rw[<-aa9,a2];rfl);refine⟨v,T,zsq (BS T).1 ?_⟩;rw[a,I4,(BS T).2,p]
    cases ws with
    | nil=>simp[bn] at a1
    | cons y r =>
     have:r=[]:=of_decide_eq_true a3;rw[this,hA];rfl
   have E:bn ws=true\/(eP A).isNone=true\/bn (aZ ws)=false->oG w=none:=by
    intro h
    cases hd:oG w with
    | none=>rfl
    | some v =>
     obtain⟨d1,d2⟩:=TM hd;rw[a,I4] at d2
     injection d2 with _ d2
     rw[<-d2] at h hA
     have:eP A=some v:=by rw[hA];exact Gv d1
     rw[this] at h;simp[bn,aZ] at h
   simp only[z] at q1 c m1;simp only[jW] at pA;generalize eQ (gT ws f) (aZ ws)=s1 at *;simp[g,u,O,P,Q,-aad];refine cL q1 ?_;simp[zg,hs,-aad];refine cL c ?_;simp[-aad];refine ax pA ?_;simp[-aad];refine cL m1 ?_
   cases a1:bn ws<;>cases a2:(eP A).isNone<;>cases a3:bn (aZ ws)
   rotate_left
   ·obtain⟨v,T,hd⟩:=cJ a1 a2 a3;rw[hd] at p4;simp only at p4;simp[T,e3,-aad];refine⟨(q+1,0,rs,some v),?_,⟨by simp only;omega,aa7 _,p3,?_⟩,?_,?_⟩
    ·simp only;omega
    ·simp only;rw[N];rw[N] at p4;exact p4
    ·simp[av]
    ·simp[aj,aw.cl,aX,V.cl,Tk.cl]
   all_goals
    rw[E (by rw[a1,a2,a3];simp)] at p4;simp only at p4;rw[Jh p4.symm,TO];simp[-aad]
  ·have hp:U=(mz,o,2):=by
    rw[<-p4]
    cases B with
    | some v=>simp only[rX,X,if_false]
    | none =>
     simp only[rX,X,if_false]
     have F:tu w=none:=by
      cases h:tu w with
      | none=>rfl
      | some v=>have:=znb h;rw[a] at this;exact absurd ⟨this,rfl⟩ C
     have hd:oG w=none:=by
      cases h:oG w with
      | none=>rfl
      | some v=>have:=ztL h;rw[a] at this;exact absurd ⟨this,rfl⟩ zT
     rw[F,hd]
   rw[Jh hp,TO];simp only[z] at q1
   cases B with
   | some v =>
    simp[g,u,O,P,Q,-aad];refine cL q1 ?_
    cases K:(f==[111,110])<;>cases I:(f==[100,101,102,97,117,108,116])<;>simp[K,I,-aad]
   | none =>
    have K:(f==[111,110])=false:=by simpa using fun h=>C ⟨h,rfl⟩
    have I:(f==[100,101,102,97,117,108,116])=false:=by simpa using fun h=>zT ⟨h,rfl⟩
    simp[g,u,O,P,Q,-aad];refine cL q1 ?_;simp[K,I,-aad]
 ·rw[if_neg an] at p4
  have ht:o+w.length=S.length:=an
  simp only[rX,if_true] at p4
  by_cases J:w=[]
  ·rw[if_pos J] at p4
   have ho:o=S.length:=by rw[<-ht,J];simp
   subst ho
   cases B with
   | none =>
    simp only at p4;rw[<-p4]
    simp[g,J,pj,mz,Po.cs,RL]
   | some v =>
    simp only at p4;rw[<-p4];simp[g,J,pj,Po.cs]
  ·rw[if_neg J] at p4;have Fl:((o:Int)<(S.length:Int))=True:=eq_true (by have:=aaX.2 J;omega);rw[<-p4];simp[g,Fl,pj,mz,Po.cs,RL]
def zqk[bF G](c:List af)(x:af)(h:c.length<4096):FP G 407 [FL c,FL [x]] (.a_ [FL (x::c),.int .i64 (c.length+1:Nat),.int .i64 0]):=by
 refine bD bF.aeU (aaa rfl) ?_
 have a:aE .i64 (c.length:Int) 1=((c.length+1:Nat):Int):=by rw[ey]<;>omega
 have e:(4096<((c.length+1:Nat):Int))=False:=eq_false an;have f:((1+c.length)*32<=140737488355328)=True:=eq_true an;have b:IL [x]=[x.cs]:=rfl;have g:∀ c,x.cs::IL c=IL (x::c):=fun _=>rfl
 by_cases d:c=[]
 ·subst d;have a:aE .i64 (0:Int) 1=1:=rfl;simp[FL,a,b]
 ·have i:(IL c=[])=False:=eq_false (by simpa[QR] using d);simp[FL,a,e,f,i,b,g,-aad]
def zql[bF G](c:List af)(t:Nat):FP G 408 [FL c,.int .i64 t] (.bool (decide (1<=t/\t<=c.length))):=by
 refine bD bF.aeV (aaa rfl) ?_
 by_cases b:1<=t
 ·have a:(1<=(t:Int))=True:=eq_true an
  have d:((t:Int)<=(c.length:Int))=(t<=c.length):=by simp
  simp[FL,a,d,b]
 ·have a:(1<=(t:Int))=False:=eq_false an;simp[FL,a,b]
def zHp[az G][bF G](c:List af)(op:Int)(k:Nat)(e:Iw op k)(h:c.length<4096):FP G 409 [FL c,IV ⟨op,0,0,k⟩] (.a_ [FL (bt c op k),.int .i64 (bt c op k).length,.int .i64 0]):=by refine bD bF.aeW (aaa rfl) ?_;obtain⟨f,j,g,i⟩:=ztd e;have a:=J9 (G:=G) ⟨op,0,0,k⟩;have b:=yM (G:=G) ⟨op,0,0,k⟩;have d:=zqk (G:=G) c ⟨op,0,0,k⟩ h;rw[f] at a;rw[g] at b;simp only[IV,af.cs,FL,IL,aaI,acj] at a b d;simp[FL,IV,af.cs];refine ax a ?_;simp[aO i];refine ax b ?_;simp;refine ax d ?_;simp[bt,IL,af.cs]
def zFX[bF G](c:List af)(t:Nat)(g:1<=t/\t<c.length)(h:c.length<4096):FP G 410 [FL c,.int .i64 t] (.a_ [FL (⟨5,0,0,c.length-t⟩::c),.int .i64 (c.length+1:Nat),.int .i64 0]):=by
 refine bD bF.aeX (aaa rfl) ?_;have a:=zql (G:=G) c t;rw[decide_eq_true (show 1<=t/\t<=c.length by omega)] at a;have b:=zqk (G:=G) c ⟨5,0,0,c.length-t⟩ h;simp only[af.cs,FL,IL,aaI,acj] at a b;have i:((t:Int)=(c.length:Int))=False:=eq_false an
 have d:((t:Int)==(c.length:Int))=false:=by simp;omega
 have e:c_ .i64 (c.length:Int) (t:Int)=((c.length-t:Nat):Int):=by rw[oW]<;>omega
 have f:fV .u32 ((c.length-t:Nat):Int)=((c.length-t:Nat):Int):=IntWalk.u32_in _ ⟨an,an⟩;simp[FL,IL];refine ax a ?_;simp[d,e,f];refine ax b ?_;simp[af.cs]
def ztM[bF G](c:List af)(t:Nat)(e:1<=t/\t<=c.length)(h:c.length<4096):FP G 411 [FL c,.int .i64 t] (.a_ [FL (bT c t),.int .i64 (fY c t),.int .i64 0]):=by
 refine bD bF.aeY (aaa rfl) ?_
 have b:c_ .i64 (c.length:Int) (t:Int)=((c.length-t:Nat):Int):=by rw[oW]<;>omega
 by_cases d:c.length-t<=254
 ·have a:(((c.length-t:Nat):Int)<=254)=True:=eq_true an;simp[FL,b,a,bT,fY,d]
 ·have a:(((c.length-t:Nat):Int)<=254)=False:=eq_false an;have w:=zFX (G:=G) c t an h;simp only[FL] at w;simp[FL,b,a,bT,fY,d];refine ax w ?_;simp
def zy2[az G][bF G](c:List af)(op:Int)(k t f:Nat)(l:si op)(a:1<=t/\t<=c.length)(m:1<=f/\f<=c.length)(h:c.length+3<=4096) :
  FP G 412 [FL c,.int .i64 op,.int .u32 k,.int .i64 t,.int .i64 f] (.a_ [FL (f_ c op k t f),.int .i64 (f_ c op k t f).length,.int .i64 0]):=by
 refine bD bF.aeZ (aaa rfl) ?_
 have w:bf op=true:=by rcases l with rfl|rfl|rfl<;>decide
 have b:=yM (G:=G) ⟨op,0,0,k⟩;have d:=J9 (G:=G) ⟨op,0,0,k⟩
 have x:jX ⟨op,0,0,k⟩=true:=by
  have e:∀ op:Int,si op->(rN op).map (fun r=>(r.2.2.1,r.2.2.2))=some (true,true):=by rintro op (rfl|rfl|rfl)<;>decide
  have n:=e op l;rw[aa8] at n;obtain⟨r,y,g⟩:=n;simp only[acB.injEq] at g;simp[jX,y,g.1,g.2]
 rw[w] at b;rw[x] at d;have z:=BA c t;have A:=BA (bT c t) f;have D:=K1 a;have p1:=z.len;have o:1<=f/\f<=(bT c t).length:=⟨m.1,an⟩;have E:=K1 o;have p2:=A.len;have i:=zql (G:=G) c t;have j:=zql (G:=G) c f;rw[decide_eq_true a] at i;rw[decide_eq_true m] at j;have p:=ztM (G:=G) c t a an;have q:=ztM (G:=G) (bT c t) f o an;have s:=zqk (G:=G) (bT (bT c t) f) ⟨op,((bT (bT c t) f).length-fY c t:Nat),((bT (bT c t) f).length-fY (bT c t) f:Nat),k⟩ an
 unfold f_;generalize F:bT (bT c t) f=c2 at *;generalize bT c t=c1 at *;generalize fY c t=u at *;generalize fY c1 f=v at *
 have B:c_ .i64 (c2.length:Int) (u:Int)=((c2.length-u:Nat):Int):=by rw[oW]<;>omega
 have C:c_ .i64 (c2.length:Int) (v:Int)=((c2.length-v:Nat):Int):=by rw[oW]<;>omega
 simp only[IV,af.cs,FL,IL,aaI,acj] at b d i j p q s;simp[FL,IL];refine ax b ?_;simp;refine ax d ?_;simp;refine ax i ?_;simp;refine ax j ?_;simp;refine ax p ?_;simp;refine ax q ?_;simp[B,C];refine ax s ?_;simp[af.cs]
def zBl[eC G](a:Int)(h:0<=a/\a<=5):FP G 413 [.int .i64 a] (.int .u32 ((16+8*a.toNat:Nat):Int)):=by
 have:a=0\/a=1\/a=2\/a=3\/a=4\/a=5:=an
 rcases this with rfl|rfl|rfl|rfl|rfl|rfl<;>(refine bD eC.xa (aaa rfl) ?_)<;>simp<;>decide
def zFY[eC G](a:Int)(h:0<=a/\a<=5):FP G 414 [.int .i64 a] (.int .u32 ((20+8*a.toNat:Nat):Int)):=by
 refine bD eC.ae0 (aaa rfl) ?_;have w:=zBl (G:=G) a h
 have:a=0\/a=1\/a=2\/a=3\/a=4\/a=5:=an
 rcases this with rfl|rfl|rfl|rfl|rfl|rfl<;>simp<;>refine ax w ?_<;>simp<;>decide
def oE(c:List af)(tk:Tk):aw:=.cells [.vs (IL c) tk,.int .i64 0]
structure nQ (H:ae) (b:Nat) (c:List af) (tk:Tk):Prop where
 hb:H[b]?=some (some (oE c tk))
 fc:tk=.no\/tk=.full
 shut:im H
def dL(H:ae)(b:Nat)(c:List af):ae:=H.set b (some (oE c .no))
@[simp] theorem rH (H:ae) (b:Nat) (c:List af):(dL H b c).length=H.length:=by simp[dL]
section
variable {H:ae} {b:Nat} {c c':List af} {tk:Tk}
def nQ.lb(h:nQ H b c tk):b<H.length:=(aae.1 h.hb).1
def yG(h:im H)(c':List af):im (dL H b c'):=by intro n a;simp only[rH] at a;have c:=h n a;unfold dL;rw[Ed,c];simp[oE,aw.cl,aX,V.cl,Tk.cl]
def nQ.set(h:nQ H b c tk)(c':List af):nQ (dL H b c') b c' .no:=⟨by rw[dL,aaF h.lb],.inl rfl,yG h.shut c'⟩
def C5(c c':List af):dL (dL H b c) b c'=dL H b c':=by simp[dL]
def Gy{i:Nat}(h:i≠b)(c':List af):(dL H b c')[i]?=H[i]?:=by rw[dL,aaz (Ne.symm h)]
def Pl(h:b<H.length)(c':List af)(R:ae):dL (H++R) b c'=dL H b c'++R:=by rw[dL,dL,abC _ _ h]
def im.abj(h:im H){R:ae}(b:∀ m,H.length+R.length<=m->R.map (aax (aw.cl m))=R):im (H++R):=by intro m a;rw[aaM] at a;rw[aav,h m an,b m a]
def nQ.app(h:nQ H b c tk){R:ae}(a:∀ m,H.length+R.length<=m->R.map (aax (aw.cl m))=R):nQ (H++R) b c tk :=
 ⟨by rw[aam h.lb];exact h.hb,h.fc,h.shut.abj a⟩
def nQ.cS(h:nQ H b c tk):H[b]?=some (some (.cells [.vs (IL c) tk,.int .i64 0])):=h.hb
def nQ.ne(h:nQ H b c tk){i:Nat}{v:V}(hi:H[i]?=some (some (.cells [v]))):i≠b:=by intro e;rw[e,h.hb] at hi;simp[oE] at hi
def zxU[eK G](h:nQ H b c tk)(c':List af)(l:Nat):SF G 415 [.ptr b 0,FL c',.int .i64 l,.int .i64 0] H (.int .i64 l) (dL H b c'):=by
 refine ke eK.ae1 (aaa rfl) ?_;have d:=h.cS;have e:=h.lb;have a:=(yG (b:=b) h.shut c').self;rw[rH] at a;simp only[dL,oE] at a;have f:∀ x:Option aw,(H.set b x)[b]?=some x:=fun x=>aaF e;simp[d,FL,f,dL,oE,a]
 done
def K_[az G][bF G][eK G](h:nQ H b c tk)(op:Int)(k:Nat)(f:Iw op k)(g:c.length<4096):SF G 416 [.ptr b 0,.int .i64 op,.int .u32 k] H (.int .i64 (bt c op k).length) (dL H b (bt c op k)):=by refine ke eK.ae2 (aaa rfl) ?_;have a:=zHp (G:=G) c op k f g;have d:=zxU (G:=G) h (bt c op k) (bt c op k).length;have e:=(yG (b:=b) h.shut (bt c op k)).self;rw[rH] at e;have i:=h.cS;simp only[FL,IV,af.cs] at a d;simp[i];refine ax a ?_;simp;refine cL d ?_;simp[e]
def IF[az G][bF G][eK G](h:nQ H b c tk)(op:Int)(k t f:Nat)(g:si op)(i:1<=t/\t<=c.length)(j:1<=f/\f<=c.length)(l:c.length+3<=4096) :
  SF G 417 [.ptr b 0,.int .i64 op,.int .u32 k,.int .i64 t,.int .i64 f] H (.int .i64 (f_ c op k t f).length) (dL H b (f_ c op k t f)):=by
 refine ke eK.ae3 (aaa rfl) ?_;have a:=zy2 (G:=G) c op k t f g i j l;have d:=zxU (G:=G) h (f_ c op k t f) (f_ c op k t f).length;have e:=(yG (b:=b) h.shut (f_ c op k t f)).self;rw[rH] at e;have m:=h.cS;simp only[FL] at a d;simp[m];refine ax a ?_;simp;refine cL d ?_;simp[e]
def zxV[az G][bF G][eK G]{H1:ae}{c:List af}{g:Nat}{cap:List V}{r:V}(at_ a:Nat)(j:SF G g cap H r H1)(e:nQ H1 b c .no)(d:H1.length=H.length)
  (k:Iw 32 at_) (p:c.length+1<4096):SF G 418 [.ptr b 0,.int .u32 at_,.int .u32 a,.fn g cap] H (.a_ []) (dL H1 b (bt (bt c 84 a) 32 at_)):=by
 refine ke eK.ae4 (aaa rfl) ?_;have l:=K_ (G:=G) e 84 a (.inl rfl) an;have f:=K_ (G:=G) (e.set (bt c 84 a)) 32 at_ k (by simp[bt];omega);rw[C5] at f;have i:=(yG (b:=b) e.shut (bt (bt c 84 a) 32 at_)).self;rw[rH,d] at i;obtain⟨q,H2,m,n,o⟩:=j;simp;refine kj (H1:=H2) (by simpa using m) (fun h=>by simp at h) ?_;rw[n,o];simp;refine cL l ?_;simp;refine cL f ?_
 simp[i]
def uv(n:Int):Option (Option aw):=some (some (.cells [.int .i64 n]))
def Pm(n:Int):Option (Option aw):=some (some (.cells [.int .u32 n]))
def zBm[az G][bF G][eK G](h:nQ H b c tk){pm po a pt d:Nat}(op:Int)(k t f:Nat)(m:H[pm]?=some (some (.cells [.ptr b 0])))(e:H[po]?=uv op)(g:H[a]?=Pm k)(i:H[pt]?=uv t)(j:H[d]?=uv f)
  (n:si op) (o:1<=t/\t<=c.length) (p:1<=f/\f<=c.length) (q:c.length+3<=4096) :
  SF G 419 [.ptr pm 0,.ptr po 0,.ptr a 0,.ptr pt 0,.ptr d 0] H (.int .i64 (f_ c op k t f).length) (dL H b (f_ c op k t f)):=by
 refine ke eK.ae5 (aaa rfl) ?_;have w:=IF (G:=G) h op k t f n o p q;have l:=(yG (b:=b) h.shut (f_ c op k t f)).self;rw[rH] at l;simp only[uv,Pm] at e g i j;simp[m,e,g,i,j];refine cL w ?_;simp[l]
def Ji(c:List af)(op:Int)(k t f a:Nat):List af:=if op=21 then f_ c 21 k a f else f_ (f_ c 37 k t f) 21 k a (f_ c 37 k t f).length
def BY(H:ae)(c:List af)(op:Int)(k t f a:Nat):ae:=if op=21 then H else H.set a (uv ((f_ c 37 k t f).length:Nat)).get!
def zBn[az G][bF G][eK G](h:nQ H b c tk){pm po l pt a m:Nat}(op:Int)(k t f d:Nat)(p:H[pm]?=some (some (.cells [.ptr b 0])))(q:H[po]?=uv op)(o:H[l]?=Pm k)(r:H[pt]?=uv t)(i:H[a]?=uv f)(s:H[m]?=uv d)
  (u:pm≠a/\l≠a/\m≠a) (F:1<=t/\t<=c.length) (A:1<=f/\f<=c.length) (B:1<=d/\d<=c.length) (U:c.length+6<=4096) :
  SF G 420 [.ptr po 0,.ptr pm 0,.ptr l 0,.ptr pt 0,.ptr a 0,.ptr m 0] H (.int .i64 (Ji c op k t f d).length) (dL (BY H c op k t f a) b (Ji c op k t f d)):=by
 refine ke eK.ae6 (aaa rfl) ?_;have nm:=h.ne p;have W:=h.ne (by simpa[uv] using q);have I:=h.ne (by simpa[Pm] using o);have X:=h.ne (by simpa[uv] using r);have v:=h.ne (by simpa[uv] using i);have J:=h.ne (by simpa[uv] using s)
 have y:a<H.length:=by simp only[uv] at i;exact(aae.1 i).1
 simp only[uv,Pm] at q o r i s
 by_cases e:op=21
 ·subst e;have w:=IF (G:=G) h 21 k d f (.inl rfl) B A an;have j:=(yG (b:=b) h.shut (f_ c 21 k d f)).self;rw[rH] at j;simp[p,q,o,r,i,s];refine cL w ?_;simp[j,Ji,BY]
 ·have K:=IF (G:=G) h 37 k t f (.inr (.inl rfl)) F A an;have g:=(D_ c 37 k t f).len;have Y:=zq7 c 37 k t f;simp only[Ji,BY,if_neg e,uv,Option.get!_some];generalize Z:f_ c 37 k t f=c1 at *
  have C:im ((dL H b c1).set a (some (.cells [.int .i64 (c1.length:Nat)]))):=by intro n D;rw[abi] at D;rw[Ed,yG h.shut c1 n D];simp[aw.cl,aX,V.cl]
  have L:nQ ((dL H b c1).set a (some (.cells [.int .i64 (c1.length:Nat)]))) b c1 .no:=⟨by rw[aaz v];exact(h.set c1).hb,.inl rfl,C⟩;have E:=IF (G:=G) L 21 k d c1.length (.inl rfl) ⟨B.1,an⟩ an an;have j:=(yG (b:=b) C (f_ c1 21 k d c1.length)).self;rw[rH,abi,rH] at j;have e':(op !=21)=true:=kO e
  have M:(dL H b c1)[pm]?=some (some (.cells [.ptr b 0])):=by rw[Gy nm];exact p
  have N:(dL H b c1)[l]?=some (some (.cells [.int .u32 k])):=by rw[Gy I];exact o
  have O:(dL H b c1)[a]?=some (some (.cells [.int .i64 f])):=by rw[Gy v];exact i
  have P:(dL H b c1)[m]?=some (some (.cells [.int .i64 d])):=by rw[Gy J];exact s
  have Q:∀ x,((dL H b c1).set a x)[pm]?=some (some (.cells [.ptr b 0])):=fun x=>by rw[aaz u.1.symm];exact M
  have R:∀ x,((dL H b c1).set a x)[l]?=some (some (.cells [.int .u32 k])):=fun x=>by rw[aaz u.2.1.symm];exact N
  have S:∀ x,((dL H b c1).set a x)[m]?=some (some (.cells [.int .i64 d])):=fun x=>by rw[aaz u.2.2.symm];exact P
  have T:∀ x:Option aw,((dL H b c1).set a x)[a]?=some x:=fun x=>aaF (by rw[rH];exact y)
  have z:dL ((dL H b c1).set a (some (.cells [.int .i64 (c1.length:Nat)]))) b (f_ c1 21 k d c1.length)=dL (H.set a (some (.cells [.int .i64 (c1.length:Nat)]))) b (f_ c1 21 k d c1.length):=by
   unfold dL;rw[List.set_comm _ _ (Ne.symm v)];simp
   done
  rw[z] at j E;simp[p,q,o,r,i,e,e'];refine cL K ?_;simp[O,Q,R,S,T];refine cL E ?_;simp[j]
def tR(b:Nat)(y:Cd)(t f:Nat):ae:=[some (.cells [.ptr b 0]),some (.cells y.cs),some (.cells [.int .i64 t]),some (.cells [.int .i64 f]),some (.cells [.int .u32 (lo y.val:Nat)]),some (.cells [.int .u32 (hi y.val:Nat)]),some (.cells [.int .i64 (ka y.cmp)])]
def zEw{b m:Nat}(y:Cd)(t f:Nat)(a:b<m):(tR b y t f).map (aax (aw.cl m))=tR b y t f:=by simp[tR,aw.cl,aX,V.cl,Cd.cs,a]
def zDB[az G][bF G][eK G](h:nQ H b c tk)(y:Cd)(t f:Nat)(d:y.right=true)(e:1<=t/\t<=c.length)(j:1<=f/\f<=c.length)(k:c.length+13<=4096) :
  SF G 418 [.ptr b 0,.int .u32 (16+8*y.arg.toNat:Nat),.int .u32 (lo y.mask:Nat),.fn 419 [.ptr H.length 0,.ptr (H.length+6) 0,.ptr (H.length+4) 0,.ptr (H.length+2) 0,.ptr (H.length+3) 0]] (H++tR b y t f) (.a_ []) (dL H b (bV c y t f)++tR b y t f):=by
 have a:=h.app (R:=tR b y t f) (fun m l=>zEw y t f (by have:=h.lb;omega))
 have g:∀ i,(H++tR b y t f)[H.length+i]?=(tR b y t f)[i]?:=fun i=>by rw[aaw an];congr 1;omega
 have w:=zBm (G:=G) a (ka y.cmp) (lo y.val) t f (g 0) (g 6) (g 4) (g 2) (g 3) (YT _) e j an;have:=(D_ c (ka y.cmp) (lo y.val) t f).len;have p:=zxV (G:=G) (b:=b) (16+8*y.arg.toNat) (lo y.mask) w (a.set _) ir (Sy d 16 (.inl rfl)) an;rw[C5,Pl h.lb] at p;exact p
def zDC[az G][bF G][eK G](h:nQ H b c tk)(y:Cd)(t f:Nat)(j:y.right=true)(k:1<=t/\t<=c.length)(l:1<=f/\f<=c.length)(x:c.length+13<=4096) :
  ∃ R,SF G 418 [.ptr b 0,.int .u32 (20+8*y.arg.toNat:Nat),.int .u32 (hi y.mask:Nat),.fn 420 [.ptr (H.length+6) 0,.ptr H.length 0,.ptr (H.length+5) 0,.ptr (H.length+2) 0,.ptr (H.length+3) 0,.ptr (H.length+7) 0]]
   (dL H b (bV c y t f)++(tR b y t f++[some (.cells [.int .i64 (bV c y t f).length])])) (.a_ []) (dL H b (Eb c y t f)++some (.cells [.ptr b 0])::R):=by
 have z:=(Oy c y t f).len;have o:=h.set (bV c y t f)
 have a:=o.app (R:=tR b y t f++[some (.cells [.int .i64 (bV c y t f).length])]) (fun m q=>by
  have:=h.lb;simp only[rH] at q;rw[aav,zEw y t f an]
  simp[aw.cl,aX,V.cl])
 have g:∀ i,(dL H b (bV c y t f)++(tR b y t f++[some (.cells [.int .i64 (bV c y t f).length])]))[H.length+i]?=(tR b y t f++[some (.cells [.int .i64 (bV c y t f).length])])[i]?:=fun i=>by
  rw[aaw ir,rH];congr 1;omega
 have w:=zBn (G:=G) a (ka y.cmp) (hi y.val) t f (bV c y t f).length (g 0) (g 6) (g 5) (g 2) (g 3) (g 7) ⟨an,an,an⟩ ⟨k.1,an⟩ ⟨l.1,an⟩ an an
 have d:Ji (bV c y t f) (ka y.cmp) (hi y.val) t f (bV c y t f).length=f_ (rz c y t f) 21 (hi y.val) (bV c y t f).length (if ka y.cmp=21 then f else(rz c y t f).length):=by
  unfold Ji rz
  split<;>rfl
 have r:im (BY (dL H b (bV c y t f)++(tR b y t f++[some (.cells [.int .i64 (bV c y t f).length])])) (bV c y t f) (ka y.cmp) (hi y.val) t f (H.length+3)):=by
  unfold BY;split
  ·exact a.shut
  ·intro n e;rw[abi] at e;rw[Ed,a.shut n e];simp[uv,aw.cl,aX,V.cl]
 have A:=(Oz c y t f).len;have B:=(D_ (rz c y t f) 21 (hi y.val) (bV c y t f).length (if ka y.cmp=21 then f else(rz c y t f).length)).len
 have s:b<(BY (dL H b (bV c y t f)++(tR b y t f++[some (.cells [.int .i64 (bV c y t f).length])])) (bV c y t f) (ka y.cmp) (hi y.val) t f (H.length+3)).length:=by
  have:=h.lb;unfold BY
  split<;>simp<;>omega
 have u:nQ (dL (BY (dL H b (bV c y t f)++(tR b y t f++[some (.cells [.int .i64 (bV c y t f).length])])) (bV c y t f) (ka y.cmp) (hi y.val) t f (H.length+3)) b (Ji (bV c y t f) (ka y.cmp) (hi y.val) t f (bV c y t f).length)) b _ .no :=
  ⟨by rw[dL,aaF s],.inl rfl,yG r _⟩
 have p:=zxV (G:=G) (b:=b) (20+8*y.arg.toNat) (hi y.mask) w u (by unfold BY;split<;>simp) (Sy j 20 (.inr rfl)) (by rw[d];omega);rw[C5,d] at p
 obtain⟨R,v⟩:∃ R,BY (dL H b (bV c y t f)++(tR b y t f++[some (.cells [.int .i64 (bV c y t f).length])])) (bV c y t f) (ka y.cmp) (hi y.val) t f (H.length+3)=dL H b (bV c y t f)++some (.cells [.ptr b 0])::R:=by
  unfold BY;split
  ·exact⟨_,rfl⟩
  ·rw[aaQ _ _ ir,rH,show H.length+3-H.length=3 by omega];exact⟨_,rfl⟩
 rw[v,Pl (by simpa using h.lb),C5] at p;exact⟨R,p⟩
def zDD[az G][bF G][eK G][cM G][bp G][eC G](h:nQ H b c tk)(x:Cd)(t f:Nat)(j:x.right=true)(q:x.ok)(S:1<=t/\t<=c.length)(T:1<=f/\f<=c.length)(s:c.length+13<=4096) :
  SF G 421 [.ptr b 0,.agg x.cs,.int .i64 t,.int .i64 f] H (.int .i64 (fh c x t f).length) (dL H b (fh c x t f)):=by
 refine ke eK.ae7 (aaa rfl) ?_;have I:=j;simp only[Cd.right,decide_eq_true_eq] at I;have o:=zG7 (G:=G) x;rw[Ee,if_pos j] at o
 obtain⟨y,l⟩:∃ y,y=if Ec x then({ x with cmp:=yx x.cmp }:Cd) else x:=⟨_,rfl⟩
 obtain⟨d,m⟩:∃ d,d=if Ec x then f else t:=⟨_,rfl⟩
 obtain⟨e,n⟩:∃ e,e=if Ec x then t else f:=⟨_,rfl⟩
 have a:x.cmp=0\/x.cmp=1\/x.cmp=2\/x.cmp=3\/x.cmp=4\/x.cmp=5:=an
 have u:fV .u32 (x.val:Int)=((lo x.val:Nat):Int):=rfl;have v:fV .u32 (x.mask:Int)=((lo x.mask:Nat):Int):=rfl;have w:=YH x.val q.2;have z:fV .u32 ((x.val/4294967296:Nat):Int)=((hi x.val:Nat):Int):=rfl;have A:=YH x.mask q.1;have B:fV .u32 ((x.mask/4294967296:Nat):Int)=((hi x.mask:Nat):Int):=rfl;have J:=zBl (G:=G) x.arg ⟨an,an⟩;have K:=zFY (G:=G) x.arg ⟨an,an⟩;have g:(H.length+7<=H.length)=False:=eq_false an
 have i:(H.length+8<=H.length)=False:=eq_false an;have C:(H.length+7<=H.length+1)=False:=eq_false an;have D:(H.length+8<=H.length+1)=False:=eq_false an
 have E:∀(c':List af) (r:ae) (k:Nat),(dL H b c'++r)[H.length+k]?=r[k]?:=fun c' r k=>by rw[aaw ir,rH];congr 1;omega
 have L:∀(c':List af) (r:ae),(dL H b c'++r)[H.length]?=r[0]?:=fun c' r=>E c' r 0
 have M:∀(c':List af) (r:ae),(dL H b c'++r)[b]?=some (some (.cells [.vs (IL c') .no,.int .i64 0])):=fun c' r=>by rw[aam (by simpa using h.lb)];exact(h.set c').hb
 have N:∀(c':List af) (r:ae) (k:Nat) (x:Option aw),(dL H b c'++r).set (H.length+k) x=dL H b c'++r.set k x:=fun c' r k x=>by rw[aaQ _ _ ir,rH];congr 1;congr 1;omega
 have p:∀(r:ae),(H++r)[b]?=some (some (.cells [.vs (IL c) tk,.int .i64 0])):=fun r=>by rw[aam h.lb];exact h.hb
 have O:∀(c':List af) (r:ae),aj H.length (dL H b c'++r)=dL H b c':=fun c' r=>by have:=(yG (b:=b) h.shut c').back r;rwa[rH] at this
 have U:=h.lb;have tb:∀ k:Nat,(b<H.length+k)=True:=fun k=>eq_true an
 have P:fh c x t f=Eb c y d e:=by rw[fh,l,m,n];split<;>rfl
 have F:y.right=true:=by rw[l];split;exact OA j;exact j
 have p1:=zDB (G:=G) h y d e F (by rw[m];split<;>assumption) (by rw[n];split<;>assumption) s;obtain⟨R,p2⟩:=zDC (G:=G) h y d e F (by rw[m];split<;>assumption) (by rw[n];split<;>assumption) s;rw[<-P] at p2
 rcases a with a|a|a|a|a|a
 all_goals
  have Q:ka y.cmp=if x.cmp=0\/x.cmp=1 then 21 else if x.cmp=2\/x.cmp=5 then 53 else 37:=by rw[l];simp[Ec,a,ka,yx]
  simp only[tR,Cd.cs,Q] at p1 p2;rw[l,m,n] at p1 p2;simp[Ec,a,yx,-Int.ofNat_toNat,-aad,-abe] at p1 p2;simp only[Cd.cs,a] at o;generalize bV c _ _ _=c1 at p1 p2;generalize fh c x t f=c2 at p2 |-;simp[Cd.cs,a,u,v,w,z,A,B,aca,g,i,C,D,-abI]
  repeat
   (first|refine ax o ?_|refine ax J ?_|refine cL p1 ?_|refine ax K ?_|refine cL p2 ?_)
   simp[u,v,w,z,A,B,aca,g,i,C,D,E,L,M,N,p,yx,-abI,-aad,-abe]
  exact O _ _
end
open Go Go.RowKit
variable {G:aM}
section
variable {H:ae} {b:Nat} {c:List af}
def zrr(h:nQ H b c .no):dL H b c=H:=Dm h.hb
def zsr{α:Type}{l:List α}{t:Nat}{y:α}(h:l[t]?=some y):l.drop t=y::l.drop (t+1):=by obtain⟨a,b⟩:=aae.1 h;rw[abh a,b]
def znd:∀(l:List Ru) (t:Nat),uT (l.drop t)<=uT l
 | [],t=>by simp[uT]
 | r::l,0=>aan _
 | r::l,t+1=>by
  have:=znd l t;simp only[List.drop_succ_cons,uT];omega
def ztN:∀ l:List Ru,l.length<=uT l
 | []=>aan _
 | r::l=>by have:=ztN l;simp only[aay,uT];omega
def zBo[az G][bF G][eK G][cM G][bp G][eC G][fj G](h:nQ H b c .no)(l:List Ru)(tk:Tk)(fc:∀ n,H.length<=n->tk.cl n=tk)(o:Nat)(F:∀ r∈l,r.dc)(U:1<=o/\o<=c.length)(hc:c.length+uT l<=4096) :
  SF G 427 [.ptr b 0,.vs (RL l) tk,.int .i64 o] H (.int .i64 (nO l (c,o)).2) (dL H b (nO l (c,o)).1):=by
 refine ke fj.afc (aaa rfl) ?_;have V:=ztN l
 have A:∀ c',aj H.length (dL H b c')=dL H b c':=fun c'=>by have:=(yG (b:=b) h.shut c').self;rwa[rH] at this
 have B:=h.lb;have m:=fc H.length (aan _);obtain⟨S,e⟩:∃ S:Nat->rB,∀ k,S k=nO (l.drop (l.length-k)) (c,o):=⟨_,fun _=>rfl⟩
 have BD:S 0=(c,o):=by rw[e,ack,abO];rfl
 have yz:S l.length=nO l (c,o):=by rw[e,abP,ab6]
 have s0:c_ .i64 (l.length:Int) 1=(l.length:Int)-1:=oW an an;have dU:=zrr h
 have GC:∀ k,Came c (S k) (uT l):=fun k=>by
  rw[e];exact(K7 (s:=(c,o)) (fun r I=>F r (aaV I)) U).mono (znd _ _)
 simp[s0];refine aQ l.length (fun k=>[(0,.ptr b 0),(1,.vs (RL l) tk),(2,.int .i64 (S k).2),(7,.int .i64 ((l.length:Int)-1-k))]) (fun k=>dL H b (S k).1) (fun _=>True) ?_ ?_
 ·simp[av,BD,dU,B,m,h.shut.self]
 intro k hk _
 by_cases ai:k<l.length
 ·obtain⟨t,ht⟩:∃ t,t=l.length-1-k:=⟨_,rfl⟩
  have J:t<l.length:=an
  obtain⟨y,hy⟩:∃ y,y=l[t]:=⟨_,rfl⟩
  have C:l[t]?=some y:=by rw[aab J,hy]
  have f:=GO C
  have mD:(RL l)[t]'(by simpa using J)=y.cs:=by rw[aab (by simpa using J)] at f;exact aaK.inj f
  have p:=F y (aaq C)
  have q:S (k+1)=zEt y (S k):=by rw[e,e,show l.length-(k+1)=t by omega,zsr C,nO,show t+1=l.length-k by omega]
  have et:(l.length:Int)-1-k=(t:Int):=an
  have TT:(l.length:Int)-1-((k+1:Nat):Int)=(t:Int)-1:=an
  have s1:c_ .i64 (t:Int) 1=(t:Int)-1:=oW an an
  have W:(S k).1.length+(1+13*y.conds.length)<=4096:=by
   have a:=K7 (l:=l.drop (l.length-k)) (s:=(c,o)) (fun r I=>F r (aaV I)) U;have X:=a.grown.len;rw[<-e] at X
   have Y:uT (l.drop t)=1+13*y.conds.length+uT (l.drop (l.length-k)):=by rw[zsr C,uT,show t+1=l.length-k by omega]
   have:=znd l t;simp only at X;omega
  have g:=GC k;obtain⟨⟨a,i⟩,rT⟩:∃ s,s=S k:=⟨_,rfl⟩;rw[<-rT] at q W g |-;simp only at W g;have Kn:=h.set a;have K:=K_ (G:=G) Kn 6 y.act (.inr (.inl rfl)) an;rw[C5] at K;have Z:(bt a 6 y.act).length=a.length+1:=rfl;rw[Z] at K;rw[et]
  have BN:tk.cl (dL H b a).length=tk:=by rw[rH];exact m
  simp only[Ru.cs] at f mD;simp(disch:=omega)[f];refine cL K ?_;have s2:c_ .i64 (y.conds.length:Int) 1=(y.conds.length:Int)-1:=oW an an;simp(disch:=omega)[f,s2];obtain⟨T,v⟩:∃ T:Nat->rB,∀ k,T k=z8 i (y.conds.drop (y.conds.length-k)) (bt a 6 y.act,a.length+1):=⟨_,fun _=>rfl⟩
  have v5:T 0=(bt a 6 y.act,a.length+1):=by rw[v,ack,abO];rfl
  have mY:T y.conds.length=S (k+1):=by rw[v,abP,ab6,q];rfl
  refine aQ y.conds.length (fun j=>[(0,.ptr b 0),(1,.vs (RL l) tk),(2,.int .i64 i),(7,.int .i64 t),(8,.int .i64 (T j).2),(9,.int .i64 ((y.conds.length:Int)-1-j))]) (fun j=>dL H b (T j).1) (fun _=>True) ?_ ?_
  ·simp[av,v5,A,B,m]
  intro j hj _
  by_cases Bl:j<y.conds.length
  ·obtain⟨u,hu⟩:∃ u,u=y.conds.length-1-j:=⟨_,rfl⟩
   have L:u<y.conds.length:=an
   obtain⟨z,hz⟩:∃ z,z=y.conds[u]:=⟨_,rfl⟩
   have d:y.conds[u]?=some z:=by rw[aab L,hz]
   have D:=LN d
   have Pu:(CL y.conds)[u]'(by simpa using L)=z.cs:=by rw[aab (by simpa using L)] at D;exact aaK.inj D
   have w:=p.1 z (aaq d)
   have M:T (j+1)=(fh (T j).1 z (T j).2 i,(fh (T j).1 z (T j).2 i).length):=by rw[v,v,show y.conds.length-(j+1)=u by omega,zsr d,z8,show u+1=y.conds.length-j by omega]
   have E:=SH (o:=i) (l:=y.conds.drop (y.conds.length-j)) (s:=(bt a 6 y.act,a.length+1)) (fun x hx=>p.1 x (aaV hx)) ⟨g.jB.1,by have:=g.jB.2;simp only[bt,aay] at this |-;omega⟩ ⟨an,aan _⟩;rw[<-v] at E;have N:=E.grown.len;simp only[Z,abQ] at N;obtain⟨⟨Y,o2⟩,uY⟩:∃ s,s=T j:=⟨_,rfl⟩;rw[<-uY] at M E N |-;simp only at N M;have cl:=E.jB;simp only at cl;have O:=g.jB.2;simp only at O
   have P:=zDD (G:=G) (h.set Y) z o2 i w.1 w.2 cl ⟨g.jB.1,an⟩ an;rw[C5] at P
   have eu:(y.conds.length:Int)-1-j=(u:Int):=an
   have Q:(y.conds.length:Int)-1-((j+1:Nat):Int)=(u:Int)-1:=an
   have s3:c_ .i64 (u:Int) 1=(u:Int)-1:=oW an an;rw[eu];simp only[Cd.cs] at P D Pu;simp(disch:=omega)[f,D];refine cL P ?_;simp(disch:=omega)[av,A,B,m,s3,Q,M,Bl,-aad]
  ·have:j=y.conds.length:=an
   subst this;have R:((y.conds.length:Int)<=(y.conds.length:Int)-1)=False:=eq_false an;simp(disch:=omega)[av,A,B,m,s1,TT,mY,R,ai,-aad]
 ·have:k=l.length:=an
  subst this;have R:((l.length:Int)<=(l.length:Int)-1)=False:=eq_false an;simp(disch:=omega)[A,yz,R]
def EL(l:List (Nat×Nat)):List (List V):=l.map fun e=>[.int .u32 (e.1:Int),.int .i64 (e.2:Int)]
@[simp] theorem zMr (l:List (Nat×Nat)):(EL l).length=l.length:=by simp[EL]
theorem zBp{l:List (Nat×Nat)}{i:Nat}{x:Nat×Nat}(h:l[i]?=some x):(EL l)[i]?=some [.int .u32 (x.1:Int),.int .i64 (x.2:Int)]:=by simp[EL,h]
def zxW(l:List (Nat×Nat))(n:Nat):(EL l).take n=EL (l.take n):=by simp[EL]
def zFZ(l:List (Nat×Nat))(n:Nat):(EL l).drop n=EL (l.drop n):=by simp[EL]
def SM(l:List (Nat×Nat)):(∀ f∈EL l,f.length=2)=True:=by simp only[eq_iff_iff,iff_true];intro f a;simp only[EL,aah] at a;obtain⟨x,_,rfl⟩:=a;rfl
def zqm[az G][bF G][eK G][fj G]{o:Nat}:∀(n:Nat) {H:ae} {b:Nat} {c:List af} (h:nQ H b c .no) (l:List (Nat×Nat)) (tk:Tk) (d:∀ n,H.length<=n->tk.cl n=tk) (p:l≠[]) (z:l.length<=n) (i:kX c l) (q:∀ e∈l,e.1<4294967296) (f:1<=o/\o<=c.length) (s:c.length+6*l.length<=4096),
  SF G 426 [.ptr b 0,.vs (EL l) tk,.int .i64 o] H (.int .i64 (bC n c l o).2) (dL H b (bC n c l o).1)
 | 0,H,b,c,h,l,tk,d,p,z,i,q,f,s=>absurd (aaE.1 an) p
 | n+1,H,b,c,h,l,tk,d,p,z,i,q,f,s=>by
  have W:0<l.length:=aaX.2 p
  have A:∀ c',aj H.length (dL H b c')=dL H b c':=fun c'=>by have:=(yG (b:=b) h.shut c').self;rwa[rH] at this
  have X:=h.lb;have Y:=d H.length (aan _);refine ke fj.afd (aaa rfl) ?_
  by_cases B:l.length=1
  ·obtain⟨e,rfl⟩:=List.length_eq_one_iff.1 B
   have t:bC (n+1) c [e] o=(f_ c 21 e.1 e.2 o,(f_ c 21 e.1 e.2 o).length):=by unfold bC;rfl
   rw[t];have w:=IF (G:=G) h 21 e.1 e.2 o (.inl rfl) (i e ir) f (by simp at s;omega);simp[EL];refine cL w ?_;simp[A]
  ·have Q:((l.length:Int)==1)=false:=by simp;omega
   obtain⟨a,j⟩:∃ a,a=l.length/2:=⟨_,rfl⟩
   have q1:mr .i64 (l.length:Int) 2=(a:Int):=by unfold mr;have R:((l.length:Int).tdiv 2)=((l.length/2:Nat):Int):=rfl;rw[R,<-j];exact IntWalk.i64_in _ ⟨an,an⟩
   have C:(l.take a).length=a:=by rw[aaL];omega
   have D:(l.drop a).length=l.length-a:=by rw[abQ]
   have n1:l.take a≠[]:=by intro e;rw[e] at C;simp at C;omega
   have E:l.drop a≠[]:=by intro e;rw[e] at D;simp at D;omega
   have F:kX c (l.take a):=fun e g=>i e (abA g);have I:kX c (l.drop a):=fun e g=>i e (aaV g);have J:∀ e∈l.take a,e.1<4294967296:=fun e g=>q e (abA g);have K:∀ e∈l.drop a,e.1<4294967296:=fun e g=>q e (aaV g);have r:=Ef n (c:=c) (l:=l.take a) n1 an F J f;have Z:=r.grown.len;have L:=Ef n (c:=(bC n c (l.take a) o).1) (l:=l.drop a) E an (I.grown r.grown) K ⟨f.1,an⟩
   have g2:=L.grown.len;have u:=r.jB;have v:=L.jB;obtain⟨k,S⟩:∃ k,k=l[a]'(by omega):=⟨_,rfl⟩
   have M:l[a]?=some k:=by rw[aab an,S]
   have T:l.getD a (0,0)=k:=by rw[List.getD,M];rfl
   have x:=zBp M
   have U:(EL l)[a]'(by simp;omega)=[.int .u32 (k.1:Int),.int .i64 (k.2:Int)]:=by rw[aab (by simp;omega)] at x;exact aaK.inj x
   have V:=fun tk d=>zqm (o:=o) n h (l.take a) tk d n1 an F J f an;have N:=fun tk d=>zqm (o:=o) n (h.set (bC n c (l.take a) o).1) (l.drop a) tk (by rw[rH];exact d) E an (I.grown r.grown) K ⟨f.1,an⟩ an
   have t:bC (n+1) c l o=(f_ (bC n (bC n c (l.take a) o).1 (l.drop a) o).1 53 k.1 (bC n (bC n c (l.take a) o).1 (l.drop a) o).2 (bC n c (l.take a) o).2,
    (f_ (bC n (bC n c (l.take a) o).1 (l.drop a) o).1 53 k.1 (bC n (bC n c (l.take a) o).1 (l.drop a) o).2 (bC n c (l.take a) o).2).length):=by
    conv=>lhs;unfold bC
    rw[if_neg B,<-j,T]
   rw[t];generalize bC n (bC n c (l.take a) o).1 (l.drop a) o=s2 at *;generalize bC n c (l.take a) o=s1 at *;have w:=IF (G:=G) ((h.set s1.1).set s2.1) 53 k.1 s2.2 s1.2 (.inr (.inr rfl)) v ⟨u.1,an⟩ an;simp only[C5] at N w;have O:(a<=l.length)=True:=eq_true an;have b2:((0:Int)<=(a:Int))=True:=eq_true an;have gE:(EL l).take l.length=EL l:=aap ir
   have m:∀(P:Prop) [Decidable P] n,(if P then Tk.full else Tk.no).cl n=if P then Tk.full else Tk.no:=fun P _ n=>by split<;>rfl
   have y:(l.drop a).take (l.length-a)=l.drop a:=aap an;simp(disch:=omega)[Q,q1,SM,zxW,O];refine cL (V _ (fun n _=>m _ n)) ?_;simp(disch:=omega)[SM,zxW,zFZ,O,y];refine cL (N _ (fun n _=>m _ n)) ?_;simp(disch:=omega)[x];refine cL w ?_;simp[A]
end
open Go Go.RowKit
variable {G:aM}
def zF0(k:IntKind)(l:List Nat):(ak k l=[])=(l=[]):=by simp[ak]
def zBq[fj G](n:Nat)(H:ae):bA G (.F 424 [.int .u32 n] H (.int .u32 n) H):=by refine ee fj.ae9 (aaa rfl) ?_;simp
def zy3(l:List Nat)(x:Nat):kY (l++[x])=sD x (kY l):=by simp[kY,acp]
def Pv(l:List Nat):(kY l).length=l.length:=(IY l).length_eq
def rW(x:Nat)(l:List Nat):Nat:=(l.takeWhile fun y=>decide (y<=x)).length
def zrs(x:Nat)(l:List Nat):l.take (rW x l)=l.takeWhile (fun y=>decide (y<=x)):=by
 have h:=aaH (p:=fun y=>decide (y<=x)) (l:=l);unfold rW
 conv=>lhs;arg 2;rw[<-h]
 exact List.take_left' rfl
def zy4(x:Nat)(l:List Nat):l.drop (rW x l)=l.dropWhile (fun y=>decide (y<=x)):=by
 have h:=aaH (p:=fun y=>decide (y<=x)) (l:=l);unfold rW
 conv=>lhs;arg 2;rw[<-h]
 exact List.drop_left' rfl
def zxX(x:Nat)(l:List Nat):sD x l=l.take (rW x l)++x::l.drop (rW x l):=by rw[zrs,zy4];rfl
def zDE(x:Nat)(l:List Nat):rW x l<=l.length:=by have:=congrArg List.length (aaH (p:=fun y=>decide (y<=x)) (l:=l));rw[aaM] at this;unfold rW;omega
def zDF{x:Nat}{l:List Nat}{j y:Nat}(h:j<rW x l)(a:l[j]?=some y):y<=x:=by refine zsk x (l:=l) y ?_;rw[<-zrs];exact aaq (i:=j) (by rw[List.getElem?_take,if_pos h];exact a)
def ztO{x:Nat}:∀{l:List Nat} {y:Nat},l[rW x l]?=some y->¬y<=x
 | [],y,h=>by simp at h
 | b::l,y,h=>by
  by_cases a:b<=x
  ·have e:rW x (b::l)=rW x l+1:=by simp[rW,a]
   rw[e,List.getElem?_cons_succ] at h;exact ztO h
  ·have e:rW x (b::l)=0:=by simp[rW,a]
   rw[e] at h;simp at h;omega
def zy5[fj G]{H:ae}(a:im H)(l:List Nat)(tk:Tk)(U:∀ n,H.length<=n->tk.cl n=tk)(W:l≠[])(hl:l.length<=1000000) :
  SF G 423 [.vs (ak .u32 l) tk,.fn 424 []] H (.vs (ak .u32 (kY l)) .no) H:=by
 refine ke fj.ae8 (aaa rfl) ?_;have ht:=MR a;have K:=a.back;have e:=U H.length (aan _);obtain⟨S,f⟩:∃ S:Nat->List Nat,∀ k,S k=kY (l.take k):=⟨_,fun _=>rfl⟩
 obtain⟨b,m⟩:∃ b:Nat->Tk,∀ k,b k=if k=0 then .full else .no:=⟨_,fun _=>rfl⟩
 have X:S 0=[]:=by rw[f];rfl
 have Y:S l.length=kY l:=by rw[f,aaY]
 have o:∀ k,k<=l.length->(S k).length=k:=fun k M=>by rw[f,Pv,aaL];omega
 simp;refine aQ l.length (fun k=>[(1,.fn 424 []),(5,.vs (ak .u32 (S k)) (b k)),(9,.vs (ak .u32 l) tk),(10,.int .i64 l.length),(11,.int .i64 k)]) (fun _=>H) (fun _=>True) ?_ ?_
 ·simp[av,X,m,e,a.self]
 intro k M _;have kq:0<l.length:=aaX.2 W
 have p:∀(r:ae) (k:Nat),(H++r)[H.length+k]?=r[k]?:=fun r k=>by rw[aaw an];congr 1;omega
 have Z:∀(r:ae),(H++r)[H.length]?=r[0]?:=fun r=>p r 0;have N:(H.length+1<H.length)=False:=eq_false an
 by_cases g:k<l.length
 ·obtain⟨x,hx⟩:∃ x,x=l[k]:=⟨_,rfl⟩
  have O:l[k]?=some x:=by rw[aab g,hx]
  have s:(ak .u32 l)[k]?=some [.int .u32 (x:Int)]:=by simp[O]
  have xW:(ak .u32 l)[k]'(by simpa using g)=[.int .u32 (x:Int)]:=by rw[aab (by simpa using g)] at s;exact aaK.inj s
  have c:S (k+1)=sD x (S k):=by rw[f,f,aaW,O];exact zy3 _ _
  have t:=o k M
  have u:∀ k n,(b k).cl n=b k:=fun k n=>by rw[m];split<;>rfl
  have P:b (k+1)=.no:=by rw[m,if_neg an]
  obtain⟨L,hL⟩:∃ L,L=S k:=⟨_,rfl⟩;obtain⟨q,Q⟩:∃ q,q=b k:=⟨_,rfl⟩
  have i:∀ n,q.cl n=q:=fun n=>by rw[Q];exact u k n
  rw[<-hL] at c t |-;rw[<-Q];have ha:=zDE x L;simp(disch:=omega)[bM,s];refine aQ (rW x L) (fun j=>[(1,.fn 424 []),(5,.vs (ak .u32 L) q),(7,.int .u32 x),(8,.int .i64 j),(9,.vs (ak .u32 l) tk),(10,.int .i64 l.length),(11,.int .i64 k)]) (fun _=>H) (fun _=>True) ?_ ?_
  ·simp[av,e,a.self,i]
  intro j hj _
  by_cases v:j<L.length
  ·obtain⟨y,hy⟩:∃ y,y=L[j]:=⟨_,rfl⟩
   have w:L[j]?=some y:=by rw[aab v,hy]
   have z:(ak .u32 L)[j]?=some [.int .u32 (y:Int)]:=by simp[w]
   have hb:(ak .u32 L)[j]'(by simpa using v)=[.int .u32 (y:Int)]:=by rw[aab (by simpa using v)] at z;exact aaK.inj z
   have A:((j:Int)<(L.length:Int))=True:=eq_true an;simp(disch:=omega)[A,z];refine kj (zBq y H) (fun h=>by simp at h) ?_;simp[a.self];refine kj (zBq x H) (fun h=>by simp at h) ?_
   by_cases R:y<=x
   ·have B:j<rW x L:=by
     rcases abB j (rW x L) with h|h
     ·exact h
     ·have:j=rW x L:=an
      subst this;exact absurd R (ztO w)
    have C:((y:Int)<=(x:Int))=True:=eq_true an;simp(disch:=omega)[a.self,C,av,e,i,bH,B,-aad]
   ·have B:j=rW x L:=by
     rcases abB j (rW x L) with h|h
     ·exact absurd (zDF h w) R
     ·omega
    have C:((y:Int)<=(x:Int))=False:=eq_false an;have d:(j<=L.length)=True:=eq_true an;have D:(ak .u32 (L.drop j)=[])=False:=eq_false (by rw[zF0,ab_];omega);have Lw:(L.drop j).length=L.length-j:=abQ
    have E:(L.take j).length=j:=by rw[aaL];omega
    have BZ:((1+(L.length-j))*4<=140737488355328)=True:=eq_true an;have F:((j+(L.length-j+1))*4<=140737488355328)=True:=eq_true an;have I:(L.drop j).take (L.length-j)=L.drop j:=aap an
    have J:S (k+1)=L.take j++x::L.drop j:=by rw[c,zxX,<-B]
    have II:(ak .u32 (x::L.drop j)=[])=False:=eq_false (by simp[ak]);have Pw:[V.int .u32 (x:Int)]::ak .u32 (L.drop j)=ak .u32 (x::L.drop j):=rfl;simp(disch:=omega)[a.self,C,av,e,d,AH,x8,I,D,Lw,E,BZ,F,II,Pw,zws,p,Z,K,J,P,bH,g,N,-aad]
  ·have jd:j=L.length:=an
   have A:((j:Int)<(L.length:Int))=False:=eq_false an;have d:(j<=L.length)=True:=eq_true an;have T:L.drop j=[]:=ab_.2 an
   have E:(L.take j).length=j:=by rw[aaL];omega
   have F:((j+1)*4<=140737488355328)=True:=eq_true an
   have J:S (k+1)=L.take j++[x]:=by rw[c,zxX,show rW x L=j by omega,T]
   simp(disch:=omega)[A,av,e,d,AH,x8,T,E,F,p,K,J,P,bH,g,N,-aad]
 ·have:k=l.length:=an
  subst this
  have e0:b l.length=.no:=by rw[m,if_neg an]
  simp(disch:=omega)[Y,e0,a.self]
def zrt(R:Nat->List Ru)(o:Nat)(n:Nat):∀(l:List Nat) (c:List af),bE R o (l++[n]) c=((nO (R n) ((bE R o l c).1,o)).1,(bE R o l c).2++[(n,(nO (R n) ((bE R o l c).1,o)).2)])
 | [],c=>rfl
 | m::l,c=>by
  have a:=zrt R o n l (nO (R m) (c,o)).1;simp only[aau,bE,a]
def Zy(g:Nat->Nat):∀(l:List Nat) (k:Nat) (x:Nat),l[k]?=some x->eY g (l.take k)+g x<=eY g l
 | [],k,x,h=>by simp at h
 | y::l,0,x,h=>by simp at h;subst h;simp[eY]
 | y::l,k+1,x,h=>by
  have:=Zy g l k x (by simpa using h);simp only[List.take_succ_cons,eY];omega
def zxY(l:List (Nat×Nat))(x:Nat×Nat):EL l++[[.int .u32 (x.1:Int),.int .i64 (x.2:Int)]]=EL (l++[x]):=by simp[EL]
def zBr(es:List (V×V))(a:Nat)(l:List Nat)(n:Nat):Prop:=∃ i tk,j6 (.sc .int) (.int .u32 (a:Int)) es 0=some (some (i,.vs (ak .u32 l) tk))/\∀ m,n<=m->tk.cl m=tk
def zBs(es:List (V×V))(a k:Nat)(l:List Ru)(n:Nat):Prop:=∃ i tk,j6 (.row [.int,.int]) (.agg [.int .u32 (a:Int),.int .u32 (k:Int)]) es 0=some (some (i,.vs (RL l) tk))/\∀ m,n<=m->tk.cl m=tk
section
variable {H:ae} {b:Nat} {c:List af} {rs:List Ru}
def zBt[az G][bF G][eK G][cM G][bp G][eC G][fj G](h:nQ H b c .no){a o pn pm po px mn mo:Nat}{v i:List (V×V)}(w:H[pn]?=some (some (.cells [.mp mn])))(f:H[pm]?=some (some (.cells [.ptr b 0])))
  (P:H[po]?=some (some (.cells [.mp mo]))) (D:H[px]?=uv o) (D3:H[mn]?=some (some (.map v))) (E:H[mo]?=some (some (.map i))) (Q:zBr v a (fM rs a) H.length) (hO:∀ n∈fM rs a,zBs i a n (eX rs a n) H.length)
  (j:∀ r∈rs,r.dc) (ha:a∈eJ rs) (hl:rs.length<=100) (F:1<=o/\o<=c.length) (hc:c.length+En rs a<=4096) :
  SF G 425 [.int .u32 a,.ptr pn 0,.ptr pm 0,.ptr po 0,.ptr px 0] H (.int .i64 (sn rs o a c).length) (dL H b (sn rs o a c)):=by
 refine ke fj.afa (aaa rfl) ?_;have T:=h.lb;have I:=OI ha
 have k_:(fM rs a).length<=100:=by
  have h1:=OJ ((rs.filter fun r=>decide (r.aA=a)).map (·.nr)) []
  have h2:=abx (fun r=>decide (r.aA=a)) rs;simp only[ab0,ab3,abl] at h1;have:(fM rs a).length<=(rs.filter fun r=>decide (r.aA=a)).length:=h1;omega
 obtain⟨iN,U,Q,W⟩:=Q;simp only[uv] at D;have wS:=zy5 (G:=G) h.shut (fM rs a) U W I an;simp[w,D3,Q];refine cL wS ?_;have y:=Pv (fM rs a);have J:∀ n∈kY (fM rs a),n∈fM rs a:=fun n w=>O7.1 w;obtain⟨d,t⟩:∃ d,d=kY (fM rs a):=⟨_,rfl⟩;have GC:=zop (o:=o) j ha F
 have lY:CT (eX rs a) d+6*d.length<=En rs a:=by rw[t,y];exact aan _
 obtain⟨K,i2,X⟩:=IZ (o:=o) (R:=eX rs a) (l:=d) (c:=c) (fun _ _=>I0 j) F;have L:=zp9 X;rw[<-t] at y J |-;obtain⟨S,u⟩:∃ S:Nat->List af×List (Nat×Nat),∀ k,S k=bE (eX rs a) o (d.take k) c:=⟨_,fun _=>rfl⟩
 have BD:S 0=(c,[]):=by rw[u];rfl
 have yz:S d.length=bE (eX rs a) o d c:=by rw[u,aaY]
 have Y:∀ k,k<=d.length->(S k).2.length=k:=fun k hk=>by
  obtain⟨_,_,h3⟩:=IZ (o:=o) (R:=eX rs a) (l:=d.take k) (c:=c) (fun _ _=>I0 j) F;rw[u,zp9 h3,aaL];omega
 have dU:=zrr h;have Z:EL []=[]:=rfl;have hX:∀(c':List af) (n m:Nat),H.length+1<=m->[some (aw.zone n)].map (aax (aw.cl m))=[some (aw.zone n)]:=fun _ _ _ _=>rfl;have zA:∀(c':List af) (n:Nat),nQ (dL H b c'++[some (.zone n)]) b c' .no:=fun c' n=>(h.set c').app (fun m f=>rfl)
 have g:∀(c':List af) (n:Nat),(dL H b c'++[some (aw.zone n)]).length=H.length+1:=fun c' n=>by simp
 have fH:∀(c':List af) (n:Nat),aj (H.length+1) (dL H b c'++[some (.zone n)])=dL H b c'++[some (.zone n)]:=fun c' n=>by have:=(zA c' n).shut.self;rwa[g] at this
 have IG:∀(c':List af) (n:Nat) (r:ae),aj (H.length+1) (dL H b c'++some (.zone n)::r)=dL H b c'++[some (.zone n)]:=fun c' n r=>by
  have:=(zA c' n).shut.back r;rw[g,abq] at this;exact this
 have hh:=h.ne f;have hj:=h.ne P;have hq:=h.ne D
 have hr:mo≠b:=by intro e;rw[e,h.hb] at E;simp[oE] at E
 have hs:pm<H.length:=(aae.1 f).1;have ht:po<H.length:=(aae.1 P).1;have hu:px<H.length:=(aae.1 D).1;have hv:mo<H.length:=(aae.1 E).1;have z:(pm<H.length+1)=True:=eq_true an;have A:(po<H.length+1)=True:=eq_true an;have B:(px<H.length+1)=True:=eq_true an;have hw:(H.length+1<=pm)=False:=eq_false an;have hy:(H.length+1<=po)=False:=eq_false an;have hz:(H.length+1<=px)=False:=eq_false an
 have p:∀(c':List af) (r:ae),(dL H b c'++r)[pm]?=some (some (.cells [.ptr b 0])):=fun c' r=>by rw[aam (by simpa using hs),Gy hh];exact f
 have hB:∀(c':List af) (r:ae),(dL H b c'++r)[po]?=some (some (.cells [.mp mo])):=fun c' r=>by rw[aam (by simpa using ht),Gy hj];exact P
 have C:∀(c':List af) (r:ae),(dL H b c'++r)[px]?=some (some (.cells [.int .i64 o])):=fun c' r=>by rw[aam (by simpa using hu),Gy hq];exact D
 have hC:∀(c':List af) (r:ae),(dL H b c'++r)[mo]?=some (some (.map i)):=fun c' r=>by rw[aam (by simpa using hv),Gy hr];exact E
 have gk:∀(c':List af) (r:ae) (k:Nat),(dL H b c'++r)[H.length+k]?=r[k]?:=fun c' r k=>by rw[aaw ir,rH];congr 1;omega
 have zy:∀(c':List af) (r:ae),(dL H b c'++r)[H.length]?=r[0]?:=fun c' r=>gk c' r 0
 have BE:∀(c':List af) (r:ae) (x:Option aw),(dL H b c'++r).set H.length x=dL H b c'++r.set 0 x:=fun c' r x=>by rw[aaQ _ _ ir,rH,abP]
 have hD:aj (H.length+1) (H++[some (.zone 0)])=H++[some (.zone 0)]:=by have:=fH c 0;rwa[dU] at this
 have dF:∀(c':List af) (r:ae),aj H.length (dL H b c'++r)=dL H b c':=fun c' r=>by have:=(yG (b:=b) h.shut c').back r;rwa[rH] at this
 simp;refine aQ d.length (fun k=>[(0,.int .u32 a),(2,.ptr pm 0),(3,.ptr po 0),(4,.ptr px 0),(7,.vs (EL (S k).2) (.own H.length)),(13,.vs (ak .u32 d) .no),(14,.int .i64 d.length),(15,.int .i64 k)]) (fun k=>dL H b (S k).1++[some (.zone k)]) (fun _=>True) ?_ ?_
 ·simp[av,BD,dU,Z,z,A,B,hD]
 intro k hk _
 by_cases M:k<d.length
 ·obtain⟨x,rM⟩:∃ x,x=d[k]:=⟨_,rfl⟩
  have N:d[k]?=some x:=by rw[aab M,rM]
  have yU:(ak .u32 d)[k]?=some [.int .u32 (x:Int)]:=by simp[N]
  have xW:(ak .u32 d)[k]'(by simpa using M)=[.int .u32 (x:Int)]:=by rw[aab (by simpa using M)] at yU;exact aaK.inj yU
  have q:S (k+1)=((nO (eX rs a x) ((S k).1,o)).1,(S k).2++[(x,(nO (eX rs a x) ((S k).1,o)).2)]):=by rw[u,u,aaW,N];exact zrt _ _ _ _ _
  obtain⟨O,_,_⟩:=IZ (o:=o) (R:=eX rs a) (l:=d.take k) (c:=c) (fun _ _=>I0 j) F;rw[<-u] at O;have xp:=Y k hk;have Zx:=Zy (fun n=>uT (eX rs a n)) d k x N;obtain⟨iO,hE,hF,hG⟩:=hO x (J x (aaq N));obtain⟨⟨c1,Zz⟩,rT⟩:∃ s,s=S k:=⟨_,rfl⟩;rw[<-rT] at q O xp |-;have gj:=O.grown.len;have lj:=O.jB;simp only[CT] at q gj lj xp lY;have wr:=zBo (G:=G) ((h.set c1).app (R:=[some (.zone k),none]) (fun m f=>rfl)) (eX rs a x) hE (fun m f=>hG m (by simp at f;omega)) o (I0 j) lj an
  rw[Pl (by simpa using T),C5] at wr
  have Jm:cC [.int,.int] [.int .u32 (a:Int),.int .u32 (x:Int)] [.int .u32 (a:Int),.int .u32 (x:Int)]=some true:=by simp[cC,qx]
  simp(disch:=omega)[bM,yU];simp[p,hB,C,hC,hF,hw,hy,hz];refine cL wr ?_;have jI:((k+1)*16<=140737488355328)=True:=eq_true an;have eE:=zxY Zz (x,(nO (eX rs a x) (c1,o)).2);simp only at eE;simp[SM,BE,xp,jI,eE,q,-aad];simp(disch:=omega)[av,IG,z,A,B,bH,M,-aad]
  done
 ·have:k=d.length:=an
  subst this;rw[yz]
  have wt:=zqm (G:=G) (o:=o) (bE (eX rs a) o d c).2.length (zA (bE (eX rs a) o d c).1 d.length) (bE (eX rs a) o d c).2 (.own H.length) (fun n w=>by simp at w;simp[Tk.cl];omega)
   (by intro e;rw[e] at L;simp at L;have:=Pv (fM rs a);rw[<-t] at this;exact I (aaE.1 an)) (aan _) i2
   (fun e he=>O8 j (a:=a) (J _ (by rw[<-X];exact aah.2 ⟨e,he,rfl⟩))) K.jB (by have:=K.grown.len;simp only at this;omega)
  rw[Pl (by simpa using T),C5] at wt
  have tl:=(Ef (o:=o) _ (by intro e;rw[e] at L;simp at L;have:=Pv (fM rs a);rw[<-t] at this;exact I (aaE.1 an)) (aan _) i2
   (fun e he=>O8 j (a:=a) (J _ (by rw[<-X];exact aah.2 ⟨e,he,rfl⟩))) K.jB).grown.len
  have gi:=K.grown.len
  have hA:sn rs o a c=bt (bC (bE (eX rs a) o d c).2.length (bE (eX rs a) o d c).1 (bE (eX rs a) o d c).2 o).1 32 0:=by rw[t];rfl
  have kq:0<d.length:=by have:=Pv (fM rs a);rw[<-t] at this;have:=aaX.2 I;omega
  generalize bC (bE (eX rs a) o d c).2.length (bE (eX rs a) o d c).1 (bE (eX rs a) o d c).2 o=s2 at *;generalize bE (eX rs a) o d c=s1 at *;have wa:=K_ (G:=G) ((h.set s2.1).app (R:=[some (.zone d.length)]) (fun m f=>rfl)) 32 0 (.inr (.inr ⟨rfl,by decide,by decide⟩)) (by simp only at gi;omega);rw[Pl (by simpa using T),C5,<-hA] at wa;simp(disch:=omega)[p,C];refine cL wt ?_;simp(disch:=omega)[p]
  refine cL wa ?_;simp[dF]
  done
end
open Go Go.RowKit
variable {G:aM}
def zkM(l:List Ru)(r:Ru):eJ (l++[r])=vK (eJ l) r.aA:=by simp[eJ,zpt]
def Px(l:List Ru)(r:Ru)(a:Nat):fM (l++[r]) a=if r.aA=a then vK (fM l a) r.nr else fM l a:=by
 unfold fM;rw[abF,aav]
 by_cases h:r.aA=a
 ·have e:[r].filter (fun r=>decide (r.aA=a))=[r]:=by simp[h]
  rw[e,if_pos h];simp[zpt]
 ·have e:[r].filter (fun r=>decide (r.aA=a))=[]:=by simp[h]
  rw[e,if_neg h];simp
def LB(l:List Ru)(r:Ru)(a n:Nat):eX (l++[r]) a n=if r.aA=a/\r.nr=n then eX l a n++[r] else eX l a n:=by
 unfold eX;rw[abF]
 by_cases h:r.aA=a/\r.nr=n
 ·have e:[r].filter (fun r=>decide (r.aA=a/\r.nr=n))=[r]:=by simp[h]
  rw[e,if_pos h]
 ·have e:[r].filter (fun r=>decide (r.aA=a/\r.nr=n))=[]:=by rw[abb,if_neg (by simpa using h)];rfl
  rw[e,if_neg h];simp
def SN{l:List Ru}{a:Nat}:a∈eJ l↔∃ r∈l,r.aA=a:=by rw[eJ,CS,aah]
def SL{l:List Ru}{a n:Nat}:n∈fM l a↔∃ r∈l,r.aA=a/\r.nr=n:=by
 rw[fM,CS,aah];constructor
 ·rintro⟨r,b,h⟩;rw[aa4] at b;exact⟨r,b.1,by simpa using b.2,h⟩
 ·rintro⟨r,b,c,d⟩;exact⟨r,aa4.2 ⟨b,by simpa using c⟩,d⟩
abbrev EN:=Nat×List Nat×Nat
abbrev EO:=(Nat×Nat)×List Ru×Nat
structure kG (l:List Ru) (of:List EO) (dG:List EN) (ms:List Nat) (Z:ae):Prop where
 s_:ms=eJ l
 nk:dG.map (·.1)=eJ l
 nv:∀ e∈dG,e.2.1=fM l e.1
 ok:(of.map (·.1)).Nodup
 om:∀ k,k∈of.map (·.1)↔∃ r∈l,(r.aA,r.nr)=k
 ov:∀ e∈of,e.2.1=eX l e.1.1 e.1.2
 nz:∀ e∈dG,Z[e.2.2]?=some (some (.zone e.2.1.length))
 oz:∀ e∈of,Z[e.2.2]?=some (some (.zone e.2.1.length))
 dz:(dG.map (·.2.2)++of.map (·.2.2)).Nodup
 cz:∀ n,Z.map (aax (aw.cl n))=Z
def oH{α:Type}{l:List α}{j:Nat}{a e:α}(h:e∈l.set j a):e=a\/∃ i,i≠j/\l[i]?=some e:=by
 obtain⟨i,hi⟩:=List.getElem?_of_mem h;rw[abG] at hi
 by_cases b:j=i
 ·rw[if_pos b] at hi;split at hi
  ·left;exact(aaK.inj hi).symm
  ·cases hi
 ·rw[if_neg b] at hi;exact .inr ⟨i,Ne.symm b,hi⟩
def TW{α β:Type}(f:α->β){l:List α}{j:Nat}{a b:α}(h:l[j]?=some a)(d:f b=f a):(l.set j b).map f=l.map f:=by
 apply acs;intro i;simp only[aa_,abG]
 by_cases c:j=i
 ·subst c;rw[if_pos rfl,h];have:=(aae.1 h).1;rw[if_pos this];simp[d]
 ·rw[if_neg c]
def LC{α β:Type}{f:α->β}{l:List α}{i j:Nat}{a b:α}(c:(l.map f).Nodup)(hi:l[i]?=some a)(d:l[j]?=some b)(h:i≠j):f a≠f b:=by intro e;have g:=(aae.1 hi).1;refine h ((List.getElem?_inj (l:=l.map f) (by simpa using g) c).1 ?_);rw[aa_,aa_,hi,d,acA,acA,e]
def SJ{Z r:ae}{z:Nat}{x:Option aw}(h:Z[z]?=some x):(Z++r)[z]?=some x:=by rw[aam (aae.1 h).1];exact h
def zHq{Z r:ae}(h:∀ n,Z.map (aax (aw.cl n))=Z)(a:∀ n,r.map (aax (aw.cl n))=r):∀ n,(Z++r).map (aax (aw.cl n))=Z++r:=fun n=>by rw[aav,h,a]
def zBu{Z:ae}{z m:Nat}(h:∀ n,Z.map (aax (aw.cl n))=Z):∀ n,(Z.set z (some (.zone m))).map (aax (aw.cl n))=Z.set z (some (.zone m)):=fun n=>by rw[Ed,h];rfl
section
variable {l:List Ru} {of:List EO} {dG:List EN} {ms:List Nat} {Z R:ae} {r:Ru}
def kG.pS(h:kG l of dG ms Z){e:EO}(a:e∈of):e.2.2<Z.length:=(aae.1 (h.oz e a)).1
def kG.pT(h:kG l of dG ms Z){e:EN}(a:e∈dG):e.2.2<Z.length:=(aae.1 (h.nz e a)).1
def kG.more(h:kG l of dG ms Z)(b:∀ n,R.map (aax (aw.cl n))=R):kG l of dG ms (Z++R) :=
 ⟨h.s_,h.nk,h.nv,h.ok,h.om,h.ov,fun e a=>SJ (h.nz e a),fun e a=>SJ (h.oz e a),h.dz,zHq h.cz b⟩
def kG.Zl(h:kG l of dG ms Z){j z:Nat}{d:List Ru}(f:of[j]?=some ((r.aA,r.nr),d,z)):kG (l++[r]) (of.set j ((r.aA,r.nr),d++[r],z)) dG ms (Z.set z (some (.zone (d.length+1)))):=by
 have m:=aaq f;obtain⟨o,p,n⟩:=(h.om (r.aA,r.nr)).1 (aah.2 ⟨_,m,rfl⟩);simp only[acB.injEq] at n;have u:r.aA∈eJ l:=SN.2 ⟨o,p,n.1⟩;have v:r.nr∈fM l r.aA:=SL.2 ⟨o,p,n⟩
 have s:eJ (l++[r])=eJ l:=by rw[zkM,vK,if_pos u]
 have w:∀ a,fM (l++[r]) a=fM l a:=fun a=>by
  rw[Px];split
  ·rename_i e;subst e;rw[vK,if_pos v]
  ·rfl
 have hd:=h.dz;rw[aaG] at hd;obtain⟨D,y,A⟩:=hd;have B:=h.pS m
 have t:(of.set j ((r.aA,r.nr),d++[r],z)).map (·.1)=of.map (·.1):=TW (·.1) f (by rfl)
 have C:(of.set j ((r.aA,r.nr),d++[r],z)).map (·.2.2)=of.map (·.2.2):=TW (·.2.2) f (by rfl)
 refine⟨by rw[s];exact h.s_,by rw[s];exact h.nk,fun e b=>by rw[w];exact h.nv e b,?_,fun k=>?_,fun e b=>?_,fun e b=>?_,fun e b=>?_,?_,zBu h.cz⟩
 ·rw[t];exact h.ok
 ·rw[t,h.om];constructor
  ·rintro⟨x,c,e⟩;exact⟨x,by simp[c],e⟩
  ·rintro⟨x,c,e⟩
   rcases aat.1 c with c|c
   ·exact⟨x,c,e⟩
   ·rw[aaA] at c;subst c;exact⟨o,p,by rw[<-e];simp[n]⟩
 ·rcases oH b with rfl|⟨i,hi,g⟩
  ·simp only;rw[LB,if_pos ⟨rfl,rfl⟩,<-h.ov _ m]
  ·have:=LC h.ok g f hi;rw[LB,if_neg (fun q=>this (abS q.1.symm q.2.symm))];exact h.ov e (aaq g)
 ·have:e.2.2≠z:=A _ (aah.2 ⟨e,b,rfl⟩) _ (aah.2 ⟨_,m,rfl⟩);rw[aaz (Ne.symm this)];exact h.nz e b
 ·rcases oH b with rfl|⟨i,hi,g⟩
  ·simp only;rw[aaF B];simp
  ·have:=LC y g f hi;rw[aaz (Ne.symm this)];exact h.oz e (aaq g)
 ·rw[C];exact h.dz
def kG.Zq(h:kG l of dG ms Z)(o:(r.aA,r.nr)∉of.map (·.1)){j z m:Nat}{b:List Nat}(c:dG[j]?=some (r.aA,b,z))(t:Z[m]?=some (some (.zone 1)))(n:m∉dG.map (·.2.2)++of.map (·.2.2)) :
  kG (l++[r]) (of++[((r.aA,r.nr),[r],m)]) (dG.set j (r.aA,b++[r.nr],z)) ms (Z.set z (some (.zone (b.length+1)))):=by
 have d:=aaq c
 have u:r.aA∈eJ l:=by rw[<-h.nk];exact aah.2 ⟨_,d,rfl⟩
 have p:r.nr∉fM l r.aA:=fun v=>by
  obtain⟨x,a,e⟩:=SL.1 v;exact o ((h.om _).2 ⟨x,a,abS e.1 e.2⟩)
 have w:eX l r.aA r.nr=[]:=zsl p
 have s:eJ (l++[r])=eJ l:=by rw[zkM,vK,if_pos u]
 have hd:=h.dz;rw[aaG] at hd;obtain⟨A,H,B⟩:=hd;rw[aat,not_or] at n;have C:=h.pT d
 have D:(dG.set j (r.aA,b++[r.nr],z)).map (·.1)=dG.map (·.1):=TW (·.1) c (by rfl)
 have E:(dG.set j (r.aA,b++[r.nr],z)).map (·.2.2)=dG.map (·.2.2):=TW (·.2.2) c (by rfl)
 have F:m≠z:=fun e=>n.1 (by rw[e];exact aah.2 ⟨_,d,rfl⟩);refine⟨by rw[s];exact h.s_,by rw[D,s];exact h.nk,fun e he=>?_,?_,fun k=>?_,fun e he=>?_,fun e he=>?_,fun e he=>?_,?_,zBu h.cz⟩
 ·rcases oH he with rfl|⟨i,hi,f⟩
  ·simp only;rw[Px,if_pos rfl,vK,if_neg p,<-h.nv _ d]
  ·have G:(dG.map (·.1)).Nodup:=by rw[h.nk];exact Lc _
   have:=LC G f c hi;rw[Px,if_neg (Ne.symm this)];exact h.nv e (aaq f)
 ·rw[aav,aaG];exact⟨h.ok,ir,fun x a y g e=>o (by simp at g;rw[e,g] at a;exact a)⟩
 ·rw[aav,aat,h.om];constructor
  ·rintro(⟨x,a,e⟩|a)
   ·exact⟨x,by simp[a],e⟩
   ·simp at a;exact⟨r,ir,a.symm⟩
  ·rintro⟨x,a,e⟩
   rcases aat.1 a with a|a
   ·exact .inl ⟨x,a,e⟩
   ·rw[aaA] at a;subst a;exact .inr (by simp[<-e])
 ·rcases aat.1 he with he|he
  ·have:e.1≠(r.aA,r.nr):=fun q=>o (by rw[<-q];exact aah.2 ⟨e,he,rfl⟩);rw[LB,if_neg (fun q=>this (abS q.1.symm q.2.symm))];exact h.ov e he
  ·rw[aaA] at he;subst he;simp only;rw[LB,if_pos ⟨rfl,rfl⟩,w];rfl
 ·rcases oH he with rfl|⟨i,hi,f⟩
  ·simp only;rw[aaF C];simp
  ·have:=LC A f c hi;rw[aaz (Ne.symm this)];exact h.nz e (aaq f)
 ·rcases aat.1 he with he|he
  ·have:z≠e.2.2:=B _ (aah.2 ⟨_,d,rfl⟩) _ (aah.2 ⟨e,he,rfl⟩);rw[aaz this];exact h.oz e he
  ·rw[aaA] at he;subst he;simp only;rw[aaz F.symm];exact t
 ·rw[E,aav,<-abq,aaG]
  exact⟨h.dz,ir,fun x a y g e=>by
   simp at g;rw[e,g] at a
   rcases aat.1 a with a|a
   ·exact n.1 a
   ·exact n.2 a⟩
def kG.Zu(h:kG l of dG ms Z)(c:r.aA∉dG.map (·.1)){z d:Nat}(o:Z[z]?=some (some (.zone 1)))(p:Z[d]?=some (some (.zone 1)))(f:z∉dG.map (·.2.2)++of.map (·.2.2))(g:d∉dG.map (·.2.2)++of.map (·.2.2))(s:z≠d) :
  kG (l++[r]) (of++[((r.aA,r.nr),[r],d)]) (dG++[(r.aA,[r.nr],z)]) (ms++[r.aA]) Z:=by
 rw[h.nk] at c
 have i:(r.aA,r.nr)∉of.map (·.1):=fun t=>by
  obtain⟨x,a,e⟩:=(h.om _).1 t;exact c (SN.2 ⟨x,a,(acB.inj e).1⟩)
 have j:fM l r.aA=[]:=by rw[List.eq_nil_iff_forall_not_mem];intro n u;obtain⟨x,a,e⟩:=SL.1 u;exact c (SN.2 ⟨x,a,e.1⟩)
 have v:eX l r.aA r.nr=[]:=zsl (by rw[j];simp)
 have m:eJ (l++[r])=eJ l++[r.aA]:=by rw[zkM,vK,if_neg c]
 have hd:=h.dz;rw[aaG] at hd;obtain⟨w,A,B⟩:=hd;rw[aat,not_or] at g f;refine⟨by rw[m,h.s_],by rw[aav,h.nk,m];rfl,fun e he=>?_,?_,fun k=>?_,fun e he=>?_,fun e he=>?_,fun e he=>?_,?_,h.cz⟩
 ·rcases aat.1 he with he|he
  ·have:r.aA≠e.1:=fun q=>c (by rw[q,<-h.nk];exact aah.2 ⟨e,he,rfl⟩);rw[Px,if_neg this];exact h.nv e he
  ·rw[aaA] at he;subst he;simp only;rw[Px,if_pos rfl,j];rfl
 ·rw[aav,aaG];exact⟨h.ok,ir,fun x a y b e=>i (by simp at b;rw[e,b] at a;exact a)⟩
 ·rw[aav,aat,h.om];constructor
  ·rintro(⟨x,a,e⟩|a)
   ·exact⟨x,by simp[a],e⟩
   ·simp at a;exact⟨r,ir,a.symm⟩
  ·rintro⟨x,a,e⟩
   rcases aat.1 a with a|a
   ·exact .inl ⟨x,a,e⟩
   ·rw[aaA] at a;subst a;exact .inr (by simp[<-e])
 ·rcases aat.1 he with he|he
  ·have:e.1≠(r.aA,r.nr):=fun q=>i (by rw[<-q];exact aah.2 ⟨e,he,rfl⟩);rw[LB,if_neg (fun q=>this (abS q.1.symm q.2.symm))];exact h.ov e he
  ·rw[aaA] at he;subst he;simp only;rw[LB,if_pos ⟨rfl,rfl⟩,v];rfl
 ·rcases aat.1 he with he|he
  ·exact h.nz e he
  ·rw[aaA] at he;subst he;exact o
 ·rcases aat.1 he with he|he
  ·exact h.oz e he
  ·rw[aaA] at he;subst he;exact p
 ·rw[aav,aav,aaG];refine⟨?_,?_,?_⟩
  ·rw[aaG];exact⟨w,ir,fun x a y b e=>by simp at b;rw[e,b] at a;exact f.1 a⟩
  ·rw[aaG];exact⟨A,ir,fun x a y b e=>by simp at b;rw[e,b] at a;exact g.2 a⟩
  ·intro x a y b e
   rcases aat.1 a with a|a<;>rcases aat.1 b with b|b
   ·exact B x a y b e
   ·simp at b;rw[e,b] at a;exact g.1 a
   ·simp at a;rw[<-e,a] at b;exact f.2 b
   ·simp at a b;rw[a,b] at e;exact s e
end
open Go Go.RowKit
variable {G:aM}
def Zh{S:Type}(m:S->Nat)(E:S->List (Nat×V))(B:S->ae)(P:S->Prop)(l:List Nat)(k:Nat)(s:S)(a:Env)(H1:ae):Prop :=
 ∃ s' kk,m s'<m s/\P s'/\k<=kk/\kk<=H1.length/\(oR l a).cl kk=ib (E s')/\aj kk H1=B s'
def TX{S:Type}(G:aM)(K:List Kt)(Q:Ex->Env->ae->Prop)(l:List Nat)(k:Nat)(m:S->Nat)(E:S->List (Nat×V))(B:S->ae)(P:S->Prop)(s:S)(x:Ex)(a:Env)(H1:ae):Prop :=
 match x with
 | .nx=>Zh m E B P l k s a H1
 | x=>Wr G x K a H1 Q
section
variable {K:List Kt} {Q:Ex->Env->ae->Prop} {e:Env} {H:ae} {l:List Nat} {k:Nat} {S:Type} {m:S->Nat} {E:S->List (Nat×V)} {B:S->ae} {P:S->Prop} {s:S}
@[simp] theorem aby:TX G K Q l k m E B P s .nx e H=Zh m E B P l k s e H:=rfl
@[simp] theorem zMG (i:Nat):TX G K Q l k m E B P s (.exit i) e H=Wr G (.exit i) K e H Q:=rfl
@[simp] theorem zMP:TX G K Q l k m E B P s .ret e H=Wr G .ret K e H Q:=rfl
theorem zDG{c:bc}(m:S->Nat)(E:S->List (Nat×V))(B:S->ae)(P:S->Prop)(a:S)
  (b:P a/\(oR l e).cl H.length=ib (E a)/\aj H.length H=B a)
  (f:∀ s,P s->W G c [] (ib (E s)) (B s) (TX G K Q l H.length m E B P s)):W G (.loop l c) K e H Q:=by
 refine zE9 (fun k e H=>∃ s,k=m s/\P s/\e=ib (E s)/\H=B s) (m a) ⟨a,rfl,b.1,b.2.1,b.2.2⟩ ?_;rintro k e' H' ⟨s,rfl,g,rfl,rfl⟩;obtain⟨x,h,H1,i,d⟩:=f s g;refine⟨x,h,H1,i,?_⟩
 cases x with
 | nx=>obtain⟨s',kk,j,n,o,p,q,r⟩:=d;exact⟨m s',kk,j,o,p,s',rfl,n,q,r⟩
 | exit id=>exact d
 | ret=>exact d
end
def vN(e:EN):V×V:=(.int .u32 (e.1:Int),.vs (ak .u32 e.2.1) (.own (e.2.2+9)))
def vO(e:EO):V×V:=(.agg [.int .u32 (e.1.1:Int),.int .u32 (e.1.2:Int)],.vs (RL e.2.1) (.own (e.2.2+9)))
def LH(p:Po)(c:List af)(of dG:List (V×V))(m:Nat)(Z:ae):ae :=
 [some (.cells p.cs),some (oE c .no),some (.cells [.ptr 1 0]),some (.cells [.int .i64 1]),some (.map of),some (.cells [.mp 4]),some (.map dG),some (.cells [.mp 6]),some (.zone m)]++Z
section
variable {p:Po} {c:List af} {of dG:List (V×V)} {m:Nat} {Z:ae}
def s9:(LH p c of dG m Z).length=Z.length+9:=by simp[LH]
def Gh(r:ae):LH p c of dG m Z++r=LH p c of dG m (Z++r):=by simp[LH]
def ON:(LH p c of dG m Z)[1]?=some (some (.cells [.vs (IL c) .no,.int .i64 0])):=rfl
def BJ:(LH p c of dG m Z)[2]?=some (some (.cells [.ptr 1 0])):=rfl
def OL:(LH p c of dG m Z)[3]?=some (some (.cells [.int .i64 1])):=rfl
def Ek:(LH p c of dG m Z)[4]?=some (some (.map of)):=rfl
def Ej:(LH p c of dG m Z)[5]?=some (some (.cells [.mp 4])):=rfl
def IC:(LH p c of dG m Z)[6]?=some (some (.map dG)):=rfl
def ID:(LH p c of dG m Z)[7]?=some (some (.cells [.mp 6])):=rfl
def Zt:(LH p c of dG m Z)[8]?=some (some (.zone m)):=rfl
def zz(z:Nat):(LH p c of dG m Z)[z+9]?=Z[z]?:=by rw[LH,aaw ir];simp
def Zj(a:List (V×V)):(LH p c of dG m Z).set 4 (some (.map a))=LH p c a dG m Z:=rfl
def zEx(a:List (V×V)):(LH p c of dG m Z).set 6 (some (.map a))=LH p c of a m Z:=rfl
def zL1(a:Nat):(LH p c of dG m Z).set 8 (some (.zone a))=LH p c of dG a Z:=rfl
def Lb(z:Nat)(x:Option aw):(LH p c of dG m Z).set (z+9) x=LH p c of dG m (Z.set z x):=by rw[LH,aaQ _ _ ir];simp[LH]
end
section
variable {p:Po} {c:List af} {of:List EO} {dG:List EN} {m:Nat} {Z:ae}
def Zk(n:Nat)(r:Ru):aX n r.cs=r.cs:=by rw[ia];simp[Ru.cs,V.cl,Tk.cl]
def Ze(b:∀ n,Z.map (aax (aw.cl n))=Z)(d:∀ e∈of,e.2.2<Z.length)(f:∀ e∈dG,e.2.2<Z.length):im (LH p c (of.map vO) (dG.map vN) m Z):=by
 intro n g;rw[s9] at g
 have h:(of.map vO).map (fun q=>(q.1.cl n,q.2.cl n))=of.map vO:=by rw[acE];refine acb fun e a=>?_;have:=d e a;simp[vO,V.cl,aX,Tk.cl,show e.2.2+9<n by omega]
 have i:(dG.map vN).map (fun q=>(q.1.cl n,q.2.cl n))=dG.map vN:=by rw[acE];refine acb fun e a=>?_;have:=f e a;simp[vN,V.cl,Tk.cl,show e.2.2+9<n by omega]
 unfold LH;rw[aav,b]
 congr 1
 simp[oE,aw.cl,Po.cs,aX,V.cl,Tk.cl,show 1<n by omega,show 4<n by omega,show 6<n by omega];exact⟨by simpa using h,by simpa using i⟩
def zst{ks:Ky}{k:V}:∀{es:List (V×V)} (i:Nat),(∀ p∈es,j7 ks k p.1=some false)->j6 ks k es i=some none
 | [],_,_=>rfl
 | q::es,i,h=>by
  simp only[j6,h q ir];exact zst (i+1) fun p a=>h p (by simp[a])
def zsu{ks:Ky}{k:V}:∀{es:List (V×V)} (i j:Nat) {q:V×V},es[j]?=some q->j7 ks k q.1=some true->(∀ a<j,∀ p,es[a]?=some p->j7 ks k p.1=some false)->j6 ks k es i=some (some (i+j,q.2))
 | [],_,_,_,h,_,_=>by simp at h
 | x::es,i,0,q,h,b,_=>by
  simp at h;subst h
  simp only[j6,b,ace]
 | x::es,i,j+1,q,h,b,c=>by
  have d:=c 0 an x rfl;simp only[j6,d];have:=zsu (i+1) j (q:=q) (by simpa using h) b (fun a f p e=>c (a+1) an p (by simpa using e));rw[this,show i+1+j=i+(j+1) by omega]
def Ei(a b:Nat):j7 (.sc .int) (.int .u32 (a:Int)) (.int .u32 (b:Int))=some (decide (a=b)):=by simp[j7,qx];rw[aaS];simp
def Eh(a n b k:Nat):j7 (.row [.int,.int]) (.agg [.int .u32 (a:Int),.int .u32 (n:Int)]) (.agg [.int .u32 (b:Int),.int .u32 (k:Int)])=some (decide (a=b/\n=k)):=by simp[j7,cC,qx];rw[aaS];simp
def zDH{a:Nat}(h:a∉dG.map (·.1)):j6 (.sc .int) (.int .u32 (a:Int)) (dG.map vN) 0=some none:=by refine zst 0 fun q b=>?_;obtain⟨e,c,rfl⟩:=aah.1 b;rw[vN,Ei,decide_eq_false];exact fun d=>h (d▸aah.2 ⟨e,c,rfl⟩)
def zEy{j a z:Nat}{l:List Nat}(c:(dG.map (·.1)).Nodup)(h:dG[j]?=some (a,l,z)):j6 (.sc .int) (.int .u32 (a:Int)) (dG.map vN) 0=some (some (j,.vs (ak .u32 l) (.own (z+9)))):=by
 have:=zsu (ks:=.sc .int) (k:=.int .u32 (a:Int)) (es:=dG.map vN) 0 j (q:=vN (a,l,z)) (by simp[h]) (by rw[vN,Ei];simp) (fun g i q b=>by
  rw[aa_,aa8] at b;obtain⟨e,d,rfl⟩:=b;rw[vN,Ei,decide_eq_false]
  exact fun f=>LC c d h an f.symm)
 rw[this,abl];rfl
def zDI{a n:Nat}(h:(a,n)∉of.map (·.1)):j6 (.row [.int,.int]) (.agg [.int .u32 (a:Int),.int .u32 (n:Int)]) (of.map vO) 0=some none:=by refine zst 0 fun q c=>?_;obtain⟨e,d,rfl⟩:=aah.1 c;rw[vO,Eh,decide_eq_false];exact fun b=>h (aah.2 ⟨e,d,abS b.1.symm b.2.symm⟩)
def zEz{j a n z:Nat}{l:List Ru}(d:(of.map (·.1)).Nodup)(h:of[j]?=some ((a,n),l,z)):j6 (.row [.int,.int]) (.agg [.int .u32 (a:Int),.int .u32 (n:Int)]) (of.map vO) 0=some (some (j,.vs (RL l) (.own (z+9)))):=by
 have:=zsu (ks:=.row [.int,.int]) (k:=.agg [.int .u32 (a:Int),.int .u32 (n:Int)]) (es:=of.map vO) 0 j (q:=vO ((a,n),l,z)) (by simp[h]) (by rw[vO,Eh];simp) (fun g i q b=>by
  rw[aa_,aa8] at b;obtain⟨e,f,rfl⟩:=b;rw[vO,Eh,decide_eq_false]
  exact fun c=>LC d f h an (abS c.1.symm c.2.symm))
 rw[this,abl];rfl
end
open Go Go.RowKit
variable {G:aM}
def zy7(d:Da)(l:List Cd){k:Nat}{y:Cd}(h:l[k]?=some y):((l.take (k+1)).filter fun x=>x.holds d).length=((l.take k).filter fun x=>x.holds d).length+if y.holds d then 1 else 0:=by
 rw[aaW,h,abF,aaM];simp only[Option.toList_some,abb,List.filter_nil]
 split<;>simp
def ztP(d:Da):∀ l:List Cd,((l.filter fun x=>x.holds d).length==l.length)=Cd.ko d l
 | []=>rfl
 | x::l=>by
  have a:=ztP d l;have b:=abx (fun x=>Cd.holds x d) l
  have e:Cd.ko d (x::l)=(x.holds d&&Cd.ko d l):=by simp[Cd.ko]
  rw[e,abb,<-a];cases h:x.holds d
  ·simp only[aa6,if_false,Bool.false_and,aay];simp;omega
  ·simp only[if_true,Bool.true_and,aay];rw[aaS];simp
def zF1[lu G][ly G](r:Ru)(v:r.conds.length<=maxLen)(w:∀ x∈r.conds,x.ok)(d:Da)(hd:d.ok):FP G 437 [.agg r.cs,DV d] (.bool (dM d r)):=by
 refine bD ly.afk (aaa rfl) ?_
 have g:d.cs.length=9:=by simp[Da.cs,hd.2.2.2.1]
 have z:d.cs.take 9=d.cs:=aap an
 have A:(aX 0 d.cs).map V.jq=d.cs:=by rw[ia];simp[Da.cs,au,V.cl,V.jq,aaJ]
 have l:d.cs.map V.jq=d.cs:=by simp[Da.cs,au,V.jq,aaJ]
 have h:∀ n,aX n d.cs=d.cs:=fun n=>by rw[ia];simp[Da.cs,au,V.cl,aaJ]
 have p:d.cs.take 1=[.int .u32 (d.nr:Int)]:=rfl;have I:(d.cs.drop 1).take 1=[.int .u32 (d.aA:Int)]:=rfl;have b:(d.cs.tail).take 1=[.int .u32 (d.aA:Int)]:=rfl;unfold maxLen at v;obtain⟨N,i⟩:∃ N:Nat->Nat,∀ k,N k=((r.conds.take k).filter fun x=>x.holds d).length:=⟨_,fun _=>rfl⟩
 have B:N 0=0:=by rw[i];rfl
 simp[Ru.cs,DV];refine aQ r.conds.length (fun k=>[(2,.ptr 0 0),(3,.ptr 1 0),(5,.int .i64 (N k:Nat)),(6,.int .i64 k)]) (fun _=>[some (.cells r.cs),some (.cells d.cs)]) (fun _=>True) ?_ ?_
 ·simp[av,aj,Ru.cs,h,B]
 intro k J _
 by_cases f:k<r.conds.length
 ·obtain⟨y,C⟩:∃ y,y=r.conds[k]:=⟨_,rfl⟩
  have m:r.conds[k]?=some y:=by rw[aab f,C]
  have j:=LN m
  have D:(CL r.conds)[k]'(by simpa using f)=y.cs:=by rw[aab (by simpa using f)] at j;exact aaK.inj j
  have q:=zAO (G:=G) y (w y (aaq m)) d hd;have a:=zy7 d r.conds m;have s:=abx (fun x=>Cd.holds x d) (r.conds.take k);rw[aaL] at s;rw[<-i] at s a;rw[<-i] at a;simp only[Cd.cs,DV] at q j D;simp(disch:=omega)[bM,j,Ru.cs,g,z,l,h];refine ax q ?_
  cases t:y.holds d with
  | false =>
   rw[t] at a;simp only[aa6,if_false,ace] at a
   simp(disch:=omega)[av,aj,bH,f,a,h,-aad]
  | true =>
   rw[t] at a;simp only[if_true] at a;simp(disch:=omega)[av,aj,bH,f,a,h,-aad]
 ·have:k=r.conds.length:=an
  subst this;have E:=ztP d r.conds
  have c:((N r.conds.length:Int)==(r.conds.length:Int))=Cd.ko d r.conds:=by rw[<-E,i,aaY,aaS];simp
  have F:((r.aA:Int)==(d.aA:Int))=decide (r.aA=d.aA):=by rw[aaS];simp
  have H:((r.nr:Int)==(d.nr:Int))=decide (r.nr=d.nr):=by rw[aaS];simp
  cases e:Cd.ko d r.conds with
  | false =>
   rw[e] at c
   simp(disch:=omega)[Ru.cs,c,dM,e]
  | true =>
   rw[e] at c
   by_cases o:r.aA=d.aA
   ·by_cases u:r.nr=d.nr
    ·simp(disch:=omega)[Ru.cs,c,p,b,o,u,dM,e,g]
    ·simp(disch:=omega)[Ru.cs,c,p,b,H,o,u,dM,e,g]
   ·simp(disch:=omega)[Ru.cs,c,b,F,o,dM,e,g]
def dI(d:Da):List Ru->Option Nat
 | []=>none
 | r::l=>if dM d r then some 0 else(dI d l).map (·+1)
def LO(d:Da):∀ l:List Ru,(l.find? (dM d))=(dI d l).bind fun i=>l[i]?
 | []=>rfl
 | r::l=>by
  rw[acy,dI,LO d l];cases dM d r
  ·simp only[aa6,if_false]
   cases dI d l<;>simp
  ·simp
def Uk(d:Da):∀{l:List Ru} {i:Nat},dI d l=some i->i<l.length
 | [],_,h=>by simp[dI] at h
 | r::l,i,h=>by
  rw[dI] at h;split at h
  ·simp at h;subst h;simp
  ·cases a:dI d l with
   | none=>rw[a] at h;simp at h
   | some j =>
    have:=Uk d a;rw[a] at h;simp at h;subst h;simp;omega
def EV(d:Da)(l:List Ru)(i:Nat):Int:=match dI d (l.drop i) with|some j=>((i+j:Nat):Int)|none=>-1
def zy8(d:Da){l:List Ru}{i:Nat}{r:Ru}(h:l[i]?=some r):EV d l i=if dM d r then(i:Int) else EV d l (i+1):=by
 obtain⟨a,b⟩:=aae.1 h;unfold EV;rw[abh a,b,dI];cases dM d r
 ·simp only[aa6,if_false]
  cases dI d (l.drop (i+1)) with
  | none=>rfl
  | some j=>simp;omega
 ·simp
def zDJ[lu G][ly G](p:Po)(s:p.rules.length<=maxLen)(u:∀ r∈p.rules,r.conds.length<=maxLen/\∀ x∈r.conds,x.ok)(d:Da)(hd:d.ok):FP G 438 [.agg p.cs,DV d] (.int .i64 (EV d p.rules 0)):=by
 refine bD ly.afl (aaa rfl) ?_
 have v:d.cs.length=9:=by simp[Da.cs,hd.2.2.2.1]
 have w:d.cs.take 9=d.cs:=aap an
 have z:(aX 0 d.cs).map V.jq=d.cs:=by rw[ia];simp[Da.cs,au,V.cl,V.jq,aaJ]
 have f:d.cs.map V.jq=d.cs:=by simp[Da.cs,au,V.jq,aaJ]
 have b:∀ n,aX n d.cs=d.cs:=fun n=>by rw[ia];simp[Da.cs,au,V.cl,aaJ]
 unfold maxLen at s;obtain⟨N,c⟩:∃ N:Nat->Int,∀ k,N k=EV d p.rules (p.rules.length-k):=⟨_,fun _=>rfl⟩
 have A:N 0=-1:=by rw[c,ack,EV,abO];rfl
 have B:N p.rules.length=EV d p.rules 0:=by rw[c,abP]
 have C:c_ .i64 (p.rules.length:Int) 1=(p.rules.length:Int)-1:=oW an an;simp[Po.cs,DV,C];refine aQ p.rules.length (fun k=>[(2,.ptr 0 0),(3,.ptr 1 0),(5,.int .i64 (N k)),(6,.int .i64 ((p.rules.length:Int)-1-k))]) (fun _=>[some (.cells p.cs),some (.cells d.cs)]) (fun _=>True) ?_ ?_
 ·simp[av,aj,Po.cs,b,A]
 intro k I _
 by_cases i:k<p.rules.length
 ·obtain⟨t,J⟩:∃ t,t=p.rules.length-1-k:=⟨_,rfl⟩
  have g:t<p.rules.length:=an
  obtain⟨y,D⟩:∃ y,y=p.rules[t]:=⟨_,rfl⟩
  have h:p.rules[t]?=some y:=by rw[aab g,D]
  have e:=GO h
  have E:(RL p.rules)[t]'(by simpa using g)=y.cs:=by rw[aab (by simpa using g)] at e;exact aaK.inj e
  have j:=u y (aaq h);have l:=zF1 (G:=G) y j.1 j.2 d hd
  have a:N (k+1)=if dM d y then(t:Int) else N k:=by rw[c,c,show p.rules.length-(k+1)=t by omega,zy8 d h,show t+1=p.rules.length-k by omega]
  have F:(p.rules.length:Int)-1-k=(t:Int):=an
  have m:(p.rules.length:Int)-1-((k+1:Nat):Int)=(t:Int)-1:=an
  have o:c_ .i64 (t:Int) 1=(t:Int)-1:=oW an an;rw[F];simp only[Ru.cs,DV] at l e E;simp(disch:=omega)[e,Po.cs,v,w,f,b];refine ax l ?_
  cases q:dM d y with
  | false =>
   rw[q] at a;simp only[aa6,if_false] at a
   simp(disch:=omega)[av,aj,o,m,i,a,b,-aad]
  | true =>
   rw[q] at a;simp only[if_true] at a;simp(disch:=omega)[av,aj,o,m,i,a,b,-aad]
 ·have:k=p.rules.length:=an
  subst this;have H:((p.rules.length:Int)<=(p.rules.length:Int)-1)=False:=eq_false an;simp(disch:=omega)[H,B,Po.cs]
def xK(d:Da)(p:Po):Nat:=((p.rules.find? (dM d)).map (·.act)).getD p.cF
def zDK[lu G][ly G](p:Po)(g:p.rules.length<=maxLen)(h:∀ r∈p.rules,r.conds.length<=maxLen/\∀ x∈r.conds,x.ok)(d:Da)(hd:d.ok):FP G 439 [.agg p.cs,DV d] (.int .u32 (xK d p:Nat)):=by
 refine bD ly.afm (aaa rfl) ?_
 have i:d.cs.length=9:=by simp[Da.cs,hd.2.2.2.1]
 have k:d.cs.take 9=d.cs:=aap an
 have b:(aX 0 d.cs).map V.jq=d.cs:=by rw[ia];simp[Da.cs,au,V.cl,V.jq,aaJ]
 have w:=zDJ (G:=G) p g h d hd;simp only[Po.cs,DV] at w;simp[Po.cs,DV,i,k,b];refine ax w ?_
 have l:EV d p.rules 0=match dI d p.rules with|some j=>(j:Int)|none=>-1:=by unfold EV;rw[ab6];cases dI d p.rules<;>simp
 rw[l]
 cases c:dI d p.rules with
 | none =>
  have:xK d p=p.cF:=by rw[xK,LO,c];rfl
  simp[this]
 | some j =>
  have e:=Uk d c;obtain⟨y,m⟩:∃ y,y=p.rules[j]:=⟨_,rfl⟩
  have f:p.rules[j]?=some y:=by rw[aab e,m]
  have a:=GO f
  have n:(RL p.rules)[j]'(by simpa using e)=y.cs:=by rw[aab (by simpa using e)] at a;exact aaK.inj a
  have:xK d p=y.act:=by rw[xK,LO,c];simp[f]
  have o:((j:Int)<0)=False:=eq_false an;simp only[Ru.cs] at a n;simp(disch:=omega)[this,o,a]
end Go.Ev
