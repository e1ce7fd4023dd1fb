/- Filters made shorter: plain laws. -/
import Derived.Test.YtogjnjnabikdpaaGreatDoorWinGW
import Derived.Test.YtogjnjnabikdpaaGreatDoorSymXW
import Derived.Test.YtogjnjnabikdpaaGreatDoorEvInsCW
import Derived.Test.YtogjnjnabikdpaaGreatDoorCheckAW
import Derived.Test.YtogjnjnabikdpaaGreatDoorRef4AW
import Derived.Test.YtogjnjnabikdpaaGreatDoorEvSymCW
set_option linter.unusedSimpArgs false
set_option linter.unusedVariables false
set_option maxHeartbeats 8000000
set_option maxRecDepth 10000
namespace Go.Ev
open Go Go.RowKit
def zkj(f:List In4)(a n:Nat):Nat:=zar (nd (f.drop (a+n))) 18
def zc0(f:List In4)(a n:Nat):List In4:=(f.drop a).take n
noncomputable def zcr(w:List In4)(t:List TR)(live:Nat)(tries:Int):Option (List In4) :=
 match zfa t w live with
 | some x=>if winB x=true∧(decR w x live).1=0 then some x else findR w live tries
 | none=>findR w live tries
noncomputable def tryP(f:List In4)(t:List TR)(tries:Int)(p:Pc):Option (List In4×List TR) :=
 (zcr (zc0 f p.1 p.2) t (zkj f p.1 p.2) tries).map fun x=>(putL f p.1 p.2 x,(zbg t ⟨zc0 f p.1 p.2,x,zkj f p.1 p.2⟩).1)
noncomputable def zcN(f:List In4)(t:List TR)(tries most:Int):Option (List In4×List TR):=(rows f most f.length).findSome? (tryP f t tries)
noncomputable def zbR(tries most:Int):Nat→List In4→List TR→(List In4×List TR)×Nat×Bool
 | 0,f,t=>((f,t),0,false)
 | k+1,f,t=>match zcN f t tries most with
  | none=>((f,t),0,true)
  | some q=>((zbR tries most k q.1 q.2).1,(zbR tries most k q.1 q.2).2.1+1,(zbR tries most k q.1 q.2).2.2)
theorem zsJ{t:List TR}{w x:List In4}{live:Nat}(h:zfa t w live=some x):∃ r∈t,r.fr=w∧r.to=x∧r.may=true:=by
 unfold zfa at h
 split at h
 ·rename_i ht
  rw[Option.map_eq_some_iff] at h
  obtain⟨r,h1,h2⟩:=h
  have h3:=List.find?_some h1
  have h4:=List.mem_of_find?_eq_some h1
  simp only[Bool.and_eq_true,decide_eq_true_eq] at h3
  simp only[tblB,Bool.and_eq_true] at ht
  exact⟨r,h4,h3.1,h2,List.all_eq_true.1 ht.1.1 r h4⟩
 ·cases h
theorem zoY{w x:List In4}{t:List TR}{live:Nat}{tries:Int}(hk:∀ y∈w,y.k<4294967296)(hw:winB w=true)(htk:∀ r∈t,∀ y∈r.to,y.k<4294967296)(h:zcr w t live tries=some x) :
  winB x=true∧x.length<w.length∧(decR w x live).1=0∧∀ y∈x,y.k<4294967296:=by
 have hw32:w.length≤32:=by simp only[winB,Bool.and_eq_true,decide_eq_true_eq] at hw; exact hw.1
 have ff:findR w live tries=some x→winB x=true∧x.length<w.length∧(decR w x live).1=0∧∀ y∈x,y.k<4294967296:=fun h=>by
  obtain⟨k,_,hc,h0,_⟩:=zvg h
  have hm:=List.mem_of_getElem? hc
  exact⟨zvh zp5 hm hw32,zgG hm,h0,fun y hy=>zl3 hk hw y (zi5 hm y hy)⟩
 unfold zcr at h
 split at h
 ·rename_i y hy
  split at h
  ·rename_i hh
   cases h
   obtain⟨r,h1,h2,h3,h4⟩:=zsJ hy
   simp only[TR.may,Bool.and_eq_true,decide_eq_true_eq] at h4
   exact⟨hh.1,by rw[←h2,←h3]; exact h4.1.2,hh.2,by rw[←h3]; exact htk r h1⟩
  ·exact ff h
 ·exact ff h
def TblK(t:List TR):Prop:=∀ r∈t,(∀ y∈r.fr,y.k<4294967296)∧(∀ y∈r.to,y.k<4294967296)∧r.lv<4294967296
structure RdOk (f:List In4) (t:List TR) (f':List In4) (t':List TR):Prop where
 sound:zao f'=true
 k:∀ y∈f',y.k<4294967296
 len:f'.length<f.length
 run:∀ d:Da,d.ok→(run d f' St0).1=(run d f St0).1∧((∀ y∈f,y.op≠60)→(run d f' St0).2≤(run d f St0).2)
 divs:(∀ y∈f,y.op≠60)→∀ y∈f',y.op≠60
 all:AllP f→AllP f'
 tk:TblK t'
 tbl:tblB t=true→tblB t'=true∧t.length≤t'.length∧t'.length≤t.length+1∧∀ r∈t',r∈t∨winB r.fr=true∧winB r.to=true∧(decR r.fr r.to r.lv).1=0
theorem zwl{t:List TR}{r:TR}(ht:TblK t)(h1:∀ y∈r.fr,y.k<4294967296)(h2:∀ y∈r.to,y.k<4294967296)(h3:r.lv<4294967296):TblK (zbg t r).1:=by
 unfold zbg
 split
 ·split
  ·exact ht
  ·split
   ·exact ht
   ·intro x hx
    rw[List.mem_append,List.mem_cons] at hx
    rcases hx with hx|rfl|hx
    ·exact ht x (List.mem_of_mem_take hx)
    ·exact⟨h1,h2,h3⟩
    ·exact ht x (List.mem_of_mem_drop hx)
 ·exact ht
theorem zoZ{f f':List In4}{t t':List TR}{tries most:Int}(hs:zao f=true)(hk:∀ y∈f,y.k<4294967296)(ht:TblK t)(h:zcN f t tries most=some (f',t')):RdOk f t f' t':=by
 obtain⟨p,hp,he⟩:=List.exists_of_findSome?_eq_some h
 obtain⟨hpa,hc,h2,h32⟩:=zll hp
 simp only[cnd,zfZ,zcz,inB,Bool.and_eq_true,decide_eq_true_eq] at hc
 obtain⟨⟨_,_⟩,_,⟨i1,i2,i3,i4⟩,hfn⟩:=hc
 have hfn:zb6 f p.1 p.2=true:=by simpa using hfn
 have hn:0<p.2:=by omega
 have hbd:p.1+p.2≤f.length:=by omega
 have hlast:=znI hs hfn hn hbd
 unfold tryP at he
 rw[Option.map_eq_some_iff] at he
 obtain⟨x,hx,e⟩:=he
 cases e
 obtain⟨P,hP⟩:∃ P,P=zc0 f p.1 p.2:=⟨_,rfl⟩
 have hPl:P.length=p.2:=by rw[hP,zc0,List.length_take,List.length_drop]; omega
 have hPk:∀ y∈P,y.k<4294967296:=by rw[hP]; exact zku hk _ _
 have hPw:winB P=true:=by
  rw[hP]
  simp only[zb6,Bool.and_eq_true] at hfn
  exact hfn.1
 obtain⟨live,hlv⟩:∃ live,live=zkj f p.1 p.2:=⟨_,rfl⟩
 have hlv18:live<262144:=by rw[hlv]; exact zbd _ 18
 rw[←hP,←hlv] at hx ⊢
 obtain⟨w1,w2,w3,w4⟩:=zoY hPk hPw (fun r hr=>(ht r hr).2.1) hx
 have hxl:x.length≤p.2:=by omega
 have hdf:∀(d:Da),d.ok→∀ s:St,s.ok→zcu P x live s d=false:=fun d hd s hso=>by
  rcases dec_tells (live:=live) hPw w1 with⟨_,h⟩|⟨r,h,_⟩|⟨h,_⟩
  ·exact ztn hPk w4 hso hd hPw w1 h
  ·rw[h] at w3; cases w3
  ·rw[h] at w3; cases w3
 have hdv:divN P P.length=divN x x.length:=by
  rcases dec_tells (live:=live) hPw w1 with⟨_,h⟩|⟨r,h,_⟩|⟨h,_⟩
  ·exact ztG hPk w4 hPw w1 h
  ·rw[h] at w3; cases w3
  ·rw[h] at w3; cases w3
 have hPs:∀ y∈P,y∈f:=fun y hy=>by rw[hP] at hy; exact List.mem_of_mem_drop (List.mem_of_mem_take hy)
 have hmay:(⟨P,x,live⟩:TR).may=true:=by
  simp only[TR.may,hPw,w1,Bool.true_and,Bool.and_eq_true,decide_eq_true_eq]
  exact⟨by omega,hlv18⟩
 refine⟨ztv hs hfn hn hbd w1 hxl,zBl hk w4,by rw[zlm hbd]; omega,fun d hd=>?_,fun hd=>?_,fun ha=>zvm hs hfn hn hbd w1 hxl ha,zwl ht hPk w4 (show live<4294967296 by omega),fun htb=>?_⟩
 ·have:=zl0 (live:=live) hs hfn hn hbd w1 hxl hk w4 hd (fun q hq hnd=>by
   rw[zdP,zvP,hlv,zkj,zbI]; simp[hq,hnd]) (by show ∀ s:St,s.ok→zcu (zc0 f p.1 p.2) x live s d=false; rw[←hP]; exact hdf d hd) f.length 0 St0 (by omega) (by omega) (.inl (Nat.zero_le _)) zs1
  rw[if_pos (Nat.zero_le _),List.drop_zero,List.drop_zero] at this
  refine⟨this.1,fun hnd=>?_⟩
  rcases this.2 with h|h
  ·exact h
  ·exfalso
   have h0:=(zgv (w:=P)).2 fun y hy=>hnd y (hPs y hy)
   rw[hPl] at h0
   change 0<divN (zc0 f p.1 p.2) p.2 at h
   rw[←hP] at h
   omega
 ·have h0:=(zgv (w:=P)).2 fun y hy=>hd y (hPs y hy)
  rw[hdv] at h0
  have hx60:=zgv.1 h0
  intro y hy
  simp only[putL,List.mem_append] at hy
  rcases hy with(hy|hy)|hy
  ·simp only[pre,List.mem_map,List.mem_range] at hy
   obtain⟨i,hi,rfl⟩:=hy
   rw[zin]
   rw[List.getD,List.getElem?_eq_getElem (show i<f.length by omega)]
   exact hd _ (List.getElem_mem _)
  ·exact hx60 y hy
  ·exact hd y (List.mem_of_mem_drop hy)
 ·obtain⟨l1,l2,l3,l4⟩:=zvn htb hmay
  refine⟨l1,l2,l3,fun r hr=>?_⟩
  rcases l4 r hr with h|rfl
  ·exact .inl h
  ·exact .inr ⟨hPw,w1,w3⟩
structure AllOk (f:List In4) (t:List TR) (q:(List In4×List TR)×Nat×Bool):Prop where
 sound:zao q.1.1=true
 k:∀ y∈q.1.1,y.k<4294967296
 len:q.1.1.length≤f.length
 run:∀ d:Da,d.ok→(run d q.1.1 St0).1=(run d f St0).1∧((∀ y∈f,y.op≠60)→(run d q.1.1 St0).2≤(run d f St0).2)
 all:AllP f→AllP q.1.1
 tk:TblK q.1.2
 tbl:tblB t=true→tblB q.1.2=true∧t.length≤q.1.2.length∧q.1.2.length≤t.length+q.2.1∧∀ r∈q.1.2,r∈t∨winB r.fr=true∧winB r.to=true∧(decR r.fr r.to r.lv).1=0
theorem zni{tries most:Int}:∀(n:Nat) {f:List In4} {t:List TR},zao f=true→(∀ y∈f,y.k<4294967296)→TblK t→AllOk f t (zbR tries most n f t)
 | 0,f,t,hs,hk,ht=>⟨hs,hk,Nat.le_refl _,fun d _=>⟨rfl,fun _=>Nat.le_refl _⟩,id,ht,fun h=>⟨h,Nat.le_refl _,by simp[zbR],fun r hr=>.inl hr⟩⟩
 | n+1,f,t,hs,hk,ht=>by
  unfold zbR
  cases hr:zcN f t tries most with
  | none=>exact⟨hs,hk,Nat.le_refl _,fun d _=>⟨rfl,fun _=>Nat.le_refl _⟩,id,ht,fun h=>⟨h,Nat.le_refl _,by simp,fun r hr=>.inl hr⟩⟩
  | some q =>
   have k:=zoZ hs hk ht hr
   have ih:=zni (tries:=tries) (most:=most) n k.sound k.k k.tk
   simp only[]
   refine⟨ih.sound,ih.k,by have:=ih.len; have:=k.len; simp only; omega,fun d hd=>?_,fun ha=>ih.all (k.all ha),ih.tk,fun htb=>?_⟩
   ·obtain⟨a1,a2⟩:=ih.run d hd
    obtain⟨b1,b2⟩:=k.run d hd
    exact⟨a1.trans b1,fun hn=>Nat.le_trans (a2 (k.divs hn)) (b2 hn)⟩
   ·obtain⟨b1,b2,b3,b4⟩:=k.tbl htb
    obtain⟨a1,a2,a3,a4⟩:=ih.tbl b1
    refine⟨a1,by simp only; omega,by simp only; omega,fun r hr=>?_⟩
    rcases a4 r hr with h|h
    ·exact b4 r h
    ·exact .inr h
end Go.Ev
/- Bytes of windows: the code. -/
namespace Go.Ev
open Go Go.RowKit
variable {G:Tbl}
theorem zmt(a:Nat):zaG .u8 (a:Int)=((a%256:Nat):Int):=by
 unfold zaG
 simp[IntKind.wrap,IntKind.bits,IntKind.signed]
def encN(x:In4):List Nat:=[x.op.toNat%256,x.op.toNat/256%256,x.jt.toNat%256,x.jf.toNat%256]++lowL x.k 4
theorem zuy(x:In4):(encN x).length=8:=by simp[encN,lowL]
def zbx(w:List In4):List Nat:=w.flatMap encN
theorem zdB:∀ w:List In4,(zbx w).length=8*w.length
 | []=>rfl
 | x::w=>by rw[zbx,List.flatMap_cons,List.length_append,zuy,←zbx,zdB w,List.length_cons]; omega
theorem zrs(w:List In4)(x:In4):zbx (w++[x])=zbx w++encN x:=by simp[zbx]
theorem zo0(w:List In4):encW w=(zbx w).map UInt8.ofNat:=by
 rw[encW,zbx,List.map_flatMap]
 congr 1
theorem zsK{x:In4}(h:zaW x=true):(0≤x.op∧x.op≤255)∧(0≤x.jt∧x.jt≤255)∧0≤x.jf∧x.jf≤255:=by
 cases hr:za3 x.op with
 | none=>simp[zaW,hr] at h
 | some r =>
  obtain⟨h1,h2⟩:=zcv hr
  have h3:∀ r∈zaE,0≤r.1∧r.1≤255:=by decide
  have h4:=h3 r h2
  rw[h1] at h4
  refine⟨h4,?_⟩
  rw[zaW,hr] at h
  simp only[Bool.and_eq_true] at h
  obtain⟨_,h⟩:=h
  split at h
  ·simp only[decide_eq_true_eq] at h; omega
  ·simp only[decide_eq_true_eq] at h; omega
theorem zuz[HasIns G][HasEnc G](w:List In4)(hw:w.length≤4096)(hk:∀ x∈w,x.k<4294967296)(hr:∀ x∈w,zaW x=true):FP G 350 [FL w] (.int .i64 0):=by
 refine zak HasEnc.h_codec_check (Nat.le_of_ble_eq_true rfl) ?_
 have h1:((4096:Int)<(w.length:Int))=False:=eq_false (by omega)
 simp[FL,h1]
 refine W_up w.length (fun i=>[(8,FL w),(9,.int .i64 w.length),(10,.int .i64 i)]) (fun _=>[]) (fun _=>True) ?_ ?_
 ·simp[zaa,zad,FL]
 intro i hi _
 by_cases hlt:i<w.length
 ·obtain⟨x,hfx⟩:∃ x,x=w[i]:=⟨_,rfl⟩
  have hgg:=zbk hlt
  rw[←hfx] at hgg
  have hri:=hr x (by rw[hfx]; exact List.getElem_mem hlt)
  have hxl:x.cs.length=4:=rfl
  have hxt:x.cs.take 4=x.cs:=rfl
  simp(disch:=omega)[ltT,FL,hgg,hfx.symm,hxl,hxt]
  refine zab (znE x) ?_
  simp(disch:=omega)[hri,hlt,zag,zaa,zad,-Int.natCast_add]
 ·have hne:i=w.length:=by omega
  subst hne
  simp
theorem znj[HasIns G][HasEnc G](w:List In4)(hw:w.length≤4096)(hk:∀ x∈w,x.k<4294967296)(hr:∀ x∈w,zaW x=true):FP G 351 [FL w] (.tup [.vs (nats .u8 (zbx w)) .no,.int .i64 0]):=by
 refine zak HasEnc.h_codec_Encode (Nat.le_of_ble_eq_true rfl) ?_
 have hck:=zuz (G:=G) w hw hk hr
 simp[FL]
 refine zab hck ?_
 simp
 obtain⟨T,hT⟩:∃ T:Nat→List Nat,∀ j,T j=zbx (w.take j):=⟨_,fun _=>rfl⟩
 have hT0:T 0=[]:=by rw[hT]; rfl
 refine W_up w.length (fun i=>[(5,.vs (nats .u8 (T i)) (.own 0)),(14,FL w),(15,.int .i64 w.length),(16,.int .i64 i)]) (fun i=>[some (.zone (T i).length)]) (fun _=>True) ?_ ?_
 ·simp[zaa,zad,FL,hT0]
 intro i hi _
 by_cases hlt:i<w.length
 ·obtain⟨x,hfx⟩:∃ x,x=w[i]:=⟨_,rfl⟩
  have hgg:=zbk hlt
  rw[←hfx] at hgg
  have hxk:x.k<4294967296:=hk x (by rw[hfx]; exact List.getElem_mem hlt)
  obtain⟨r1,r2,r3⟩:=zsK (hr x (by rw[hfx]; exact List.getElem_mem hlt))
  have hTs:T (i+1)=T i++encN x:=by
   rw[hT,hT,List.take_add_one,List.getElem?_eq_getElem hlt,Option.toList_some,zrs,hfx]
  have hTl:(T i).length=8*i:=by rw[hT,zdB,List.length_take]; omega
  obtain⟨o,ho⟩:∃ o:Nat,x.op=o:=⟨x.op.toNat,by omega⟩
  obtain⟨jt,hjt⟩:∃ o:Nat,x.jt=o:=⟨x.jt.toNat,by omega⟩
  obtain⟨jf,hjf⟩:∃ o:Nat,x.jf=o:=⟨x.jf.toNat,by omega⟩
  obtain⟨k,hxk2⟩:∃ k,x.k=k:=⟨_,rfl⟩
  have hcs:x.cs=[.int .i64 o,.int .i64 jt,.int .i64 jf,.int .u32 k]:=by rw[In4.cs,ho,hjt,hjf,hxk2]
  have hen:encN x=[o%256,o/256%256,jt%256,jf%256]++lowL k 4:=by rw[encN,ho,hjt,hjf,hxk2]; rfl
  have hs8:shrI .i64 (o:Int) 8=((o/256:Nat):Int):=zd5 (j:=8) (by decide)
  obtain⟨U,hU⟩:∃ U:List Nat,U=T i++[o%256,o/256%256,jt%256,jf%256]:=⟨_,rfl⟩
  have hUl:U.length=8*i+4:=by rw[hU,List.length_append,hTl]; rfl
  have hap:nats .u8 (T i)++[[V.int .u8 (o%256:Nat)],[V.int .u8 (o/256%256:Nat)],[V.int .u8 (jt%256:Nat)],[V.int .u8 (jf%256:Nat)]]=nats .u8 U:=by
   rw[hU]; simp[nats]
  simp(disch:=omega)[ltT,FL,hgg,hfx.symm,hcs,zmt,hs8,hap,hTl,hUl,leTn,zaa,-Int.natCast_add,-Int.natCast_ediv,-Int.natCast_emod]
  refine W_up 4 (fun j=>[(5,.vs (nats .u8 (U++lowL k j)) (.own 0)),(7,.ptr 1 0),(14,FL w),(15,.int .i64 w.length),(16,.int .i64 i),(36,.int .i64 j)])
   (fun j=>[some (.zone (8*i+4+j)),some (.cells [.int .i64 o,.int .i64 jt,.int .i64 jf,.int .u32 k]),none]) (fun _=>True) ?_ ?_
  ·have hl0:lowL k 0=[]:=rfl
   simp[zaa,zad,FL,hl0]
  intro j hj _
  by_cases hj4:j<4
  ·have m1:mulI .i64 8 (j:Int)=((8*j:Nat):Int):=by unfold mulI; exact IntWalk.i64_in _ ⟨by omega,by omega⟩
   have m2:shrI .u32 (k:Int) ((8*j:Nat):Int)=((k/256^j:Nat):Int):=by
    rw[ziI (by omega),Nat.pow_mul]
   have m0:(((8*j:Nat):Int)<0)=False:=eq_false (by omega)
   have hls:nats .u8 (U++lowL k j)++[[V.int .u8 (k/256^j%256:Nat)]]=nats .u8 (U++lowL k (j+1)):=by
    rw[znn]; simp[nats]
   have hll:(U++lowL k j).length=8*i+4+j:=by rw[List.length_append,hUl,zcd]
   simp(disch:=omega)[ltT,m0,m1,m2,zmt,hls,hll,leTn,zag,hj4,zaa,zad,FL,-Int.natCast_add,-Int.natCast_mul,-Int.natCast_ediv,-Int.natCast_emod,-Int.natCast_pow]
   omega
  ·have hne:j=4:=by omega
   subst hne
   have hfin:U++lowL k 4=T (i+1):=by rw[hTs,hen,hU,List.append_assoc]
   have hTl2:(T (i+1)).length=8*i+4+4:=by rw[←hfin,List.length_append,hUl,zcd]
   simp(disch:=omega)[hfin,hTl2,hlt,zag,zaa,zad,FL,-Int.natCast_add]
 ·have hne:i=w.length:=by omega
  subst hne
  have:T w.length=zbx w:=by rw[hT,List.take_length]
  simp[this]
end Go.Ev
/- Rules: the code. -/
namespace Go.Ev
open Go Go.RowKit
variable {G:Tbl}
def TR.cs(r:TR):List V:=[.vs (IL r.fr) .no,.vs (IL r.to) .no,.int .u32 r.lv]
def TV(r:TR):V:=.agg r.cs
def TL(t:List TR):List (List V):=t.map TR.cs
def TF(t:List TR):V:=.vs (TL t) .no
@[simp] theorem zBD (t:List TR):(TL t).length=t.length:=by simp[TL]
theorem zhk{t:List TR}{i:Nat}{r:TR}(h:t[i]?=some r):(TL t)[i]?=some r.cs:=by simp[TL,h]
def TR.ok(r:TR):Prop:=r.fr.length≤maxLen∧r.to.length≤maxLen∧(∀ x∈r.fr,x.k<4294967296)∧(∀ x∈r.to,x.k<4294967296)∧r.lv<4294967296
theorem zjI:∀ l:List Nat,(∀ b∈l,b<256)→zet (nats .u8 l)=some (l.map UInt8.ofNat)
 | [],_=>rfl
 | b::l,h=>by
  have ih:=zjI l fun c hc=>h c (by simp[hc])
  simp only[nats] at ih
  simp[nats,zet,ih]
theorem zez{w:List In4}(h:winB w=true):w.length≤32∧∀ x∈w,zaW x=true:=by
 simp only[winB,Bool.and_eq_true,decide_eq_true_eq,List.all_eq_true,zaQ] at h
 exact⟨h.1,fun x hx=>(h.2 x hx).1.2⟩
theorem zqq{x:In4}:∀ b∈encN x,b<256:=by
 intro b hb
 simp only[encN,lowL,List.mem_append,List.mem_cons,List.not_mem_nil,or_false,List.mem_map,List.mem_range] at hb
 rcases hb with(rfl|rfl|rfl|rfl)|⟨j,_,rfl⟩<;>exact Nat.mod_lt _ (by decide)
def TR.byN(r:TR):List Nat:=lowL r.lv 4++[r.fr.length%256,r.to.length%256]++zbx r.fr++zbx r.to
theorem zxD(r:TR):r.by=r.byN.map UInt8.ofNat:=by
 have h4:zl5 r.lv=(lowL r.lv 4).map UInt8.ofNat:=by simp[zl5,lowL,List.range,List.range.loop]
 rw[TR.by,TR.byN,h4,zo0,zo0]
 simp[Function.comp_def]
theorem zxE(r:TR):∀ b∈r.byN,b<256:=by
 intro b hb
 simp only[TR.byN,List.mem_append,List.mem_cons,List.not_mem_nil,or_false,zbx,List.mem_flatMap] at hb
 rcases hb with((hb|rfl|rfl)|⟨x,_,hb⟩)|⟨x,_,hb⟩
 ·simp only[lowL,List.mem_map,List.mem_range] at hb
  obtain⟨j,_,rfl⟩:=hb
  exact Nat.mod_lt _ (by decide)
 ·exact Nat.mod_lt _ (by decide)
 ·exact Nat.mod_lt _ (by decide)
 ·exact zqq b hb
 ·exact zqq b hb
theorem znk[HasIns G][HasCheck G][HasWRight G][HasTbl G](r:TR)(hr:r.ok):FP G 352 [TV r] (.bool r.may):=by
 refine zak HasTbl.h_table_Rule_right (Nat.le_of_ble_eq_true rfl) ?_
 obtain⟨h1,h2,h3,h4,h5⟩:=hr
 have w1:=zbV (G:=G) r.fr h1 h3
 have w2:=zbV (G:=G) r.to h2 h4
 simp only[FL] at w1 w2
 simp[TV,TR.cs]
 refine zab w1 ?_
 cases e1:winB r.fr with
 | false=>simp[TR.may,e1]
 | true =>
  simp
  refine zab w2 ?_
  cases e2:winB r.to with
  | false=>simp[TR.may,e1,e2]
  | true =>
   by_cases hl:r.to.length<r.fr.length
   ·by_cases hv:r.lv<262144
    ·have hv':((r.lv:Int)<262144)=True:=eq_true (by omega)
     simp[TR.may,e1,e2,hl,hv,hv']
    ·have hv':((r.lv:Int)<262144)=False:=eq_false (by omega)
     simp[TR.may,e1,e2,hl,hv,hv']
   ·simp[TR.may,e1,e2,hl]
def SE(G:Tbl)(f:Nat)(args:List V)(H:Heap)(r:V):Prop:=∃ H1,Big G (.F f args H r H1)∧zad H.length H1=H
theorem zvz{f nt:Nat}{body:SCode}{res:List ResV}{args:List V}{r:V}{H:Heap}(hg:G f=some ⟨nt,body,res⟩)(hl:args.length≤nt)
  (h:W G body [] (mkE (idxE 0 args)) H (QX res fun r1 H1=>r1=r∧zad H.length H1=H)):SE G f args H r:=by
 obtain⟨x,e1,H1,hb,hx,vs,hvs,hr,ht⟩:=h
 rw[←ziF] at hb
 rw[←hr]
 exact⟨_,.fn hg hl hb hx hvs,ht⟩
theorem SE.vcall{f:Nat}{cap args:List V}{r:V}{H:Heap}{base:Nat}{d:Option Nat}{os:List SOper}{K:List Kt}{e:Env}{Q:Ex→Env→Heap→Prop}{ro:Bool}(h:SE G f (args++cap) H r)(hr':r.cl H.length=r)
  (hr:WO G base os K (e.put d r) H Q):zkd G ro (.fn f cap) args base d os K e H Q:=by
 obtain⟨H1,hb,ht⟩:=h
 refine zaI hb (fun _=>ht) ?_
 rw[hr',ht]
 exact hr
theorem SE.scall{f:Nat}{args:List V}{r:V}{H:Heap}{base:Nat}{d:Option Nat}{os:List SOper}{K:List Kt}{e:Env}{Q:Ex→Env→Heap→Prop}(h:SE G f args H r)(hr':r.cl H.length=r)
  (hr:WO G base os K (e.put d r) H Q):znY G f args base d os K e H Q:=by
 obtain⟨H1,hb,ht⟩:=h
 refine zfs hb ?_
 rw[hr',ht]
 exact hr
theorem zhC[HasIns G][HasEnc G][HasTbl G](r:TR)(hr:r.ok)(hm:r.may=true)(H:Heap)(hH:za1 H):SE G 353 [TV r] H (.str r.by):=by
 refine zvz HasTbl.h_table_Rule_bytes (Nat.le_of_ble_eq_true rfl) ?_
 have ht:=ze4 hH
 have ht0:∀ s:Heap,zad H.length (H++s)=H:=fun s=>hH.back s
 obtain⟨h1,h2,h3,h4,h5⟩:=hr
 simp only[TR.may,Bool.and_eq_true,decide_eq_true_eq] at hm
 obtain⟨⟨⟨m1,m2⟩,_⟩,_⟩:=hm
 obtain⟨a1,a2⟩:=zez m1
 obtain⟨b1,b2⟩:=zez m2
 have w1:=znj (G:=G) r.fr (by omega) h3 a2
 have w2:=znj (G:=G) r.to (by omega) h4 b2
 simp only[FL] at w1 w2
 obtain⟨v,hv⟩:∃ v,r.lv=v:=⟨_,rfl⟩
 have s1:shrI .u32 (v:Int) 8=((v/256:Nat):Int):=ziI (j:=8) (by decide)
 have s2:shrI .u32 (v:Int) 16=((v/65536:Nat):Int):=ziI (j:=16) (by decide)
 have s3:shrI .u32 (v:Int) 24=((v/16777216:Nat):Int):=ziI (j:=24) (by decide)
 obtain⟨B,hB⟩:∃ B:List Nat,B=lowL v 4++[r.fr.length%256,r.to.length%256]:=⟨_,rfl⟩
 have hBl:B.length=6:=by rw[hB]; simp[lowL]
 have hBe:[[V.int .u8 (v%256:Nat)],[V.int .u8 (v/256%256:Nat)],[V.int .u8 (v/65536%256:Nat)],[V.int .u8 (v/16777216%256:Nat)],[V.int .u8 (r.fr.length%256:Nat)],[V.int .u8 (r.to.length%256:Nat)]]=nats .u8 B:=by
  rw[hB]; simp[nats,lowL,List.range,List.range.loop]
 simp(disch:=omega)[ap0,apk,set0,setk,TV,TR.cs,hv,s1,s2,s3,zmt,hBe,-Int.natCast_ediv,-Int.natCast_emod]
 obtain⟨D,hD⟩:∃ D:Nat→List Nat,∀ j,D j=if j=0 then B else if j=1 then B++zbx r.fr else B++zbx r.fr++zbx r.to:=⟨_,fun _=>rfl⟩
 have hD0:D 0=B:=by rw[hD]; rfl
 have hD1:D 1=B++zbx r.fr:=by rw[hD]; rfl
 have hD2:D 2=r.byN:=by rw[hD,TR.byN,hv,hB]; rfl
 have l1:(D 1).length=6+8*r.fr.length:=by rw[hD1,List.length_append,hBl,zdB]
 have l2:(D 2).length=6+8*r.fr.length+8*r.to.length:=by rw[hD2,TR.byN,List.length_append,hv,←hB,←hD1,l1,zdB]
 have p1:nats .u8 B++nats .u8 (zbx r.fr)=nats .u8 (D 1):=by rw[hD1]; simp[nats]
 have p2:nats .u8 (D 1)++nats .u8 (zbx r.to)=nats .u8 (D 2):=by rw[hD1,hD]; simp[nats]
 have q1:(zbx r.fr).length=8*r.fr.length:=zdB _
 have q2:(zbx r.to).length=8*r.to.length:=zdB _
 have n1:∀ l:List Nat,(nats .u8 l=[])=(l=[]):=fun l=>by simp[nats]
 have n2:∀ w:List In4,(zbx w=[])=(w=[]):=fun w=>propext ⟨fun h=>List.eq_nil_of_length_eq_zero (by have:=zdB w; rw[h] at this; simp at this; omega),fun h=>by rw[h]; rfl⟩
 have hbb:=zjI r.byN (zxE r)
 rw[←zxD,←hD2] at hbb
 refine W_up 2 (fun j=>[(3,.vs (nats .u8 (D j)) (.own (H.length+1))),(36,.agg [.vs (IL r.fr) .no,.vs (IL r.to) .no]),(37,.int .i64 j)])
  (fun j=>H++[some (.cells [.vs (IL r.fr) .no,.vs (IL r.to) .no,.int .u32 v]),some (.zone (D j).length)]) (fun _=>True) ?_ ?_
 ·simp[zaa,ht,ht0,ap0,apk,set0,setk,hD0]
 have d0:addI .i64 0 1=1:=by rw[zaD]<;>omega
 have d1:addI .i64 1 1=2:=by rw[zaD]<;>omega
 intro j hj _
 rcases(show j=0∨j=1∨j=2 by omega) with rfl|rfl|rfl
 ·simp[ap0,apk,set0,setk]
  refine zab w1 ?_
  by_cases hf0:r.fr=[]
  ·have e1:D 1=B:=by rw[hD1,hf0]; simp[zbx]
   simp(disch:=omega)[hD0,n1,n2,hf0,e1,zaa,ht,ht0,ap0,apk,set0,setk,d0,d1]
  ·simp(disch:=omega)[hD0,n1,n2,hf0,hBl,q1,l1,p1,leTn,zaa,ht,ht0,ap0,apk,set0,setk,d0,d1]
 ·simp[ap0,apk,set0,setk]
  refine zab w2 ?_
  by_cases hf0:r.to=[]
  ·have e1:D 2=D 1:=by rw[hD2,TR.byN,hv,←hB,←hD1,hf0]; simp[zbx]
   simp(disch:=omega)[n1,n2,hf0,e1,zaa,ht,ht0,ap0,apk,set0,setk,d0,d1]
  ·simp(disch:=omega)[n1,n2,hf0,q2,l1,l2,p2,leTn,zaa,ht,ht0,ap0,apk,set0,setk,d0,d1]
 ·simp[hbb,ap0,apk,ht0]
end Go.Ev
/- Tables: are they right? The code. -/
namespace Go.Ev
open Go Go.RowKit
variable {G:Tbl}
theorem SE.fp{f:Nat}{args:List V}{s:List UInt8}(h:SE G f args [] (.str s)):FP G f args (.str s):=by
 obtain⟨H1,hb,_⟩:=h
 exact⟨_,_,hb,by simp⟩
theorem znl:za1 []:=fun _ _=>rfl
theorem zmu:∀{t:List TR},zck t=true↔∀(j:Nat) (a b:TR),t[j]?=some a→t[j+1]?=some b→zcZ a b=true
 | []=>by simp[zck]
 | [a]=>by simp[zck]
 | a::b::l=>by
  rw[zck,Bool.and_eq_true,zmu (t:=b::l)]
  constructor
  ·rintro⟨h1,h2⟩ j x y hx hy
   cases j with
   | zero=>simp at hx hy; rw[←hx,←hy]; exact h1
   | succ j=>exact h2 j x y (by simpa using hx) (by simpa using hy)
  ·intro h
   exact⟨h 0 a b rfl rfl,fun j x y hx hy=>h (j+1) x y (by simpa using hx) (by simpa using hy)⟩
def okT(t:List TR)(i:Nat):Prop:=∀ j<i,∀ r,t[j]?=some r→r.may=true∧∀ q,0<j→t[j-1]?=some q→zcZ q r=true
theorem zwm{t:List TR}(h:okT t t.length):tblB t=decide (t.length≤64):=by
 have h1:t.all TR.may=true:=by
  rw[List.all_eq_true]
  intro r hr
  obtain⟨j,hj⟩:=List.getElem?_of_mem hr
  exact(h j (List.getElem?_eq_some_iff.1 hj).1 r hj).1
 have h2:zck t=true:=zmu.2 fun j a b ha hb=>(h (j+1) (List.getElem?_eq_some_iff.1 hb).1 b hb).2 a (by omega) (by simpa using ha)
 simp[tblB,h1,h2]
theorem zmv{t:List TR}(h:tblB t=true):okT t t.length∧t.length≤64:=by
 simp only[tblB,Bool.and_eq_true,decide_eq_true_eq] at h
 obtain⟨⟨h1,h2⟩,h3⟩:=h
 refine⟨fun j hj r hr=>⟨List.all_eq_true.1 h1 r (List.mem_of_getElem? hr),fun q h0 hq=>?_⟩,h3⟩
 exact zmu.1 h2 (j-1) q r hq (by rw[show j-1+1=j by omega]; exact hr)
theorem zqr{t:List TR}{i:Nat}{r:TR}(hr:t[i]?=some r)(h:r.may=false∨∃ q,0<i∧t[i-1]?=some q∧zcZ q r=false):tblB t=false:=by
 cases ht:tblB t with
 | false=>rfl
 | true =>
  obtain⟨h1,h2⟩:=(zmv ht).1 i (List.getElem?_eq_some_iff.1 hr).1 r hr
  rcases h with h|⟨q,h0,hq,hl⟩
  ·rw[h] at h1; cases h1
  ·have:=h2 q h0 hq
   rw[this] at hl; cases hl
theorem zjJ[HasIns G][HasCheck G][HasWRight G][HasEnc G][HasTbl G](t:List TR)(hl:t.length≤1000000)(hk:∀ r∈t,r.ok):FP G 354 [TF t] (.bool (tblB t)):=by
 refine zak HasTbl.h_table_Right (Nat.le_of_ble_eq_true rfl) ?_
 simp[TF]
 refine W_up t.length (fun i=>[(0,TF t),(5,TF t),(6,.int .i64 t.length),(7,.int .i64 i)]) (fun _=>[]) (fun i=>okT t i) ?_ ?_
 ·simp[zaa,zad,TF]
  intro j hj; omega
 intro i hi hP
 by_cases hlt:i<t.length
 ·obtain⟨x,hfx⟩:∃ x,x=t[i]:=⟨_,rfl⟩
  have hg:t[i]?=some x:=by rw[hfx]; exact List.getElem?_eq_getElem hlt
  have hgg:=zhk hg
  have hxm:x∈t:=List.mem_of_getElem? hg
  have hxk:=hk x hxm
  have hxl:x.cs.length=3:=rfl
  have hxt:x.cs.take 3=x.cs:=rfl
  have kx:∀ n,clL n x.cs=x.cs:=fun n=>by simp[TR.cs,clL,V.cl,Tk.cl]
  have hte:(TL t)[i]'(by simpa using hlt)=x.cs:=by simp[TL,hfx]
  have hrt:=znk (G:=G) x hxk
  simp(disch:=omega)[ltT,TF,hgg,hte,hxl,hxt,kx]
  simp only[TV] at hrt
  refine zab hrt ?_
  cases hm:x.may with
  | false =>
   have hR:=zqr hg (.inl hm)
   simp[hR]
  | true =>
   by_cases h0:0<i
   ·obtain⟨q,hq⟩:∃ q,q=t[i-1]'(by omega):=⟨_,rfl⟩
    have hgq:t[i-1]?=some q:=by rw[hq]; exact List.getElem?_eq_getElem (by omega)
    have hqe:(TL t)[i-1]'(by simp; omega)=q.cs:=by simp[TL,hq]
    have hqg:=zhk hgq
    have hqm:=(hP (i-1) (by omega) q hgq).1
    have hqk:=hk q (List.mem_of_getElem? hgq)
    have hql:q.cs.length=3:=rfl
    have hqt:q.cs.take 3=q.cs:=rfl
    have b1:=(zhC (G:=G) q hqk hqm [] znl).fp
    have b2:=(zhC (G:=G) x hxk hm [] znl).fp
    simp only[TV] at b1 b2
    have s1:subI .i64 (i:Int) 1=((i-1:Nat):Int):=by rw[zcc]<;>omega
    simp(disch:=omega)[h0,s1,hqg,hqe,hql,hqt,hxl,hxt,leTn,ltTn]
    refine zab b1 ?_
    simp(disch:=omega)[hxl,hxt]
    refine zab b2 ?_
    cases hlb:zcZ q x with
    | false =>
     have hR:=zqr hg (.inr ⟨q,h0,hgq,hlb⟩)
     have hlb':Op.bytesLess q.by x.by=false:=hlb
     simp[hlb',hR]
    | true =>
     have hlb':Op.bytesLess q.by x.by=true:=hlb
     have hP2:okT t (i+1):=fun j hj r hr=>by
      rcases Nat.lt_succ_iff_lt_or_eq.1 hj with h|rfl
      ·exact hP j h r hr
      ·rw[hg] at hr; cases hr
       exact⟨hm,fun q' _ hq'=>by rw[hgq] at hq'; cases hq'; exact hlb⟩
     simp(disch:=omega)[hlb',hlt,zag,zaa,zad,TF,-Int.natCast_add]
     exact hP2
   ·have hi0:i=0:=by omega
    subst hi0
    have hP2:okT t 1:=fun j hj r hr=>by
     have:j=0:=by omega
     subst this
     rw[hg] at hr; cases hr
     exact⟨hm,fun q h0=>absurd h0 (by omega)⟩
    have d0:addI .i64 0 1=1:=by rw[zaD]<;>omega
    simp(disch:=omega)[zaa,zad,TF,d0,hlt,hP2]
 ·have hne:i=t.length:=by omega
  subst hne
  have:=zwm hP
  by_cases h64:t.length≤64
  ·have h:((t.length:Int)≤64)=True:=eq_true (by omega)
   simp[this,h64,h,TF]
  ·have h:((t.length:Int)≤64)=False:=eq_false (by omega)
   simp[this,h64,h,TF]
end Go.Ev
/- Tables: places, and what is found. The code. -/
namespace Go.Ev
open Go Go.RowKit
variable {G:Tbl}
theorem zmw[HasTbl G](r:TR)(h1:r.fr.length≤1000000)(h2:r.to.length≤1000000):FP G 356 [TV r] (TV r):=by
 refine zak HasTbl.h_table_own (Nat.le_of_ble_eq_true rfl) ?_
 have hb1:r.fr.length*32≤140737488355328:=by omega
 have hb2:r.to.length*32≤140737488355328:=by omega
 by_cases e1:r.fr=[]<;>by_cases e2:r.to=[] <;>
  simp(disch:=omega)[TV,TR.cs,zqB,e1,e2,leTn]
theorem zuA{t:List TR}{x y:TR}{i:Nat}(h:∀ j<i,∀ z,t[j]?=some z→zcZ z x=true)(hg:t[i]?=some y)(hy:zcZ y x=false):za2 t x=i:=by
 induction t generalizing i with
 | nil=>simp at hg
 | cons a t ih =>
  cases i with
  | zero=>simp at hg; subst hg; simp[za2,hy]
  | succ i =>
   have h0:=h 0 (by omega) a rfl
   have:=ih (i:=i) (fun j hj z hz=>h (j+1) (by omega) z (by simpa using hz)) (by simpa using hg)
   simp only[za2] at this ⊢
   simp[h0,this]
theorem zsL{t:List TR}{x:TR}(h:∀ z∈t,zcZ z x=true):za2 t x=t.length:=by
 induction t with
 | nil=>rfl
 | cons a t ih =>
  have:=ih fun z hz=>h z (by simp[hz])
  simp only[za2] at this ⊢
  simp[h a (by simp),this]
theorem zsM[HasIns G][HasEnc G][HasTbl G](t:List TR)(x:TR)(hl:t.length≤1000000)(hk:∀ r∈t,r.ok)(hm:∀ r∈t,r.may=true)(hxk:x.ok)(hxm:x.may=true)(H:Heap)(hH:za1 H) :
  SE G 355 [TF t,TV x,.fn 353 []] H (.tup [.int .i64 (za2 t x:Nat),.bool (hasR t x)]):=by
 refine zvz HasTbl.h_table_place (Nat.le_of_ble_eq_true rfl) ?_
 have ht:=ze4 hH
 have ht0:∀ s:Heap,zad H.length (H++s)=H:=fun s=>hH.back s
 have hxl:x.cs.length=3:=rfl
 have hxt:x.cs.take 3=x.cs:=rfl
 have kx:∀ n,clL n x.cs=x.cs:=fun n=>by simp[TR.cs,clL,V.cl,Tk.cl]
 have hbx:=fun s hs=>zhC (G:=G) x hxk hxm s hs
 simp only[TV] at hbx
 simp[TF,TV,ap0,apk,set0,setk]
 refine W_up t.length (fun i=>[(0,TF t),(2,.fn 353 []),(4,.ptr H.length 0),(10,TF t),(11,.int .i64 t.length),(12,.int .i64 i)]) (fun _=>H++[some (.cells x.cs)]) (fun i=>∀ j<i,∀ z,t[j]?=some z→zcZ z x=true) ?_ ?_
 ·simp[zaa,TF,ht,Blk.cl,kx]
 intro i hi hP
 by_cases hlt:i<t.length
 ·obtain⟨y,hfy⟩:∃ y,y=t[i]:=⟨_,rfl⟩
  have hg:t[i]?=some y:=by rw[hfy]; exact List.getElem?_eq_getElem hlt
  have hgg:=zhk hg
  have hym:=hm y (List.mem_of_getElem? hg)
  have hyk:=hk y (List.mem_of_getElem? hg)
  have hyl:y.cs.length=3:=rfl
  have hyt:y.cs.take 3=y.cs:=rfl
  have ky:∀ n,clL n y.cs=y.cs:=fun n=>by simp[TR.cs,clL,V.cl,Tk.cl]
  have hte:(TL t)[i]'(by simpa using hlt)=y.cs:=by simp[TL,hfy]
  have hby:=fun s hs=>zhC (G:=G) y hyk hym s hs
  simp only[TV] at hby
  have hH2:za1 (H++[some (.cells x.cs),some (.cells y.cs)]):=hH.app fun n=>by simp[Blk.cl,kx,ky]
  have hn2:¬H.length+2≤H.length:=by omega
  have hn1:¬H.length+2≤H.length+1:=by omega
  simp(disch:=omega)[ltT,TF,hgg,hte,hyl,hyt,hxl,hxt,ap0,apk,set0,setk]
  refine SE.vcall (args:=[.agg y.cs]) (cap:=[]) (hby _ hH2) rfl ?_
  simp(disch:=omega)[hn1,hn2,hyl,hyt,hxl,hxt,ap0,apk,set0,setk]
  refine SE.vcall (args:=[.agg x.cs]) (cap:=[]) (hbx _ hH2) rfl ?_
  cases hlb:zcZ y x with
  | true =>
   have hlb':Op.bytesLess y.by x.by=true:=hlb
   have hP2:∀ j<i+1,∀ z,t[j]?=some z→zcZ z x=true:=fun j hj z hz=>by
    rcases Nat.lt_succ_iff_lt_or_eq.1 hj with h|rfl
    ·exact hP j h z hz
    ·rw[hg] at hz; cases hz; exact hlb
   simp(disch:=omega)[hlb',hlt,zag,zaa,ht,Blk.cl,kx,TF,-Int.natCast_add]
   exact hP2
  | false =>
   have hlb':Op.bytesLess y.by x.by=false:=hlb
   have hpl:=zuA hP hg hlb
   have hha:hasR t x=decide (y.by=x.by):=by rw[hasR,hpl,hg]
   simp(disch:=omega)[hlb',hn1,hn2,hyl,hyt,hxl,hxt,ap0,apk,set0,setk]
   refine SE.vcall (args:=[.agg y.cs]) (cap:=[]) (hby _ hH2) rfl ?_
   simp(disch:=omega)[hn1,hn2,hyl,hyt,hxl,hxt,ap0,apk,set0,setk]
   refine SE.vcall (args:=[.agg x.cs]) (cap:=[]) (hbx _ hH2) rfl ?_
   simp[ht0,hpl,hha]
   exact Bool.eq_iff_iff.2 (by simp)
 ·have hne:i=t.length:=by omega
  subst hne
  have hpl:=zsL (t:=t) (x:=x) fun z hz=>by
   obtain⟨j,hj⟩:=List.getElem?_of_mem hz
   exact hP j (List.getElem?_eq_some_iff.1 hj).1 z hj
  have hha:hasR t x=false:=by rw[hasR,hpl,List.getElem?_eq_none (Nat.le_refl _)]
  simp[TF,ht0,hpl,hha]
theorem zuB[HasTbl G](f g:List In4)(hf:f.length≤1000000):FP G 358 [FL f,FL g] (.bool (decide (f=g))):=by
 refine zak HasTbl.h_table_same (Nat.le_of_ble_eq_true rfl) ?_
 by_cases hl:f.length=g.length
 ·have hz:((f.length:Int) !=(g.length:Int))=false:=by simp[hl]
  simp[FL,hz]
  refine W_up f.length (fun i=>[(0,FL f),(1,FL g),(12,.int .i64 f.length),(13,.int .i64 i)]) (fun _=>[]) (fun i=>f.take i=g.take i) ?_ ?_
  ·simp[zaa,zad,FL,hl]
  intro i hi hp
  by_cases hlt:i<f.length
  ·obtain⟨x,hfx⟩:∃ x,x=f[i]:=⟨_,rfl⟩
   have hlt2:i<g.length:=by omega
   obtain⟨y,hfy⟩:∃ y,y=g[i]:=⟨_,rfl⟩
   have hgg:=zbk hlt
   have hgg2:=zbk hlt2
   rw[←hfx] at hgg
   rw[←hfy] at hgg2
   have hfx:=hfx.symm
   have hfy:=hfy.symm
   have ha:=aeq4 x y
   by_cases hxy:x=y
   ·rw[decide_eq_true hxy] at ha
    have hp':f.take (i+1)=g.take (i+1):=by
     rw[List.take_add_one,List.take_add_one,hp,List.getElem?_eq_getElem hlt,List.getElem?_eq_getElem hlt2,hfx,hfy,hxy]
    simp(disch:=omega)[ltT,FL,hgg,hgg2,hfx,hfy,ha,hlt,zag,zaa,zad,hp',-Int.natCast_add]
   ·rw[decide_eq_false hxy] at ha
    have hne:¬f=g:=by
     rintro rfl
     exact hxy (hfx.symm.trans hfy)
    simp(disch:=omega)[ltT,FL,hgg,hgg2,hfx,hfy,ha,hne,-Int.natCast_add]
  ·have hne:i=f.length:=by omega
   subst hne
   rw[List.take_length,hl,List.take_length] at hp
   simp[FL,hp]
 ·have hz:((f.length:Int) !=(g.length:Int))=true:=by simp; omega
  have:¬f=g:=fun h=>hl (by rw[h])
  simp[FL,hz,this]
end Go.Ev
/- Tables: what is found, what is learnt. The code. -/
namespace Go.Ev
open Go Go.RowKit
variable {G:Tbl}
theorem zn5(t:List TR):(∀ f∈TL t,f.length=3)=True:=by
 simp only[eq_iff_iff,iff_true]
 intro f hf
 simp only[TL,List.mem_map] at hf
 obtain⟨x,_,rfl⟩:=hf
 rfl
theorem zmx(r:TR):r.cs.all V.pure=true:=by
 simp[TR.cs]
theorem zmy(t:List TR)(r:TR):TL t++[r.cs]=TL (t++[r]):=by simp[TL]
theorem zBg{a:Nat}(h:a<4294967296):andI .u32 (a:Int) 262143=((a%262144:Nat):Int):=by
 unfold andI
 rw[show(262143:Int)=((262143:Nat):Int) from rfl,zaX,zaX,BitVec.toNat_and,BitVec.toNat_ofNat,BitVec.toNat_ofNat]
 have h1:a%2^IntKind.u32.bits=a:=Nat.mod_eq_of_lt h
 have h2:262143%2^IntKind.u32.bits=2^18-1:=rfl
 rw[h1,h2,Nat.and_two_pow_sub_one_eq_mod]
 exact zaM (by have:=Nat.mod_lt a (show 0<2^18 by decide); omega)
def fndV:Option (List In4)→V
 | some x=>.tup [.vs (IL x) .no,.bool true]
 | none=>.tup [.vs [] .no,.bool false]
theorem zgQ{r:TR}(h:r.may=true):r.fr.length≤32∧r.to.length≤32:=by
 simp only[TR.may,Bool.and_eq_true] at h
 exact⟨(zez h.1.1.1).1,(zez h.1.1.2).1⟩
theorem zuC[HasIns G][HasCheck G][HasWRight G][HasEnc G][HasTbl G](t:List TR)(w:List In4)(live:Nat)(hl:t.length≤1000000)(hk:∀ r∈t,r.ok)(hv:live<4294967296) :
  FP G 359 [TF t,FL w,.int .u32 live] (fndV (zfa t w live)):=by
 refine zak HasTbl.h_table_Find (Nat.le_of_ble_eq_true rfl) ?_
 have hr:=zjJ (G:=G) t hl hk
 simp only[TF] at hr
 simp[TF]
 refine zab hr ?_
 cases htb:tblB t with
 | false=>simp[zfa,htb,fndV]
 | true =>
  have hmay:∀ r∈t,r.may=true:=fun r hr=>by
   simp only[tblB,Bool.and_eq_true] at htb
   exact List.all_eq_true.1 htb.1.1 r hr
  simp
  refine W_up t.length (fun i=>[(1,FL w),(2,.int .u32 live),(13,TF t),(14,.int .i64 t.length),(15,.int .i64 i)]) (fun _=>[]) (fun i=>∀ j<i,∀ r,t[j]?=some r→(decide (r.fr=w)&&decide (live%262144=r.lv))=false) ?_ ?_
  ·simp[zaa,zad,TF,FL]
  intro i hi hP
  by_cases hlt:i<t.length
  ·obtain⟨x,hfx⟩:∃ x,x=t[i]:=⟨_,rfl⟩
   have hg:t[i]?=some x:=by rw[hfx]; exact List.getElem?_eq_getElem hlt
   have hgg:=zhk hg
   have hxm:=hmay x (List.mem_of_getElem? hg)
   obtain⟨l1,l2⟩:=zgQ hxm
   have hte:(TL t)[i]'(by simpa using hlt)=x.cs:=by simp[TL,hfx]
   have hsm:=zuB (G:=G) x.fr w (by omega)
   simp only[FL] at hsm
   simp(disch:=omega)[ltT,TF,FL,hgg,hte,TR.cs]
   refine zab hsm ?_
   have ha:=zBg hv
   have next:(decide (x.fr=w)&&decide (live%262144=x.lv))=false→∀ j<i+1,∀ r,t[j]?=some r→(decide (r.fr=w)&&decide (live%262144=r.lv))=false:=fun hx j hj r hr=>by
    rcases Nat.lt_succ_iff_lt_or_eq.1 hj with h|rfl
    ·exact hP j h r hr
    ·rw[hg] at hr; cases hr; exact hx
   by_cases e1:x.fr=w
   ·by_cases e2:live%262144=x.lv
    ·have e2':(((live%262144:Nat):Int)==(x.lv:Int))=true:=by simp; omega
     have hfd:zfa t w live=some x.to:=by
      rw[zfa,htb,if_pos rfl]
      have:t.find? (fun r=>decide (r.fr=w)&&decide (live%262144=r.lv))=some x:=by
       rw[List.find?_eq_some_iff_getElem]
       refine⟨by simp[e1,e2],i,hlt,hfx.symm,fun j hj=>?_⟩
       rw[hP j hj _ (List.getElem?_eq_getElem (by omega))]; rfl
      rw[this]; rfl
     by_cases e3:x.to=[]
     ·simp(disch:=omega)[e1,ha,e2',e3,hfd,fndV,-Int.natCast_emod]
     ·simp(disch:=omega)[e1,ha,e2',e3,zqB,leTn,hfd,fndV,-Int.natCast_emod]
    ·have e2':(((live%262144:Nat):Int)==(x.lv:Int))=false:=beqF (by omega)
     have:=next (by simp[e2])
     simp(disch:=omega)[e1,ha,e2',hlt,zag,zaa,zad,TF,FL,-Int.natCast_add,-Int.natCast_emod]
     exact fun j hj r hr he=>by have:=this j hj r hr; simpa[he] using this
   ·have:=next (by simp[e1])
    simp(disch:=omega)[e1,hlt,zag,zaa,zad,TF,FL,-Int.natCast_add,-Int.natCast_emod]
    exact fun j hj r hr he=>by have:=this j hj r hr; simpa[he] using this
  ·have hne:i=t.length:=by omega
   subst hne
   have hfd:zfa t w live=none:=by
    rw[zfa,htb,if_pos rfl,Option.map_eq_none_iff,List.find?_eq_none]
    intro r hr
    obtain⟨j,hj⟩:=List.getElem?_of_mem hr
    rw[hP j (List.getElem?_eq_some_iff.1 hj).1 r hj]
    simp
   simp[hfd,fndV]
theorem zsN[HasIns G][HasCheck G][HasWRight G][HasEnc G][HasTbl G](t:List TR)(r:TR)(hl:t.length≤1000000)(hk:∀ r∈t,r.ok)(hrk:r.ok) :
  FP G 357 [TF t,TV r] (.tup [TF (zbg t r).1,.int .i64 (zbg t r).2]):=by
 refine zak HasTbl.h_table_Learn (Nat.le_of_ble_eq_true rfl) ?_
 have hr:=zjJ (G:=G) t hl hk
 have hrr:=znk (G:=G) r hrk
 have hxl:r.cs.length=3:=rfl
 have hxt:r.cs.take 3=r.cs:=rfl
 have kx:∀ n,clL n r.cs=r.cs:=fun n=>by simp[TR.cs,clL,V.cl,Tk.cl]
 simp only[TF,TV] at hr hrr
 simp[TF,TV]
 refine zab hr ?_
 cases htb:tblB t with
 | false=>simp[zbg,htb]
 | true =>
  simp[hxl,hxt]
  refine zab hrr ?_
  cases hrm:r.may with
  | false=>simp[zbg,htb,hrm]
  | true =>
   have hmay:∀ r∈t,r.may=true:=fun r hr=>by
    simp only[tblB,Bool.and_eq_true] at htb
    exact List.all_eq_true.1 htb.1.1 r hr
   have h64:=(zmv htb).2
   have hpl:=zsM (G:=G) t r hl hk hmay hrk hrm [some (.cells r.cs)] (fun n _=>by simp[Blk.cl,kx])
   simp only[TF,TV] at hpl
   simp[hxl,hxt]
   refine SE.scall hpl rfl ?_
   cases hhr:hasR t r with
   | true=>simp[zbg,htb,hrm,hhr]
   | false =>
    by_cases h6:t.length=64
    ·have h6':((t.length:Int)==64)=true:=by simp[h6]
     simp[zbg,htb,hrm,hhr,h6,h6']
    ·have h6':((t.length:Int)==64)=false:=beqF (by omega)
     have hple:=zpD t r
     obtain⟨p,hp⟩:∃ p,p=za2 t r:=⟨_,rfl⟩
     have hR:zbg t r=(t.take p++r::t.drop p,0):=by simp[zbg,htb,hrm,hhr,h6,hp]
     rw[←hp] at hple
     rw[hR,←hp]
     have htk:(TL t).take p=TL (t.take p):=by simp[TL]
     have hdp:(TL t).drop p=TL (t.drop p):=by simp[TL]
     have hlt1:(t.take p).length=p:=by rw[List.length_take]; omega
     have hrl:=zgQ hrm
     have howr:=zmw (G:=G) r (by omega) (by omega)
     have hpure:=zmx r
     simp only[TV] at howr
     obtain⟨T,hT⟩:∃ T:Nat→List TR,∀ j,T j=t.take j:=⟨_,fun _=>rfl⟩
     have hT0:T 0=[]:=by rw[hT]; rfl
     have hTl:∀ j,j≤t.length→(T j).length=j:=fun j hj=>by rw[hT,List.length_take]; omega
     simp(disch:=omega)[h6',leTn,htk,hlt1,zn5]
     refine W_up p (fun i=>[(0,TF t),(3,.ptr 0 0),(6,.int .i64 p),(8,.vs (TL (T i)) (.own 1)),(38,.vs (TL (t.take p)) .no),(39,.int .i64 p),(40,.int .i64 i)])
      (fun i=>[some (.cells r.cs),some (.zone i)]) (fun _=>True) ?_ ?_
     ·simp[zaa,zad,TF,hT0,TL,Blk.cl,kx]
     intro i hi _
     by_cases hlt:i<p
     ·obtain⟨y,hfy⟩:∃ y,y=t[i]'(by omega):=⟨_,rfl⟩
      have hg:t[i]?=some y:=by rw[hfy]; exact List.getElem?_eq_getElem _
      have hgt:(t.take p)[i]?=some y:=by rw[List.getElem?_take,if_pos hlt,hg]
      have hgg:=zhk hgt
      have hte:(TL (t.take p))[i]'(by simp; omega)=y.cs:=by
       have:=List.getElem?_eq_some_iff.1 hgg
       exact this.2
      have hym:=zgQ (hmay y (List.mem_of_getElem? hg))
      have hoy:=zmw (G:=G) y (by omega) (by omega)
      simp only[TV] at hoy
      have hyl:y.cs.length=3:=rfl
      have hyt:y.cs.take 3=y.cs:=rfl
      have hyp:=zmx y
      have hTs:TL (T i)++[y.cs]=TL (T (i+1)):=by rw[hT,hT,zmy,List.take_add_one,hg]; rfl
      have hl1:=hTl i (by omega)
      simp(disch:=omega)[ltT,hgg,hte,hyl,hyt]
      refine zab hoy ?_
      simp(disch:=omega)[hyl,hyt,hyp,hTs,hl1,zn5,leTn,hlt,zag,zaa,zad,TF,Blk.cl,kx,-Int.natCast_add]
     ·have hne:i=p:=by omega
      subst hne
      obtain⟨D,hD⟩:∃ D,D=t.drop i:=⟨_,rfl⟩
      have hDl:D.length=t.length-i:=by rw[hD,List.length_drop]
      have hTs:TL (T i)++[r.cs]=TL (T i++[r]):=zmy _ _
      have hl1:=hTl i (by omega)
      obtain⟨U,hU⟩:∃ U:Nat→List TR,∀ j,U j=T i++[r]++D.take j:=⟨_,fun _=>rfl⟩
      have hU0:T i++[r]=U 0:=by rw[hU,List.take_zero,List.append_nil]
      have hUl:∀ j,j≤D.length→(U j).length=i+1+j:=fun j hj=>by rw[hU,List.length_append,List.length_append,hl1,List.length_take]; simp; omega
      rw[hU0] at hTs
      simp[ltT,hxl,hxt]
      refine zab howr ?_
      rw[←hD] at hdp ⊢
      have htk2:(TL D).take (t.length-i)=TL D:=by rw[List.take_of_length_le]; simp; omega
      simp(disch:=omega)[TF,htk2,hxl,hxt,hpure,hTs,hl1,zn5,leTn,hdp,hDl]
      refine W_up D.length (fun j=>[(8,.vs (TL (U j)) (.own 1)),(57,.vs (TL D) .no),(58,.int .i64 D.length),(59,.int .i64 j)])
       (fun j=>[some (.cells r.cs),some (.zone (i+1+j)),none]) (fun _=>True) ?_ ?_
      ·simp[zaa,zad,hU0,Blk.cl,kx,hDl]
      intro j hj _
      by_cases hlt:j<D.length
      ·obtain⟨y,hfy⟩:∃ y,y=D[j]'(by omega):=⟨_,rfl⟩
       have hg:D[j]?=some y:=by rw[hfy]; exact List.getElem?_eq_getElem _
       have hgg:=zhk hg
       have hte:(TL D)[j]'(by simp; omega)=y.cs:=(List.getElem?_eq_some_iff.1 hgg).2
       have hymem:y∈t:=by
        have:=List.mem_of_getElem? hg
        rw[hD] at this
        exact List.mem_of_mem_drop this
       have hym:=zgQ (hmay y hymem)
       have hoy:=zmw (G:=G) y (by omega) (by omega)
       simp only[TV] at hoy
       have hyl:y.cs.length=3:=rfl
       have hyt:y.cs.take 3=y.cs:=rfl
       have hyp:=zmx y
       have hTs:TL (U j)++[y.cs]=TL (U (j+1)):=by rw[hU,hU,zmy,List.take_add_one,hg]; simp
       have hl2:=hUl j (by omega)
       simp(disch:=omega)[ltT,hgg,hte,hyl,hyt]
       refine zab hoy ?_
       simp(disch:=omega)[hyl,hyt,hyp,hTs,hl2,zn5,leTn,hlt,zag,zaa,zad,Blk.cl,kx,-Int.natCast_add]
       omega
      ·have hne:j=D.length:=by omega
       subst hne
       have hfin:U D.length=t.take i++r::D:=by rw[hU,List.take_length,hT]; simp
       simp[hfin]
end Go.Ev
/- Filters made shorter: the smaller functions. -/
namespace Go.Ev
open Go Go.RowKit
variable {G:Tbl}
def zcj(b lo hi:Int):Int:=max lo (min b hi)
theorem zmz[HasOpt G](b lo hi:Int):FP G 360 [.int .i64 b,.int .i64 lo,.int .i64 hi] (.int .i64 (zcj b lo hi)):=by
 refine zak HasOpt.h_opt_clip_int (Nat.le_of_ble_eq_true rfl) ?_
 simp[zcj]
 omega
theorem zuD[HasOpt G](a b c:Int):FP G 361 [.agg [.int .i64 a,.int .i64 b,.int .i64 c]] (.agg [.int .i64 (zcj a 0 1000),.int .i64 (zcj b 0 1000),.int .i64 (zcj c 0 32)]):=by
 refine zak HasOpt.h_opt_fair (Nat.le_of_ble_eq_true rfl) ?_
 simp
 refine zab (zmz _ _ _) ?_
 simp
 refine zab (zmz _ _ _) ?_
 simp
 refine zab (zmz _ _ _) ?_
 simp
def goodT(t:List TR):List TR:=if tblB t=true then t else []
theorem zwn[HasIns G][HasCheck G][HasWRight G][HasEnc G][HasTbl G][HasOpt G](t:List TR)(hl:t.length≤1000000)(hk:∀ r∈t,r.ok):FP G 362 [TF t] (TF (goodT t)):=by
 refine zak HasOpt.h_opt_good (Nat.le_of_ble_eq_true rfl) ?_
 have hr:=zjJ (G:=G) t hl hk
 simp only[TF] at hr
 simp[TF]
 refine zab hr ?_
 cases htb:tblB t with
 | false=>simp[goodT,htb,TL]
 | true=>simp[goodT,htb]
theorem zrt[HasWd G][HasNeg G][HasIns G][HasCheck G][HasData G][HasWith G][HasStep G][HasWRight G][HasWinRun G][HasWinAsg G][HasWinState G][HasWinOf G][HasAffApart G][HasAffine G][hBA:HasBitsA G][HasSymNew G][HasSym G][HasSymEval G][HasSymApart G][HasDecDf G][HasDec G][HasSrcN G][HasSrcL G][HasSrcC G][HasSrcF G][HasEnc G][HasTbl G][HasOpt G]
  (w:List In4) (t:List TR) (live:Nat) (tries:Int) (hw:winB w=true) (hk:∀ x∈w,x.k<4294967296) (hl:t.length≤1000000) (htk:∀ r∈t,r.ok) (hlv:live<4294967296) :
  FP G 363 [FL w,TF t,.int .u32 live,.int .i64 tries] (fndV (zcr w t live tries)):=by
 refine zak HasOpt.h_opt_shorter (Nat.le_of_ble_eq_true rfl) ?_
 have hf:=zuC (G:=G) t w live hl htk hlv
 have hw32:=(zez hw).1
 have hwm:w.length≤maxLen:=Nat.le_trans hw32 (by decide)
 have hs:=zwU (G:=G) w live tries hwm hk hw hlv
 simp only[FL,TF] at hf hs
 simp[FL,TF]
 refine zab hf ?_
 cases hfd:zfa t w live with
 | none =>
  have hR:zcr w t live tries=findR w live tries:=by rw[zcr,hfd]
  rw[hR]
  simp[fndV]
  refine zab hs ?_
  cases findR w live tries<;>simp[fndV]
 | some x =>
  obtain⟨r,hr,h1,h2,h3⟩:=zsJ hfd
  have hxk:=(htk r hr).2.2.2.1
  have hx32:=(zgQ h3).2
  rw[h2] at hxk hx32
  have hdc:=znG (G:=G) w x live hwm (Nat.le_trans hx32 (by decide)) hk hxk hlv
  have hxw:winB x=true:=by
   simp only[TR.may,Bool.and_eq_true] at h3
   rw[←h2]; exact h3.1.1.2
  simp only[FL,hw,hxw,Bool.and_self,if_true] at hdc
  simp[fndV]
  refine zab hdc ?_
  obtain⟨A,hA⟩:∃ A,A=ansC 0 none:=⟨_,rfl⟩
  have lA:A.length=28:=by rw[hA]; rfl
  obtain⟨cc,B,hcc,hB,kB,lB,B1⟩:∃(cc:Int) (B:List V),(decR w x live).1=cc∧B=ansC (decR w x live).1 (decR w x live).2∧(∀ n,clL n B=B)∧B.length=28∧B.take 1=[.int .i64 (decR w x live).1] :=
   ⟨_,_,rfl,rfl,fun n=>zkt _ _ n,zpt w x live,zqV _ _⟩
  have hAz:V.int .i64 0::(zac .u32 (zae 20)++zac .u64 (zae 7))=A:=by rw[hA]; rfl
  have hBt:B.take 28=B:=List.take_of_length_le (by omega)
  have hBd:B.drop 28=[]:=List.drop_eq_nil_of_le (by omega)
  have hAd:A.drop 28=[]:=List.drop_eq_nil_of_le (by omega)
  rw[←hB]
  rw[hcc] at B1
  simp[hAz,hAd,hBt,hBd,lA,lB,B1,kB]
  by_cases h0:cc=0
  ·have hR:zcr w t live tries=some x:=by rw[zcr,hfd]; simp only[]; rw[if_pos ⟨hxw,by rw[hcc,h0]⟩]
   simp[h0,hR,fndV]
  ·have hR:zcr w t live tries=findR w live tries:=by rw[zcr,hfd]; simp only[]; rw[if_neg (by rintro⟨_,h⟩; rw[hcc] at h; exact h0 h)]
   have h0':(cc==0)=false:=beqF h0
   rw[hR]
   simp[h0']
   refine zab hs ?_
   cases findR w live tries<;>simp[fndV]
end Go.Ev
/- Filters made shorter: a round. -/
namespace Go.Ev
open Go Go.RowKit
variable {G:Tbl}
def ResC(f:List In4)(t:List TR)(n:Nat)(d:Bool):List V:=[FL f,TF t,.int .i64 n,.bool d]
def rndV(f:List In4)(t:List TR):Option (List In4×List TR)→V
 | some q=>.tup [.agg (ResC q.1 q.2 1 false),.bool true]
 | none=>.tup [.agg (ResC f t 0 true),.bool false]
def zru(t:List TR):Prop:=t.length≤1000000∧∀ r∈t,r.ok
theorem zrv[HasWd G][HasNeg G][HasIns G][HasCheck G][HasData G][HasWith G][HasStep G][HasWRight G][HasWinRun G][HasWinAsg G][HasWinState G][HasWinOf G][HasAffApart G][HasAffine G][hBA:HasBitsA G][HasSymNew G][HasSym G][HasSymEval G][HasSymApart G][HasDecDf G][HasDec G][HasSrcN G][HasSrcL G][HasSrcC G][HasSrcF G][HasTells G][HasLive G][HasSpl G][HasEnc G][HasTbl G][HasOpt G]
  (f:List In4) (t:List TR) (rnds tries most:Int) (hs:zao f=true) (hk:∀ x∈f,x.k<4294967296) (ht:zru t) (hm:0≤most∧most≤32) :
  FP G 364 [FL f,TF t,.agg [.int .i64 rnds,.int .i64 tries,.int .i64 most]] (rndV f t (zcN f t tries most)):=by
 refine zak HasOpt.h_opt_round (Nat.le_of_ble_eq_true rfl) ?_
 have hL4:=zfO hs
 have hfm:f.length≤maxLen:=Nat.le_trans hL4 (by decide)
 have hpc:=ztq (G:=G) f most hfm hk (by omega)
 obtain⟨L,hL⟩:∃ L,L=rows f most f.length:=⟨_,rfl⟩
 have hLl:L.length≤200000:=by
  have:=zlk f most f.length
  rw[hL]; omega
 rw[←hL] at hpc
 have hR:zcN f t tries most=L.findSome? (tryP f t tries):=by rw[zcN,hL]
 simp only[FL] at hpc
 simp[FL,TF]
 refine zab hpc ?_
 simp
 refine W_up L.length (fun i=>[(0,FL f),(1,TF t),(5,.ptr 0 0),(6,.ptr 1 0),(24,.vs (zcG L) .no),(25,.int .i64 L.length),(26,.int .i64 i)])
  (fun _=>[some (.cells [.int .i64 rnds,.int .i64 tries,.int .i64 most]),some (.cells [.vs [] .full,.vs [] .full,.int .i64 0,.bool false])]) (fun i=>∀ j<i,∀ p,L[j]?=some p→tryP f t tries p=none) ?_ ?_
 ·simp[zaa,zad,FL,TF]
 intro i hi hP
 by_cases hlt:i<L.length
 ·obtain⟨p,hfp⟩:∃ p,p=L[i]:=⟨_,rfl⟩
  have hg:L[i]?=some p:=by rw[hfp]; exact List.getElem?_eq_getElem hlt
  have hpm:p∈rows f most f.length:=by rw[←hL]; exact List.mem_of_getElem? hg
  obtain⟨hpa,hc,h2,h32⟩:=zll hpm
  have hc':=hc
  simp only[cnd,Bool.and_eq_true] at hc'
  have hfz:=hc'.2
  simp only[cnd,zfZ,zcz,inB,Bool.and_eq_true,decide_eq_true_eq] at hc
  obtain⟨⟨_,_⟩,_,⟨i1,i2,i3,i4⟩,hfn⟩:=hc
  have hfn:zb6 f p.1 p.2=true:=by simpa using hfn
  obtain⟨a,n⟩:=p
  simp only at hpa h2 h32 hfn i1 i2 i3 i4 hfz
  have hbd:a+n≤f.length:=by omega
  obtain⟨x,hx⟩:∃ x,f[a+n-1]?=some x:=⟨_,List.getElem?_eq_getElem (by omega)⟩
  have hbh:=zsZ (G:=G) f (a+n-1) x hx hk hs
  have hpl:∀ x∈(f.drop a).take n,zaQ x=true:=by
   simp only[zb6,Bool.and_eq_true] at hfn
   exact zfP hfn.1
  have hpx:zaQ x=true:=hpl x (by
   refine List.mem_of_getElem? (i:=n-1) ?_
   rw[List.getElem?_take,if_pos (by omega),List.getElem?_drop,show a+(n-1)=a+n-1 by omega]
   exact hx)
  have hox:offs x=[0]:=by
   obtain⟨h5,hbr,h6,h22⟩:=zga hpx
   simp[offs,zaz,h5,hbr,h6,h22]
  rw[hox,zx5,show a+n-1+1=a+n by omega] at hbh
  obtain⟨live,hlv⟩:∃ live,live=zkj f a n:=⟨_,rfl⟩
  have hlv32:live<4294967296:=by rw[hlv]; exact Nat.lt_of_lt_of_le (zbd _ 18) (by decide)
  rw[show zar (nd (f.drop (a+n))) 18=live from hlv.symm] at hbh
  obtain⟨P,hPe⟩:∃ P,P=zc0 f a n:=⟨_,rfl⟩
  have hPl:P.length=n:=by rw[hPe,zc0,List.length_take,List.length_drop]; omega
  have hPk:∀ y∈P,y.k<4294967296:=by rw[hPe]; exact zku hk a n
  have hPw:winB P=true:=by
   rw[hPe,zc0]
   simp only[zb6,Bool.and_eq_true] at hfn
   exact hfn.1
  have hsh:=zrt (G:=G) P t live tries hPw hPk ht.1 ht.2 hlv32
  have e1:addI .i64 (a:Int) (n:Int)=((a+n:Nat):Int):=addN (by omega)
  have e2:subI .i64 ((a+n:Nat):Int) 1=((a+n-1:Nat):Int):=by rw[zcc]<;>omega
  have hslice:((IL f).drop a).take n=IL P:=by rw[zl9,zma,hPe,zc0]
  have hslice2:((IL f).take (a+n)).drop a=IL P:=by rw[zma,zl9,hPe,zc0,List.drop_take]; congr 2; omega
  have hslice3:((IL f).drop a).take (a+n-a)=IL P:=by rw[show a+n-a=n by omega]; exact hslice
  have hre:L[i]=(a,n):=hfp.symm
  have c1:((a:Int)≤((a+n:Nat):Int))=True:=eq_true (by omega)
  have c2:(((a+n:Nat):Int)≤(f.length:Int))=True:=eq_true (by omega)
  have htp:tryP f t tries (a,n)=(zcr P t live tries).map fun x=>(putL f a n x,(zbg t ⟨P,x,live⟩).1):=by
   rw[tryP,←hPe,←hlv]
  simp only[FL,TF] at hbh hsh
  simp(disch:=omega)[ltT,leTn,hre,FL,TF,e1,e2,c1,c2,hslice3,-Int.natCast_add]
  refine zab hbh ?_
  simp(disch:=omega)[hslice]
  refine zab hsh ?_
  cases hsr:zcr P t live tries with
  | none =>
   have hP2:∀ j<i+1,∀ p,L[j]?=some p→tryP f t tries p=none:=fun j hj p hp=>by
    rcases Nat.lt_succ_iff_lt_or_eq.1 hj with h|rfl
    ·exact hP j h p hp
    ·rw[hg] at hp; cases hp
     rw[htp,hsr]; rfl
   simp(disch:=omega)[fndV,hlt,zag,zaa,zad,FL,TF,-Int.natCast_add]
   exact fun j hj p q hp=>hP2 j hj (p,q) hp
  | some y =>
   obtain⟨w1,w2,w3,w4⟩:=zoY hPk hPw (fun r hr=>(ht.2 r hr).2.2.2.1) hsr
   have hy32:=(zez w1).1
   have hokp:zn8 f a n y=true:=by simp only[zn8,hfz,w1,Bool.true_and,decide_eq_true_eq]; omega
   have hput:=zx1 (G:=G) f y a n hfm (Nat.le_trans hy32 (by decide)) hk w4 hokp
   obtain⟨r,hr⟩:∃ r:TR,r=⟨P,y,live⟩:=⟨_,rfl⟩
   have hrk:r.ok:=by
    rw[hr]
    exact⟨Nat.le_trans (show P.length≤32 by omega) (by decide),Nat.le_trans hy32 (by decide),hPk,w4,hlv32⟩
   have hln:=zsN (G:=G) t r ht.1 ht.2 hrk
   have hrv:TV r=.agg [.vs (IL P) .no,.vs (IL y) .no,.int .u32 live]:=by rw[hr]; rfl
   rw[hrv] at hln
   have hRq:zcN f t tries most=some (putL f a n y,(zbg t r).1):=by
    rw[hR]
    have hsplit:L=L.take i++(a,n)::L.drop (i+1):=by
     have:=List.drop_eq_getElem_cons hlt
     rw[hre] at this
     rw[←this,List.take_append_drop]
    exact List.findSome?_eq_some_iff.2 ⟨L.take i,(a,n),L.drop (i+1),hsplit,by rw[htp,hsr,hr]; rfl,fun p hp=>by
     obtain⟨j,hj⟩:=List.getElem?_of_mem hp
     rw[List.getElem?_take] at hj
     split at hj
     ·rename_i hji; exact hP j hji p hj
     ·cases hj⟩
   rw[hRq]
   simp only[FL,TF] at hput hln
   simp[fndV]
   refine zab hput ?_
   simp
   refine zab hln ?_
   by_cases he:(zbg t r).2=0
   ·have he':((zbg t r).2==0)=true:=by simp[he]
    simp[he',rndV,ResC,FL,TF]
   ·have he':((zbg t r).2==0)=false:=beqF he
    have hsame:(zbg t r).1=t:=by
     unfold zbg at he ⊢
     split
     ·split
      ·rfl
      ·split
       ·rfl
       ·rename_i g1 g2 g3
        rw[if_pos g1,if_neg g2,if_neg g3] at he
        exact absurd rfl he
     ·rfl
    simp[he',hsame,rndV,ResC,FL,TF]
 ·have hne:i=L.length:=by omega
  subst hne
  have hnone:zcN f t tries most=none:=by
   rw[hR,List.findSome?_eq_none_iff]
   intro p hp
   obtain⟨j,hj⟩:=List.getElem?_of_mem hp
   exact hP j (List.getElem?_eq_some_iff.1 hj).1 p hj
  rw[hnone]
  simp[rndV,ResC,FL,TF]
end Go.Ev
/- Which places are come to: a walk, plain. -/
namespace Go.Ev
open Go Go.RowKit
def zb5(f:List In4)(a:Nat)(m:List Bool):List Bool :=
 if h:a<f.length then
  if m.getD a false=true then m
  else if zaz (f[a]'h).op=true then m.set a true
  else if(f[a]'h).op=5 then zb5 f (a+1+(f[a]'h).k) (m.set a true)
  else if isBr (f[a]'h).op=true then zb5 f (a+1+(f[a]'h).jf.toNat) (zb5 f (a+1+(f[a]'h).jt.toNat) (m.set a true))
  else zb5 f (a+1) (m.set a true)
 else m
termination_by f.length-a
def isT(m:List Bool)(i:Nat):Prop:=m[i]?=some true
structure Mt (f:List In4) (a:Nat) (m m':List Bool):Prop where
 len:m'.length=m.length
 mono:∀ i,isT m i→isT m' i
 at':isT m' a
 cls:∀ i x,isT m' i→¬isT m i→f[i]?=some x→∀ o∈offs x,isT m' (i+1+o)
 min:∀ i,isT m' i→¬isT m i→i=a∨∃ j x o,f[j]?=some x∧isT m' j∧o∈offs x∧j+1+o=i
theorem zgR{m:List Bool}{a i:Nat}(ha:a<m.length):isT (m.set a true) i↔i=a∨isT m i:=by
 unfold isT
 by_cases e:a=i
 ·subst e; rw[List.getElem?_set_self ha]; simp
 ·rw[List.getElem?_set_ne e]
  constructor
  ·exact .inr
  ·rintro(h|h)
   ·exact absurd h.symm e
   ·exact h
theorem Mt.refl{f:List In4}{a:Nat}{m:List Bool}(h:isT m a):Mt f a m m:=⟨rfl,fun _ h=>h,h,fun i x h1 h2=>absurd h1 h2,fun i h1 h2=>absurd h1 h2⟩
theorem Mt.one{f:List In4}{a:Nat}{m m':List Bool}{x:In4}(ha:a<m.length)(hx:f[a]?=some x)(hl:m'.length=m.length)(mono:∀ i,isT (m.set a true) i→isT m' i)
  (nx:∀ o∈offs x,isT m' (a+1+o)) (cls:∀ i y,isT m' i→¬isT (m.set a true) i→f[i]?=some y→∀ o∈offs y,isT m' (i+1+o))
  (min:∀ i,isT m' i→¬isT (m.set a true) i→∃ j y o,f[j]?=some y∧isT m' j∧o∈offs y∧j+1+o=i):Mt f a m m':=by
 have h1:isT m' a:=mono a ((zgR ha).2 (.inl rfl))
 refine⟨hl,fun i hi=>mono i ((zgR ha).2 (.inr hi)),h1,fun i y hi hn hy=>?_,fun i hi hn=>?_⟩
 ·by_cases e:i=a
  ·subst e
   rw[hx] at hy; cases hy
   exact nx
  ·exact cls i y hi (fun h=>((zgR ha).1 h).elim e hn) hy
 ·by_cases e:i=a
  ·exact .inl e
  ·exact .inr (min i hi fun h=>((zgR ha).1 h).elim e hn)
theorem zig{f:List In4}(hs:zao f=true):∀(n a:Nat) (m:List Bool),f.length-a≤n→a<f.length→m.length=f.length→Mt f a m (zb5 f a m)
 | 0,a,m,h1,h2,_=>by omega
 | n+1,a,m,h1,h2,h3=>by
  have hx:f[a]?=some f[a]:=List.getElem?_eq_getElem h2
  have ho:=fun o h=>zcs (o:=o) hs hx h
  obtain⟨x,hxe⟩:∃ x,x=f[a]:=⟨_,rfl⟩
  rw[←hxe] at hx ho
  rw[zb5,dif_pos h2,←hxe]
  by_cases hm:m.getD a false=true
  ·rw[if_pos hm]
   refine .refl ?_
   rw[List.getD_eq_getElem?_getD] at hm
   unfold isT
   cases hg:m[a]? with
   | none=>rw[hg] at hm; cases hm
   | some b=>rw[hg] at hm; simp at hm; rw[hm]
  rw[if_neg hm]
  have hal:a<m.length:=by omega
  have hl:(m.set a true).length=f.length:=by rw[List.length_set,h3]
  by_cases he:zaz x.op=true
  ·rw[if_pos he]
   refine Mt.one hal hx (by simp) (fun _ h=>h) (fun o h=>?_) (fun i y h1 h2=>absurd h1 h2) (fun i h1 h2=>absurd h1 h2)
   simp[offs,he] at h
  rw[if_neg he]
  have he':zaz x.op=false:=by simpa using he
  -- one walk on
  have one:∀ o,offs x=[o]→Mt f a m (zb5 f (a+1+o) (m.set a true)):=fun o e=>by
   have hlt:=ho o (by rw[e]; simp)
   have k:=zig hs n (a+1+o) (m.set a true) (by omega) hlt hl
   refine Mt.one hal hx (by rw[k.len]; simp) k.mono (fun q h=>?_) k.cls (fun i h1 h2=>?_)
   ·rw[e,List.mem_singleton] at h
    subst h; exact k.at'
   ·rcases k.min i h1 h2 with rfl|h
    ·exact⟨a,x,o,hx,k.mono a ((zgR hal).2 (.inl rfl)),by rw[e]; simp,rfl⟩
    ·exact h
  by_cases h5:x.op=5
  ·rw[if_pos h5]
   have h5e:zaz (5:Int)=false:=by decide
   exact one x.k (by simp[offs,h5,h5e])
  rw[if_neg h5]
  by_cases hb:isBr x.op=true
  ·rw[if_pos hb]
   have hof:offs x=[x.jt.toNat,x.jf.toNat]:=by simp[offs,he',h5,hb]
   have k1:=zig hs n (a+1+x.jt.toNat) (m.set a true) (by omega) (ho _ (by rw[hof]; simp)) hl
   have k2:=zig hs n (a+1+x.jf.toNat) (zb5 f (a+1+x.jt.toNat) (m.set a true)) (by omega) (ho _ (by rw[hof]; simp)) (by rw[k1.len,hl])
   refine Mt.one hal hx (by rw[k2.len,k1.len]; simp) (fun i h=>k2.mono i (k1.mono i h)) (fun q h=>?_) (fun i y h1 h2 hy o ho=>?_) (fun i h1 h2=>?_)
   ·rw[hof] at h
    simp only[List.mem_cons,List.not_mem_nil,or_false] at h
    rcases h with rfl|rfl
    ·exact k2.mono _ k1.at'
    ·exact k2.at'
   ·by_cases hi:isT (zb5 f (a+1+x.jt.toNat) (m.set a true)) i
    ·exact k2.mono _ (k1.cls i y hi h2 hy o ho)
    ·exact k2.cls i y h1 hi hy o ho
   ·have ha':isT (zb5 f (a+1+x.jf.toNat) (zb5 f (a+1+x.jt.toNat) (m.set a true))) a:=k2.mono _ (k1.mono a ((zgR hal).2 (.inl rfl)))
    by_cases hi:isT (zb5 f (a+1+x.jt.toNat) (m.set a true)) i
    ·rcases k1.min i hi h2 with rfl|⟨j,y,o,g1,g2,g3,g4⟩
     ·exact⟨a,x,_,hx,ha',by rw[hof]; simp,rfl⟩
     ·exact⟨j,y,o,g1,k2.mono _ g2,g3,g4⟩
    ·rcases k2.min i h1 hi with rfl|h
     ·exact⟨a,x,_,hx,ha',by rw[hof]; simp,rfl⟩
     ·exact h
  ·rw[if_neg hb]
   have:=one 0 (by simp[offs,he',h5,hb])
   simpa using this
def metR(f:List In4):List Bool:=zb5 f 0 (List.replicate f.length false)
theorem zqs:∀{f:List In4} {m:List Bool},f.length=m.length→(∀ i x,isT m i→f[i]?=some x→∀ o∈offs x,isT m (i+1+o))→clsB f m
 | [],[],_,_=>trivial
 | [],_::_,h,_=>by simp at h
 | _::_,[],h,_=>by simp at h
 | x::f,b::m,h,hc=>by
  refine⟨fun hb o ho=>?_,zqs (by simpa using h) fun i y hi hy o ho=>?_⟩
  ·have:=hc 0 x (by rw[hb]; rfl) rfl o ho
   rw[show 0+1+o=o+1 by omega] at this
   exact this
  ·have:=hc (i+1) y hi (by simpa using hy) o ho
   rw[show i+1+1+o=(i+1+o)+1 by omega] at this
   exact this
theorem zlQ{f:List In4}(hs:zao f=true):(metR f).length=f.length∧clsB f (metR f)∧(metR f)[0]?=some true∧MinM f (metR f):=by
 have h0:0<f.length:=by
  have:=zk9 hs
  cases f with
  | nil=>exact absurd rfl this
  | cons x f=>simp
 have k:=zig hs f.length 0 (List.replicate f.length false) (by omega) h0 (by simp)
 have no:∀ i,¬isT (List.replicate f.length false) i:=fun i h=>by
  have:=List.mem_of_getElem? h
  rw[List.mem_replicate] at this
  cases this.2
 have hl:(metR f).length=f.length:=by rw[metR,k.len]; simp
 refine⟨hl,zqs hl.symm fun i x hi hx=>k.cls i x hi (no i) hx,k.at',fun i hi hp=>?_⟩
 rcases k.min i hi (no i) with rfl|⟨j,x,o,h1,h2,h3,h4⟩
 ·omega
 ·exact⟨j,x,o,h1,h2,h3,h4⟩
def prune(f:List In4):List In4:=pruR f (metR f)
theorem zk7{f:List In4}(hs:zao f=true):zao (prune f)=true∧(prune f).length≤f.length∧AllP (prune f)∧∀ d s,run d (prune f) s=run d f s:=by
 obtain⟨h1,h2,h3,h4⟩:=zlQ hs
 refine⟨zty hs h2 h3,?_,zvl h2 h4,fun d s=>zqY d _ f _ s (Nat.le_refl _) h2 h3⟩
 have:=List.countP_le_length (p:=id) (l:=metR f)
 rw[prune,zfQ f _ h1.symm]; omega
theorem zrw{f:List In4}(hs:zao f=true)(ha:AllP f):prune f=f:=by
 obtain⟨h1,h2,h3,h4⟩:=zlQ hs
 exact ztF hs h2 h3 ha
theorem zkk:∀{f:List In4} {m:List Bool} {y:In4},y∈pruR f m→∃ x∈f,y.op=x.op∧(y.k=x.k∨y.k≤x.k)
 | x::f,true::m,y,h=>by
  rw[pruR,List.mem_cons] at h
  rcases h with rfl|h
  ·refine⟨x,by simp,zho m x,?_⟩
   unfold prX
   split
   ·exact .inr (zgU _ _)
   ·split<;>exact .inl rfl
  ·obtain⟨z,h1,h2⟩:=zkk h
   exact⟨z,by simp[h1],h2⟩
 | x::f,false::m,y,h=>by
  rw[pruR] at h
  obtain⟨z,h1,h2⟩:=zkk h
  exact⟨z,by simp[h1],h2⟩
 | [],_,_,h=>by simp[pruR] at h
 | _::_,[],_,h=>by simp[pruR] at h
end Go.Ev
/- What is come to: the walk, by a closure that calls itself. -/
namespace Go.Ev
open Go Go.RowKit
variable {G:Tbl}
def HM(f:List In4)(m:List Bool):Heap:=[some (.cells [FL f]),some (.cells (cb m)),some (.cells [.rs 1 0 f.length 1]),some (.cells [.fn 346 [.ptr 2 0,.ptr 0 0,.ptr 3 0]])]
theorem zwo(f:List In4)(m:List Bool):za1 (HM f m):=by
 intro n hn
 simp only[HM,List.length_cons,List.length_nil] at hn
 simp[HM,FL,Blk.cl,clL,V.cl,Tk.cl,show 0<n by omega,show 1<n by omega,show 2<n by omega,show 3<n by omega]
theorem zqt[HasIns G][HasPru G]{f:List In4}(hs:zao f=true)(hk:∀ x∈f,x.k<4294967296)(hf:f.length≤maxLen):∀(n a:Nat) (m:List Bool) (r:Heap),(∀ n,r.map (Option.map (Blk.cl n))=r)→f.length-a≤n→a<f.length→m.length=f.length →
  SF G 346 [.int .i64 a,.ptr 2 0,.ptr 0 0,.ptr 3 0] (HM f m++r) (.tup []) (HM f (zb5 f a m)++r)
 | 0,a,m,r,_,h1,h2,_=>by omega
 | n+1,a,m,r,hr,h1,h2,h3=>by
  refine zbw HasPru.h_prune_Met_1 (Nat.le_of_ble_eq_true rfl) ?_
  have nB:∀ m,(HM f m).length=4:=fun m=>rfl
  have g0:∀ m (s:Heap),(HM f m++s)[0]?=some (some (.cells [FL f])):=fun m s=>rfl
  have g1:∀ m (s:Heap),(HM f m++s)[1]?=some (some (.cells (cb m))):=fun m s=>rfl
  have g2:∀ m (s:Heap),(HM f m++s)[2]?=some (some (.cells [.rs 1 0 f.length 1])):=fun m s=>rfl
  have g3:∀ m (s:Heap),(HM f m++s)[3]?=some (some (.cells [.fn 346 [.ptr 2 0,.ptr 0 0,.ptr 3 0]])):=fun m s=>rfl
  have s1:∀ m m' (s:Heap),(HM f m++s).set 1 (some (.cells (cb m')))=HM f m'++s:=fun m m' s=>rfl
  have kk:∀ m (s:Heap),(HM f m++(r++s))[4+r.length]?=s[0]?:=fun m s=>by
   rw[←List.append_assoc]; exact apn0 (by simp[nB])
  have k0:∀ m (s:Heap) y,(HM f m++(r++s)).set (4+r.length) y=HM f m++(r++s.set 0 y):=fun m s y=>by
   rw[←List.append_assoc,zbS (by simp[nB]),List.append_assoc]
  have bk:∀ m (s:Heap),zad (4+r.length) (HM f m++(r++s))=HM f m++r:=fun m s=>by
   have:=((zwo f m).app hr).back s
   rw[List.append_assoc,List.length_append,nB] at this
   exact this
  have l0:0<4+r.length:=by omega
  have l2:2<4+r.length:=by omega
  have l3:3<4+r.length:=by omega
  obtain⟨R,hR⟩:∃ R,R=zb5 f a m:=⟨_,rfl⟩
  rw[←hR]
  simp[nB]
  refine zgN (S:=Nat×List Bool) (fun s=>f.length-s.1) (fun s=>[(0,.int .i64 s.1),(1,.ptr 2 0),(2,.ptr 0 0),(3,.ptr 3 0)]) (fun s=>HM f s.2++r) (fun s=>zb5 f s.1 s.2=R∧s.1<f.length∧s.2.length=f.length∧a≤s.1) (a,m) ?_ ?_
  ·have:=bk m []
   simp at this
   simp[zaa,nB,this,hR,h2,h3,l0,l2,l3]
  rintro⟨b,u⟩ ⟨hm,hb,hu,hab⟩
  simp only at hm hb hu hab ⊢
  have hx:f[b]?=some f[b]:=List.getElem?_eq_getElem hb
  have ho:=fun o h=>zcs (o:=o) hs hx h
  have hbo:=zhm hs hx
  obtain⟨x,hxe⟩:∃ x,x=f[b]:=⟨_,rfl⟩
  rw[←hxe] at hx ho hbo
  have hxl:x.cs.length=4:=rfl
  have hxt:x.cs.take 4=x.cs:=rfl
  have hgg:=zbk hb
  rw[←hxe] at hgg
  have hub:u[b]?=some u[b]:=List.getElem?_eq_getElem (by omega)
  obtain⟨t,ht⟩:∃ t,t=u[b]'(by omega):=⟨_,rfl⟩
  rw[←ht] at hub
  have hbu:=zxN u b t hub
  have hset:=zlR u b true (by omega)
  rw[zb5,dif_pos hb,←hxe] at hm
  have hgd:u.getD b false=t:=by rw[List.getD_eq_getElem?_getD,hub]; rfl
  rw[hgd] at hm
  have bu:=bk u []
  simp at bu
  have l5:=hf
  simp only[maxLen] at l5
  cases t with
  | true =>
   rw[if_pos rfl] at hm
   subst hm
   simp(disch:=omega)[nB,g0,g1,g2,g3,hbu,leTn,ltTn,bu]
  | false =>
   rw[if_neg (by simp)] at hm
   simp(disch:=omega)[nB,g0,g1,g2,g3,hbu,leTn,ltTn,hset,s1,FL,hgg,hxl,hxt,kk,k0]
   refine zab (zil x) ?_
   have x0:(x.cs.drop 0).take 1=[.int .i64 x.op]:=rfl
   have x1:x.cs.tail.take 1=[.int .i64 x.jt]:=rfl
   have x2:(x.cs.drop 2).take 1=[.int .i64 x.jf]:=rfl
   have x3:(x.cs.drop 3).take 1=[.int .u32 (x.k:Int)]:=rfl
   have x0':x.cs.take 1=[.int .i64 x.op]:=rfl
   have kx:∀ n,clL n x.cs=x.cs:=fun n=>by simp[In4.cs,clL,V.cl]
   have hxk:x.k<4294967296:=hk x (by rw[hxe]; exact List.getElem_mem hb)
   have hul:(u.set b true).length=f.length:=by simp[hu]
   obtain⟨U,hU⟩:∃ U,U=u.set b true:=⟨_,rfl⟩
   rw[←hU] at hm hul ⊢
   by_cases he:zaz x.op=true
   ·rw[if_pos he] at hm
    subst hm
    simp[he,bk]
   rw[if_neg he] at hm
   have he':zaz x.op=false:=by simpa using he
   have nx1:∀{c:Nat},b<c→c<f.length→f.length-c<f.length-b:=fun h1 h2=>by omega
   by_cases h5:x.op=5
   ·rw[if_pos h5] at hm
    have h5e:zaz (5:Int)=false:=by decide
    have hlt:=ho x.k (by simp[offs,h5,h5e])
    have c1:zaG .i64 (x.k:Int)=(x.k:Int):=by rw[zdJ]<;>omega
    have a1:addI .i64 (b:Int) (x.k:Int)=((b+x.k:Nat):Int):=by rw[zaD]<;>omega
    have a2:addI .i64 ((b+x.k:Nat):Int) 1=((b+1+x.k:Nat):Int):=by rw[zaD]<;>omega
    simp(disch:=omega)[he',h5,h5e,kk,x0,x0',x3,hxl,c1,a1,a2,zaa,nB,bk,hm,hlt,hul,l0,l2,l3,-Int.natCast_add]
    exact⟨(b+1+x.k,U),nx1 (by omega) hlt,⟨hm,hlt,hul,by simp only; omega⟩,by simp[zaa,nB,l0,l2,l3,-Int.natCast_add],bk U _⟩
   rw[if_neg h5] at hm
   by_cases hbr:isBr x.op=true
   ·rw[if_pos hbr] at hm
    obtain⟨b1,b2,b3,b4⟩:=hbo hbr
    have hof:offs x=[x.jt.toNat,x.jf.toNat]:=by simp[offs,he',h5,hbr]
    have hlt1:=ho x.jt.toNat (by rw[hof]; simp)
    have hlt2:=ho x.jf.toNat (by rw[hof]; simp)
    have a0:addI .i64 (b:Int) 1=((b+1:Nat):Int):=by rw[zaD]<;>omega
    have a1:addI .i64 ((b+1:Nat):Int) x.jt=((b+1+x.jt.toNat:Nat):Int):=by rw[zaD]<;>omega
    have a2:addI .i64 (b:Int) x.jf=((b+x.jf.toNat:Nat):Int):=by rw[zaD]<;>omega
    have a3:addI .i64 ((b+x.jf.toNat:Nat):Int) 1=((b+1+x.jf.toNat:Nat):Int):=by rw[zaD]<;>omega
    have h5b:=beqF h5
    have ih:=zqt hs hk hf n (b+1+x.jt.toNat) U (r++[some (.cells x.cs)]) (fun n=>by simp[hr,Blk.cl,kx]) (by omega) hlt1 hul
    have k:=zig hs n (b+1+x.jt.toNat) U (by omega) hlt1 hul
    simp(disch:=omega)[he',h5b,kk,x0,x0',hxl,hxt,zaa,nB,l0,l2,l3,-Int.natCast_add]
    refine zab (zb9 x) ?_
    simp(disch:=omega)[hbr,kk,x1,g3,a0,a1,hxl,nB,zaa,l0,l2,l3,-Int.natCast_add]
    refine zeJ (args:=[.int .i64 ((b+1+x.jt.toNat:Nat):Int)]) (cap:=[.ptr 2 0,.ptr 0 0,.ptr 3 0]) ih ?_
    simp(disch:=omega)[kk,x2,a2,a3,hxl,nB,zaa,l0,l2,l3,-Int.natCast_add]
    exact⟨(b+1+x.jf.toNat,zb5 f (b+1+x.jt.toNat) U),nx1 (by omega) hlt2,⟨hm,hlt2,by simp only[k.len,hul],by simp only; omega⟩,by simp[zaa,nB,l0,l2,l3,-Int.natCast_add],bk _ _⟩
   ·rw[if_neg hbr] at hm
    have hbr':isBr x.op=false:=by simpa using hbr
    have hlt:=ho 0 (by simp[offs,he',h5,hbr'])
    have h5b:=beqF h5
    have a0:addI .i64 (b:Int) 1=((b+1:Nat):Int):=by rw[zaD]<;>omega
    simp(disch:=omega)[he',h5b,kk,x0,x0',hxl,hxt,zaa,nB,l0,l2,l3,-Int.natCast_add]
    refine zab (zb9 x) ?_
    simp(disch:=omega)[hbr',kk,a0,hxl,nB,zaa,l0,l2,l3,-Int.natCast_add]
    exact⟨(b+1,U),nx1 (by omega) hlt,⟨hm,hlt,hul,by simp only; omega⟩,by simp[zaa,nB,l0,l2,l3,-Int.natCast_add],bk U _⟩
end Go.Ev
/- What is come to: the whole. -/
namespace Go.Ev
open Go Go.RowKit
variable {G:Tbl}
theorem zxF[HasIns G][HasCheck G][HasPru G]{f:List In4}(hs:zao f=true)(hk:∀ x∈f,x.k<4294967296)(hf:f.length≤4096) :
  FP G 347 [FL f] (.tup [.vs (zbf (metR f)) .no,.int .i64 0]):=by
 refine zak HasPru.h_prune_Met (Nat.le_of_ble_eq_true rfl) ?_
 have hm:f.length≤maxLen:=Nat.le_trans hf (by decide)
 have hso:=zgW (G:=G) f hm hk
 rw[hs] at hso
 simp[FL]
 refine zab hso ?_
 have h0:0<f.length:=by
  have:=zk9 hs
  cases f with
  | nil=>exact absurd rfl this
  | cons x f=>simp
 have k:=zqt (G:=G) hs hk hm f.length 0 (List.replicate f.length false) [] (fun n=>rfl) (by omega) h0 (by simp)
 simp(disch:=omega)[FL,zaa,leTn]
 refine zeJ (args:=[.int .i64 ((0:Nat):Int)]) (cap:=[.ptr 2 0,.ptr 0 0,.ptr 3 0]) k ?_
 have hl:(metR f).length=f.length:=(zlQ hs).1
 have hc:=zjW (metR f)
 rw[hl] at hc
 rw[show zb5 f 0 (List.replicate f.length false)=metR f from rfl]
 simp[HM,hl,hc]
end Go.Ev
/- A filter without what is never come to: the code. -/
namespace Go.Ev
open Go Go.RowKit
variable {G:Tbl}
theorem zkl{m:List Bool}{i:Nat}{t:Bool}(h:m[i]?=some t):cntB m (i+1)=cntB m i+(if t=true then 1 else 0):=by
 rw[cntB,cntB,List.take_add_one,h,Option.toList_some,List.countP_append]
 cases t<;>simp
theorem zwp{m:List Bool}{i:Nat}(h:m[i]?=some true)(o:Nat):cntB m (i+1+o)=cntB m i+1+cntB (m.drop (i+1)) o:=by
 rw[zln,zkl h]; simp
def outP(f:List In4)(m:List Bool)(i:Nat):List In4:=(pruR f m).take (cntB m i)
theorem zwq{f:List In4}{m:List Bool}{i:Nat}(h:m[i]?=some false):outP f m (i+1)=outP f m i:=by
 rw[outP,outP,zkl h]; rfl
theorem zuE{f:List In4}{m:List Bool}{i:Nat}{x:In4}(hl:f.length=m.length)(hx:f[i]?=some x)(h:m[i]?=some true):outP f m (i+1)=outP f m i++[prX (m.drop (i+1)) x]:=by
 have h1:=zi3 f m i hl
 obtain⟨hf,rfl⟩:=List.getElem?_eq_some_iff.1 hx
 obtain⟨hm,e⟩:=List.getElem?_eq_some_iff.1 h
 rw[List.drop_eq_getElem_cons hf,List.drop_eq_getElem_cons hm,e,pruR] at h1
 have h2:(pruR f m)[cntB m i]?=some (prX (m.drop (i+1)) f[i]):=by
  rw[←List.head?_drop,h1]; rfl
 rw[outP,outP,zkl h,if_pos rfl,List.take_add_one,h2]; rfl
theorem zuF{f:List In4}{m:List Bool}(hl:f.length=m.length):outP f m f.length=pruR f m:=by
 rw[outP,List.take_of_length_le]
 rw[zfQ f m hl,hl,cntB,List.take_length]; exact Nat.le_refl _
theorem zuG(f:List In4)(m:List Bool)(i:Nat):(outP f m i).length≤i:=by
 rw[outP,List.length_take]
 have:=zgU m i
 omega
def nowP(m:List Bool)(i:Nat):List Nat:=(List.range m.length).map fun j=>if j<i then cntB m j else 0
theorem zo1(m:List Bool)(i:Nat):(nowP m i).length=m.length:=by simp[nowP]
theorem zuH{m:List Bool}{i:Nat}(h:i<m.length):(nowP m i).set i (cntB m i)=nowP m (i+1):=by
 apply List.ext_getElem
 ·simp[nowP]
 intro j h1 h2
 simp only[nowP,List.length_set,List.length_map,List.length_range] at h1 h2
 rw[List.getElem_set]
 simp only[nowP,List.getElem_map,List.getElem_range]
 by_cases e:i=j
 ·subst e; simp
 ·rw[if_neg e]
  by_cases h3:j<i
  ·rw[if_pos h3,if_pos (by omega)]
  ·rw[if_neg h3,if_neg (by omega)]
theorem zo2{m:List Bool}{j:Nat}(h:j<m.length):(nowP m m.length)[j]?=some (cntB m j):=by
 rw[nowP,List.getElem?_map,List.getElem?_range h]
 simp[h]
theorem zxG[HasPru G]{m:List Bool}{i o:Nat}(hm:m.length≤4096)(hi:m[i]?=some true)(ho:i+1+o<m.length)(z:Blk)(y:List V) :
  Big G (.F 348 [.int .i64 i,.int .i64 o,.ptr 1 0] [some (.cells (zac .i64 (nowP m m.length))),some (.cells [.rs 0 0 m.length 1]),some z,some (.cells y)] (.int .i64 (cntB (m.drop (i+1)) o:Nat))
   [some (.cells (zac .i64 (nowP m m.length))),some (.cells [.rs 0 0 m.length 1]),some z,some (.cells y)]):=by
 refine F_of HasPru.h_prune_Prune_1 (Nat.le_of_ble_eq_true rfl) ?_
 have a1:addI .i64 (i:Int) 1=((i+1:Nat):Int):=zag (by omega)
 have a2:addI .i64 ((i+1:Nat):Int) (o:Int)=((i+1+o:Nat):Int):=addN (by omega)
 have l1:=zgU m (i+1+o)
 have e1:=zwp hi o
 have r1:=zdM .i64 (zo2 (m:=m) (j:=i+1+o) ho)
 have r2:=zdM .i64 (zo2 (m:=m) (j:=i) (by omega))
 have s1:subI .i64 (cntB m (i+1+o):Int) (cntB m i:Int)=((cntB m (i+1+o)-cntB m i:Nat):Int):=by rw[zcc]<;>omega
 have s2:subI .i64 ((cntB m (i+1+o)-cntB m i:Nat):Int) 1=((cntB (m.drop (i+1)) o:Nat):Int):=by rw[zcc]<;>omega
 obtain⟨N,hN⟩:∃ N,N=nowP m m.length:=⟨_,rfl⟩
 have hNl:N.length=m.length:=by rw[hN,zo1]
 rw[←hN] at r1 r2 ⊢
 simp(disch:=omega)[a1,a2,r1,r2,s1,s2,ltTn,leTn,hNl,-Int.natCast_add]
end Go.Ev
/- A filter without what is never come to: the whole. -/
namespace Go.Ev
open Go Go.RowKit
variable {G:Tbl}
theorem zxH{o:Int}(h:isBr o=true):zaz o=false:=by
 cases e:zaz o with
 | false=>rfl
 | true =>
  simp only[zaz,Bool.or_eq_true,beq_iff_eq,decide_eq_true_eq] at e
  rcases e with e|e<;>(rw[e] at h; revert h; decide)
theorem zuI[HasIns G][HasCheck G][HasPru G]{f:List In4}(hs:zao f=true)(hk:∀ x∈f,x.k<4294967296)(hf:f.length≤4096) :
  FP G 349 [FL f] (.tup [.vs (IL (prune f)) .no,.int .i64 0]):=by
 refine zak HasPru.h_prune_Prune (Nat.le_of_ble_eq_true rfl) ?_
 obtain⟨hml,hcl,h00,_⟩:=zlQ hs
 simp[FL]
 refine zab (zxF hs hk hf) ?_
 obtain⟨m,hm⟩:∃ m,m=metR f:=⟨_,rfl⟩
 have hpr:prune f=pruR f m:=by rw[prune,hm]
 rw[←hm] at hml hcl h00 ⊢
 have hl:f.length=m.length:=hml.symm
 have hm4:m.length≤4096:=by omega
 have hbl:(zbf m).length=m.length:=by simp[zbf]
 simp(disch:=omega)[FL,leTn,hbl]
 obtain⟨N,hN⟩:∃ N:Nat→List Nat,∀ j,N j=nowP m j:=⟨_,fun _=>rfl⟩
 have hNl:∀ j,(N j).length=m.length:=fun j=>by rw[hN,zo1]
 have hN0:zae m.length=N 0:=by
  rw[hN,nowP,zae]
  apply List.ext_getElem<;>simp
 refine W_up m.length (fun i=>[(0,FL f),(4,.vs (zbf m) .no),(6,.ptr 1 0),(7,.int .i64 (cntB m i:Nat)),(25,.vs (zbf m) .no),(26,.int .i64 m.length),(27,.int .i64 i)])
  (fun i=>[some (.cells (zac .i64 (N i))),some (.cells [.rs 0 0 m.length 1])]) (fun _=>True) ?_ ?_
 ·simp[zaa,zad,FL,hN0,hl,zdG]
 intro i hi _
 by_cases hlt:i<m.length
 ·obtain⟨t,ht⟩:∃ t,t=m[i]:=⟨_,rfl⟩
  have hg:m[i]?=some t:=by rw[List.getElem?_eq_getElem hlt,ht]
  have hbg:(zbf m)[i]?=some [.bool t]:=by simp[hg]
  have hbe:(zbf m)[i]'(by omega)=[.bool t]:=by simp[zbf,ht]
  have hst:=zbc .i64 (N i) i (cntB m i) (by rw[hNl]; exact hlt)
  rw[hN i,zuH hlt,←hN (i+1),←hN i] at hst
  have hc:=zkl hg
  have hle:=zgU m i
  have a1:addI .i64 (cntB m i:Int) 1=((cntB m i+1:Nat):Int):=zag (by omega)
  cases t with
  | true =>
   simp(disch:=omega)[ltT,leTn,ltTn,hbg,hbe,hst,hNl,hlt,zag,a1,hc,zaa,zad,FL,-Int.natCast_add]
  | false =>
   simp(disch:=omega)[ltT,leTn,ltTn,hbg,hbe,hst,hNl,hlt,zag,hc,zaa,zad,FL,-Int.natCast_add]
 have hne:i=m.length:=by omega
 subst hne
 obtain⟨T,hT⟩:∃ T:Nat→List In4,∀ j,T j=outP f m j:=⟨_,fun _=>rfl⟩
 have hT0:T 0=[]:=by rw[hT,outP,zdG,List.take_zero]
 have hTL:∀ j,(T j).length≤j:=fun j=>by rw[hT]; exact zuG f m j
 simp(disch:=omega)[zaa,zad,FL,-Int.natCast_add]
 refine W_up m.length (fun i=>[(4,.vs (zbf m) .no),(10,.fn 348 [.ptr 1 0]),(11,.vs (IL (T i)) (.own 2)),(41,FL f),(42,.int .i64 m.length),(43,.int .i64 i)])
  (fun i=>[some (.cells (zac .i64 (N m.length))),some (.cells [.rs 0 0 m.length 1]),some (.zone (T i).length)]) (fun _=>True) ?_ ?_
 ·simp[zaa,zad,FL,hT0,hl]
 intro i hi _
 by_cases hlt:i<m.length
 ·obtain⟨t,ht⟩:∃ t,t=m[i]:=⟨_,rfl⟩
  have hg:m[i]?=some t:=by rw[List.getElem?_eq_getElem hlt,ht]
  have hbe:(zbf m)[i]'(by omega)=[.bool t]:=by simp[zbf,ht]
  obtain⟨x,hfx⟩:∃ x,x=f[i]'(by omega):=⟨_,rfl⟩
  have hgg:=zbk (f:=f) (i:=i) (by omega)
  rw[←hfx] at hgg
  have hfx:=hfx.symm
  have hgx:f[i]?=some x:=by rw[List.getElem?_eq_getElem (by omega),hfx]
  have hxm:x∈f:=hfx▸List.getElem_mem _
  have hkk:=hk x hxm
  have hbo:=zhm hs hgx
  have ho:=fun o h=>zcs (o:=o) hs hgx h
  have hcs:x.cs=[.int .i64 x.op,.int .i64 x.jt,.int .i64 x.jf,.int .u32 (x.k:Int)]:=rfl
  have hbr:=zb9 (G:=G) x
  simp[IV,hcs] at hbr
  have hTl:=hTL i
  cases t with
  | false =>
   have hTe:T (i+1)=T i:=by rw[hT,hT]; exact zwq hg
   simp(disch:=omega)[ltT,leTn,ltTn,hbe,hgg,hfx,hcs,hTe,hlt,zag,zaa,zad,FL,-Int.natCast_add]
  | true =>
   have hTs:T (i+1)=T i++[prX (m.drop (i+1)) x]:=by rw[hT,hT]; exact zuE hl hgx hg
   have hTl2:(T (i+1)).length=(T i).length+1:=by rw[hTs]; simp
   have hsn:∀ y:In4,y=prX (m.drop (i+1)) x→IL (T i)++[y.cs]=IL (T (i+1)):=fun y hy=>by rw[hTs,hy]; exact zmJ _ _
   have hov:∀ o:Nat,i+1+o<m.length→_:=fun o h=>zxG (G:=G) hm4 hg h (.zone (T i).length) x.cs
   rw[←hN] at hov
   by_cases h5:x.op=5
   ·have b5:(x.op==5)=true:=by simp[h5]
    have h5e:zaz (5:Int)=false:=by decide
    have hc:=zdJ x.k hkk
    have hlk:i+1+x.k<m.length:=by
     have:=ho x.k (by simp[offs,h5,h5e])
     omega
    have hv:=hov x.k hlk
    have hle:=zgU (m.drop (i+1)) x.k
    have hc2:zaG .u32 ((cntB (m.drop (i+1)) x.k:Nat):Int)=((cntB (m.drop (i+1)) x.k:Nat):Int):=by unfold zaG; exact zaM (by omega)
    have hap:=hsn ⟨x.op,x.jt,x.jf,cntB (m.drop (i+1)) x.k⟩ (by simp[prX,h5])
    simp only[In4.cs] at hv hap
    obtain⟨q,hq⟩:∃ q,q=cntB (m.drop (i+1)) x.k:=⟨_,rfl⟩
    rw[←hq] at hv hap hc2 hle
    simp(disch:=omega)[ltT,leTn,ltTn,hbe,hgg,hfx,hcs,b5,hc,FL,-Int.natCast_add]
    refine zaI hv (by simp) ?_
    simp(disch:=omega)[zad,hc2,leTn,hap,hTl2,hlt,zag,zaa,-Int.natCast_add]
   have b5:(x.op==5)=false:=beqF h5
   simp(disch:=omega)[ltT,leTn,ltTn,hbe,hgg,hfx,hcs,b5,FL,-Int.natCast_add]
   refine zab hbr ?_
   cases hbx:isBr x.op
   ·have hap:=hsn x (by simp[prX,h5,hbx])
    simp only[In4.cs] at hap
    simp(disch:=omega)[leTn,hap,hTl2,hlt,zag,zaa,zad,-Int.natCast_add]
   ·obtain⟨b1,b2,b3,b4⟩:=hbo hbx
    have he':zaz x.op=false:=zxH hbx
    have hof:offs x=[x.jt.toNat,x.jf.toNat]:=by simp[offs,he',h5,hbx]
    have hl1:=ho x.jt.toNat (by rw[hof]; simp)
    have hl2:=ho x.jf.toNat (by rw[hof]; simp)
    have hv:=hov x.jt.toNat (by omega)
    have hv2:=hov x.jf.toNat (by omega)
    have hap:=hsn ⟨x.op,(cntB (m.drop (i+1)) x.jt.toNat:Nat),(cntB (m.drop (i+1)) x.jf.toNat:Nat),x.k⟩ (by simp[prX,h5,hbx])
    have j1:((x.jt.toNat:Nat):Int)=x.jt:=by omega
    have j2:((x.jf.toNat:Nat):Int)=x.jf:=by omega
    simp only[In4.cs,j1,j2] at hv hv2 hap
    obtain⟨q,hq⟩:∃ q,q=cntB (m.drop (i+1)) x.jt.toNat:=⟨_,rfl⟩
    obtain⟨q2,hq2⟩:∃ q,q=cntB (m.drop (i+1)) x.jf.toNat:=⟨_,rfl⟩
    rw[←hq] at hv hap
    rw[←hq2] at hv2 hap
    simp
    refine zaI hv (by simp[zad]) ?_
    simp[zad]
    refine zaI hv2 (by simp[zad]) ?_
    simp(disch:=omega)[zad,leTn,hap,hTl2,hlt,zag,zaa,-Int.natCast_add]
 ·have hne:i=m.length:=by omega
  subst hne
  have hTe:T m.length=prune f:=by rw[hT,←hl,zuF hl,hpr]
  simp[hTe]
end Go.Ev
/- Filters made shorter: all rounds. -/
namespace Go.Ev
open Go Go.RowKit
variable {G:Tbl}
noncomputable def optR(f:List In4)(t:List TR)(rnds tries most:Int):(List In4×List TR)×Nat×Bool :=
 zbR (zcj tries 0 1000) (zcj most 0 32) (zcj rnds 0 1000).toNat (prune f) (goodT t)
theorem zsO(t:List TR):tblB (goodT t)=true:=by
 unfold goodT
 split
 ·assumption
 ·rfl
theorem zuJ{t:List TR}(h:tblB t=true)(hk:TblK t):zru t:=by
 refine⟨by have:=(zmv h).2; omega,fun r hr=>?_⟩
 have hm:r.may=true:=by
  simp only[tblB,Bool.and_eq_true] at h
  exact List.all_eq_true.1 h.1.1 r hr
 obtain⟨h1,h2⟩:=zgQ hm
 obtain⟨k1,k2,k3⟩:=hk r hr
 exact⟨Nat.le_trans h1 (by decide),Nat.le_trans h2 (by decide),k1,k2,k3⟩
theorem zqu{f:List In4}(hk:∀ x∈f,x.k<4294967296):∀ x∈prune f,x.k<4294967296:=by
 intro x hx
 obtain⟨y,h1,_,h2⟩:=zkk hx
 have:=hk y h1
 omega
theorem zkK[HasWd G][HasNeg G][HasIns G][HasCheck G][HasData G][HasWith G][HasStep G][HasWRight G][HasWinRun G][HasWinAsg G][HasWinState G][HasWinOf G][HasAffApart G][HasAffine G][hBA:HasBitsA G][HasSymNew G][HasSym G][HasSymEval G][HasSymApart G][HasDecDf G][HasDec G][HasSrcN G][HasSrcL G][HasSrcC G][HasSrcF G][HasTells G][HasLive G][HasSpl G][HasEnc G][HasTbl G][HasPru G][HasOpt G]
  (f:List In4) (t:List TR) (rnds tries most:Int) (hs:zao f=true) (hk:∀ x∈f,x.k<4294967296) (ht:zru t) (htk:TblK (goodT t)) :
  FP G 365 [FL f,TF t,.agg [.int .i64 rnds,.int .i64 tries,.int .i64 most]] (.tup [.agg (ResC (optR f t rnds tries most).1.1 (optR f t rnds tries most).1.2 (optR f t rnds tries most).2.1 (optR f t rnds tries most).2.2),.int .i64 0]):=by
 refine zak HasOpt.h_opt_Optimize (Nat.le_of_ble_eq_true rfl) ?_
 have hL4:=zfO hs
 have hpr:=zuI (G:=G) hs hk hL4
 obtain⟨p1,p2,_,_⟩:=zk7 hs
 have p3:=zqu hk
 have hfa:=zuD (G:=G) rnds tries most
 have hgd:=zwn (G:=G) t ht.1 ht.2
 have g1:=zsO t
 obtain⟨tr,htr⟩:∃ tr,tr=zcj tries 0 1000:=⟨_,rfl⟩
 obtain⟨mo,hmo⟩:∃ mo,mo=zcj most 0 32:=⟨_,rfl⟩
 have hmo':0≤mo∧mo≤32:=by rw[hmo]; unfold zcj; omega
 obtain⟨R,hR⟩:∃ R:Nat,zcj rnds 0 1000=R:=⟨(zcj rnds 0 1000).toNat,by unfold zcj; omega⟩
 have hR1:R≤1000:=by
  have:zcj rnds 0 1000≤1000:=by unfold zcj; omega
  omega
 rw[optR,←htr,←hmo,hR,Int.toNat_natCast]
 rw[←htr,←hmo,hR] at hfa
 generalize prune f=F at *
 generalize goodT t=T at *
 obtain⟨Q,hQ⟩:∃ Q,Q=zbR tr mo R F T:=⟨_,rfl⟩
 rw[←hQ]
 simp only[FL,TF] at hpr hgd
 simp[FL,TF]
 refine zab hpr ?_
 simp
 refine zab hfa ?_
 simp
 refine zab hgd ?_
 simp[zaa]
 refine zgN (S:=Nat×List In4×List TR) (fun s=>R-s.1) (fun s=>[(5,.ptr 0 0),(6,.ptr 1 0),(9,.ptr 2 0),(27,.int .i64 R),(28,.int .i64 s.1)])
  (fun s=>[some (.cells [.int .i64 R,.int .i64 tr,.int .i64 mo]),some (.cells [.vs [] .full,.vs [] .full,.int .i64 0,.bool false]),some (.cells (ResC s.2.1 s.2.2 s.1 false))])
  (fun s=>s.1≤R∧(zbR tr mo (R-s.1) s.2.1 s.2.2).1=Q.1∧s.1+(zbR tr mo (R-s.1) s.2.1 s.2.2).2.1=Q.2.1∧(zbR tr mo (R-s.1) s.2.1 s.2.2).2.2=Q.2.2∧zao s.2.1=true∧(∀ x∈s.2.1,x.k<4294967296)∧TblK s.2.2∧tblB s.2.2=true) (0,F,T) ?_ ?_
 ·simp[zaa,zad,ResC,FL,TF,hQ,p1,htk,g1]
  exact p3
 rintro⟨i,f',t'⟩ ⟨hi,q1,q2,q3,s1,s2,s3,s4⟩
 simp only at hi q1 q2 q3 s1 s2 s3 s4 ⊢
 have hrd:=zrv (G:=G) f' t' R tr mo s1 s2 (zuJ s4 s3) hmo'
 simp only[FL,TF] at hrd
 by_cases hlt:i<R
 ·obtain⟨k,hk'⟩:∃ k,R-i=k+1:=⟨R-i-1,by omega⟩
  rw[hk',zbR] at q1 q2 q3
  have hlt':((i:Int)<(R:Int))=True:=eq_true (by omega)
  simp[hlt',ResC,FL,TF]
  refine zab hrd ?_
  cases hro:zcN f' t' tr mo with
  | none =>
   rw[hro] at q1 q2 q3
   simp only at q1 q2 q3
   simp[rndV,ResC,FL,TF,←q1,←q2,←q3]
  | some q =>
   rw[hro] at q1 q2 q3
   simp only at q1 q2 q3
   have kk:=zoZ s1 s2 s3 hro
   simp[rndV,ResC,FL,TF]
   have a1:addI .i64 (i:Int) 1=((i+1:Nat):Int):=zag (by omega)
   have hRk:R-(i+1)=k:=by omega
   refine⟨(i+1,q.1,q.2),by simp only; omega,⟨by simp only; omega,by simp only[hRk]; exact q1,by simp only[hRk]; omega,by simp only[hRk]; exact q3,kk.sound,kk.k,kk.tk,(kk.tbl s4).1⟩,?_,?_⟩
   ·rw[a1]; simp[zaa,-Int.natCast_add]
   ·rw[a1]; simp[zad,-Int.natCast_add]
 ·have hne:i=R:=by omega
  subst hne
  rw[Nat.sub_self,zbR] at q1 q2 q3
  simp only at q1 q2 q3
  simp[ResC,FL,TF,←q1,←q2,←q3]
end Go.Ev
/- Layer 24: the smaller functions of its statements. -/
namespace Go.Ev
open Go Go.RowKit
variable {G:Tbl}
def zeA(t:List TR):Bool:=t.any (fun r=>decide (100<r.fr.length)||decide (100<r.to.length))||decide (100<t.length)
theorem zrx[HasL21 G](t:List TR)(hl:t.length≤maxLen)(hk:∀ r∈t,r.fr.length≤maxLen∧r.to.length≤maxLen):FP G 375 [TF t] (.bool (zeA t)):=by
 refine zak HasL21.h_hurdlelaw21_Great (Nat.le_of_ble_eq_true rfl) ?_
 have hm:=hl
 simp only[maxLen] at hm
 simp[TF]
 refine W_up t.length (fun i=>[(0,TF t),(3,.int .i64 i)]) (fun _=>[]) (fun i=>∀ j<i,∀ r,t[j]?=some r→(decide (100<r.fr.length)||decide (100<r.to.length))=false) ?_ ?_
 ·simp[zaa,zad,TF]
 intro i hi hP
 by_cases hlt:i<t.length
 ·obtain⟨x,hfx⟩:∃ x,x=t[i]:=⟨_,rfl⟩
  have hg:t[i]?=some x:=by rw[hfx]; exact List.getElem?_eq_getElem hlt
  have hgg:=zhk hg
  have hte:(TL t)[i]'(by simpa using hlt)=x.cs:=by simp[TL,hfx]
  have hlt':((i:Int)<(t.length:Int))=True:=eq_true (by omega)
  have yes:(decide (100<x.fr.length)||decide (100<x.to.length))=true→zeA t=true:=fun h=>by
   rw[zeA,List.any_eq_true.2 ⟨x,List.mem_of_getElem? hg,h⟩]; rfl
  have next:(decide (100<x.fr.length)||decide (100<x.to.length))=false→∀ j<i+1,∀ r,t[j]?=some r→(decide (100<r.fr.length)||decide (100<r.to.length))=false:=fun hx j hj r hr=>by
   rcases Nat.lt_succ_iff_lt_or_eq.1 hj with h|rfl
   ·exact hP j h r hr
   ·rw[hg] at hr; cases hr; exact hx
  by_cases c1:100<x.fr.length
  ·have c1':((100:Int)<(x.fr.length:Int))=True:=eq_true (by omega)
   have hy:=yes (by simp[c1])
   simp(disch:=omega)[TF,hlt',hgg,hte,TR.cs,c1',hy]
  ·have c1':((100:Int)<(x.fr.length:Int))=False:=eq_false (by omega)
   by_cases c2:100<x.to.length
   ·have c2':((100:Int)<(x.to.length:Int))=True:=eq_true (by omega)
    have hy:=yes (by simp[c2])
    simp(disch:=omega)[TF,hlt',hgg,hte,TR.cs,c1',c2',hy]
   ·have c2':((100:Int)<(x.to.length:Int))=False:=eq_false (by omega)
    have hn:=next (by simp[c1,c2])
    simp(disch:=omega)[TF,hlt',hgg,hte,TR.cs,c1',c2',hlt,zag,zaa,zad,-Int.natCast_add]
    intro j hj r hr
    have:=hn j hj r hr
    simp only[Bool.or_eq_false_iff,decide_eq_false_iff_not] at this
    omega
 ·have hne:i=t.length:=by omega
  subst hne
  have hany:t.any (fun r=>decide (100<r.fr.length)||decide (100<r.to.length))=false:=by
   rw[List.any_eq_false]
   intro r hr
   obtain⟨j,hj⟩:=List.getElem?_of_mem hr
   rw[hP j (List.getElem?_eq_some_iff.1 hj).1 r hj]
   simp
  by_cases c:100<t.length
  ·have c':((100:Int)<(t.length:Int))=True:=eq_true (by omega)
   simp[TF,zeA,hany,c,c']
  ·have c':((100:Int)<(t.length:Int))=False:=eq_false (by omega)
   simp[TF,zeA,hany,c,c']
def zdN(f:List In4)(t:List TR)(a b c:Int):Bool:=decide (60<f.length)||zeA t||decide (8<a)||decide (40<b)||decide (5<c)
theorem zry[HasL21 G][HasL24k G](f:List In4)(t:List TR)(a b c:Int)(hl:t.length≤maxLen)(hk:∀ r∈t,r.fr.length≤maxLen∧r.to.length≤maxLen) :
  FP G 378 [FL f,TF t,.agg [.int .i64 a,.int .i64 b,.int .i64 c]] (.bool (zdN f t a b c)):=by
 refine zak HasL24k.h_hurdlelaw24_Great (Nat.le_of_ble_eq_true rfl) ?_
 have hg:=zrx (G:=G) t hl hk
 simp only[TF] at hg
 by_cases c1:60<f.length
 ·have c1':((60:Int)<(f.length:Int))=True:=eq_true (by omega)
  simp[FL,TF,c1,c1',zdN]
 ·have c1':((60:Int)<(f.length:Int))=False:=eq_false (by omega)
  simp[FL,TF,c1']
  refine zab hg ?_
  cases h2:zeA t with
  | true=>simp[zdN,c1,h2]
  | false =>
   by_cases c3:8<a
   ·simp[zdN,c1,h2,c3]
   ·by_cases c4:40<b
    ·simp[zdN,c1,h2,c3,c4]
    ·by_cases c5:5<c<;>simp[zdN,c1,h2,c3,c4,c5]
def zhl(f:List In4):Bool:=f.any fun x=>decide (x.op=60)
theorem zo3[HasR24d G](f:List In4)(hl:f.length≤1000000):FP G 377 [FL f] (.bool (zhl f)):=by
 refine zak HasR24d.h_hurdleref24_Divides (Nat.le_of_ble_eq_true rfl) ?_
 simp[FL]
 refine W_up f.length (fun i=>[(0,FL f),(3,.int .i64 i)]) (fun _=>[]) (fun i=>∀ j<i,∀ x,f[j]?=some x→x.op≠60) ?_ ?_
 ·simp[zaa,zad,FL]
 intro i hi hP
 by_cases hlt:i<f.length
 ·obtain⟨x,hfx⟩:∃ x,x=f[i]:=⟨_,rfl⟩
  have hg:f[i]?=some x:=by rw[hfx]; exact List.getElem?_eq_getElem hlt
  have hgg:=zbk hlt
  rw[←hfx] at hgg
  have x0:x.cs.take 1=[.int .i64 x.op]:=rfl
  have hxl:x.cs.length=4:=rfl
  by_cases c1:x.op=60
  ·have hd:zhl f=true:=List.any_eq_true.2 ⟨x,List.mem_of_getElem? hg,by simp[c1]⟩
   simp(disch:=omega)[ltT,FL,hgg,hfx.symm,hxl,x0,c1,hd]
  ·have hn:∀ j<i+1,∀ x,f[j]?=some x→x.op≠60:=fun j hj y hy=>by
    rcases Nat.lt_succ_iff_lt_or_eq.1 hj with h|rfl
    ·exact hP j h y hy
    ·rw[hg] at hy; cases hy; exact c1
   have c1':=beqF c1
   simp(disch:=omega)[ltT,FL,hgg,hfx.symm,hxl,x0,c1',hlt,zag,zaa,zad,-Int.natCast_add]
   exact hn
 ·have hne:i=f.length:=by omega
  subst hne
  have hd:zhl f=false:=by
   rw[zhl,List.any_eq_false]
   intro x hx
   obtain⟨j,hj⟩:=List.getElem?_of_mem hx
   have:=hP j (List.getElem?_eq_some_iff.1 hj).1 x hj
   simpa using this
  simp[FL,hd]
end Go.Ev
/- Layer 24: the law OptMeans. -/
namespace Go.Ev
open Go Go.RowKit
variable {G:Tbl}
theorem zqv{t:List TR}(h:∀ r∈t,r.ok):TblK t:=fun r hr=>⟨(h r hr).2.2.1,(h r hr).2.2.2.1,(h r hr).2.2.2.2⟩
theorem znm{t:List TR}(h:TblK t):TblK (goodT t):=by
 unfold goodT
 split
 ·exact h
 ·intro r hr; cases hr
theorem zsP{f:List In4}{t:List TR}{a b c:Int}(h:zdN f t a b c=false):f.length≤60∧t.length≤100∧∀ r∈t,r.fr.length≤100∧r.to.length≤100:=by
 simp only[zdN,zeA,Bool.or_eq_false_iff,decide_eq_false_iff_not,List.any_eq_false] at h
 obtain⟨⟨⟨⟨h1,h2,h3⟩,_⟩,_⟩,_⟩:=h
 refine⟨by omega,by omega,fun r hr=>?_⟩
 have:=h2 r hr
 simp only[Bool.or_eq_true,decide_eq_true_eq,not_or] at this
 omega
theorem zxI{f:List In4}{t:List TR}(rnds tries most:Int)(hs:zao f=true)(hk:∀ x∈f,x.k<4294967296)(ht:TblK t):AllOk (prune f) (goodT t) (optR f t rnds tries most) :=
 zni _ (zk7 hs).1 (zqu hk) (znm ht)
theorem zpT[HasWd G][HasNeg G][HasIns G][HasCheck G][HasData G][HasWith G][HasStep G][HasWRight G][HasWinRun G][HasWinAsg G][HasWinState G][HasWinOf G][HasAffApart G][HasAffine G][hBA:HasBitsA G][HasSymNew G][HasSym G][HasSymEval G][HasSymApart G][HasDecDf G][HasDec G][HasSrcN G][HasSrcL G][HasSrcC G][HasSrcF G][HasTells G][HasLive G][HasSpl G][HasEnc G][HasTbl G][HasPru G][HasOpt G]
  [HasR2 G][HasR5 G][hR1:HasR1 G][HasR1n G][HasR4 G][HasR6s G][HasR6 G][HasR6r G][HasR24d G][HasL21 G][HasL24k G][HasL24 G]
  (hkn:FP G 379 [] (.bool true)) (f:List In4) (t:List TR) (a b c:Int) (d:Da) (hf:f.length≤maxLen) (hk:∀ x∈f,x.k<4294967296) (hl:t.length≤maxLen) (htk:∀ r∈t,r.ok) (hd:d.ok) :
  FP G 381 [FL f,TF t,.agg [.int .i64 a,.int .i64 b,.int .i64 c],DV d] (.bool true):=by
 refine zak HasL24.h_hurdlelaw24_OptMeans (Nat.le_of_ble_eq_true rfl) ?_
 have hgr:=zry (G:=G) f t a b c hl (fun r hr=>⟨(htk r hr).1,(htk r hr).2.1⟩)
 have dl:=zii hd
 have dt:=List.take_of_length_le (i:=9) (l:=d.cs) (by omega)
 have dn:=zf8 d
 have dk:=fun n=>zdD d n
 have hso:=zmX (G:=G) f hf hk
 simp only[FL,TF] at hgr hso
 simp[FL,TF,DV,dn]
 refine zab hgr ?_
 cases hg:zdN f t a b c with
 | true =>
  simp
  refine zab hkn ?_
  simp
 | false =>
 simp
 refine zab hso ?_
 cases hs:zao f with
 | false =>
  simp
  refine zab hkn ?_
  simp
 | true =>
 obtain⟨l1,l2,l3⟩:=zsP hg
 have hop:=zkK (G:=G) f t a b c hs hk ⟨by omega,htk⟩ (znm (zqv htk))
 have ok:=zxI a b c hs hk (zqv htk)
 obtain⟨p1,p2,p3,p4⟩:=zk7 hs
 obtain⟨Q,hQ⟩:∃ Q,Q=optR f t a b c:=⟨_,rfl⟩
 rw[←hQ] at hop ok
 obtain⟨⟨F,T⟩,n,dn'⟩:=Q
 have os:=ok.sound
 have okk:=ok.k
 have ol:=ok.len
 have orn:=ok.run d hd
 simp only at os okk ol orn hop
 have hFl:F.length≤60:=by omega
 have hso2:=zmX (G:=G) F (by simp only[maxLen]; omega) okk
 have hrf:=zqz (G:=G) f d hk hs hd
 have hrg:=zqz (G:=G) F d okk os hd
 have hdv:=zo3 (G:=G) f (by omega)
 rw[os] at hso2
 simp only[FL,TF,DV,ResC] at hop hso2 hrf hrg hdv
 simp
 refine zab hop ?_
 simp[zaa,dk]
 refine zab hso2 ?_
 have hlen:((f.length:Int)<(F.length:Int))=False:=eq_false (by omega)
 simp[hlen,dl,dt,dn,dk,zaa]
 refine zab hrf ?_
 simp[dl,dt,dk,dn]
 refine zab hrg ?_
 obtain⟨o1,o2⟩:=orn
 rw[p4] at o1 o2
 rw[o1]
 have hdd:zhl f=false→(run d F St0).2≤(run d f St0).2:=fun h=>o2 fun y hy=>by
  obtain⟨z,hz,he,_⟩:=zkk hy
  have:=List.any_eq_false.1 h z hz
  rw[he]
  simpa using this
 generalize(run d f St0).2=r1 at *
 generalize(run d F St0).2=r2 at *
 by_cases hle:r2≤r1
 ·have hi:((r2:Int)≤(r1:Int))=True:=eq_true (by omega)
  simp[hi]
  refine zab hkn ?_
  simp
 ·have hi:((r2:Int)≤(r1:Int))=False:=eq_false (by omega)
  have hdt:zhl f=true:=by
   cases h:zhl f with
   | true=>rfl
   | false=>exact absurd (hdd h) hle
  rw[hdt] at hdv
  simp[hi]
  refine zab hdv ?_
  simp
  refine zab hkn ?_
  simp
end Go.Ev
/- Layer 24: the examples. -/
namespace Go.Ev
open Go Go.RowKit
variable {G:Tbl}
def nn:List In4:=[⟨132,0,0,0⟩,⟨132,0,0,0⟩]
def RA:In4:=⟨22,0,0,0⟩
def ex24:List In4:=nn++[RA]
theorem zsQ:zao ex24=true:=by decide +kernel
theorem zxJ:∀ x∈ex24,x.k<4294967296:=by decide
theorem nn_w:winB nn=true:=by decide +kernel
theorem zuK:AllP ex24:=by
 intro i h0 hi
 have:i=1∨i=2:=by simp[ex24,nn] at hi; omega
 rcases this with rfl|rfl
 ·exact⟨0,⟨132,0,0,0⟩,0,rfl,by decide,rfl⟩
 ·exact⟨1,⟨132,0,0,0⟩,0,rfl,by decide,rfl⟩
theorem zsR:rows ex24 4 3=[(0,2)]:=by kernel_rfl
theorem zwr:rows [RA] 4 1=[]:=by kernel_rfl
theorem zsS:zkj ex24 0 2=1:=by kernel_rfl
theorem zuL:putL ex24 0 2 []=[RA]:=by kernel_rfl
theorem zsT:zcy (winV [] nn).p (winV (winV [] nn).L []).p (winV [] nn).st (winV (winV [] nn).L []).st 1=true:=by kernel_rfl
theorem zsU:findR nn 1 9=some []:=by
 refine zx6 (k:=0) (zvD (by decide)) (by decide) ?_ fun j hj=>by omega
 have:=zvi (v:=nn) (w:=[]) (live:=1) nn_w (by decide +kernel)
 rw[zsT] at this
 simpa using this
def r24:TR:=⟨nn,[],1⟩
theorem zrz:zbg [] r24=([r24],0):=by kernel_rfl
theorem zuM:optR ex24 [] 9 9 4=(([RA],[r24]),1,true):=by
 have h1:zcN ex24 [] 9 4=some ([RA],[r24]):=by
  rw[zcN,show ex24.length=3 from rfl,zsR]
  have hp:zc0 ex24 0 2=nn:=rfl
  have hf:zcr nn [] 1 9=some []:=by
   rw[zcr,show zfa [] nn 1=none from rfl]
   exact zsU
  have ht:tryP ex24 [] 9 (0,2)=some ([RA],[r24]):=by
   rw[tryP,hp,zsS,hf,Option.map_some,zuL]
   rw[show(⟨nn,[],1⟩:TR)=r24 from rfl,zrz]
  rw[List.findSome?_cons,ht]
 have h2:zcN [RA] [r24] 9 4=none:=by
  rw[zcN,show [RA].length=1 from rfl,zwr]; rfl
 rw[optR,zrw zsQ zuK,show goodT []=[] from rfl,show zcj 9 0 1000=9 from rfl,show zcj 4 0 32=4 from rfl,show Int.toNat 9=8+1 from rfl,zbR,h1]
 simp only[]
 rw[zbR,h2]
theorem zrA[HasWd G][HasNeg G][HasIns G][HasCheck G][HasData G][HasWith G][HasStep G][HasWRight G][HasWinRun G][HasWinAsg G][HasWinState G][HasWinOf G][HasAffApart G][HasAffine G][hBA:HasBitsA G][HasSymNew G][HasSym G][HasSymEval G][HasSymApart G][HasDecDf G][HasDec G][HasSrcN G][HasSrcL G][HasSrcC G][HasSrcF G][HasTells G][HasLive G][HasSpl G][HasEnc G][HasTbl G][HasPru G][HasOpt G][HasL24k G]
  (p1:FP G 148 [.str [110,101,103,10,110,101,103,10,114,101,116,97,10]] (.tup [FL ex24,.int .i64 0,.int .i64 0])):FP G 379 [] (.bool true):=by
 refine zak HasL24k.h_hurdlelaw24_knows (Nat.le_of_ble_eq_true rfl) ?_
 have hop:=zkK (G:=G) ex24 [] 9 9 4 zsQ zxJ ⟨by decide,fun r hr=>by cases hr⟩ (fun r hr=>by cases hr)
 rw[zuM] at hop
 have hex:IL [RA]=[[.int .i64 22,.int .i64 0,.int .i64 0,.int .u32 0]]:=rfl
 have hae:=aeq4 RA RA
 simp only[decide_true,In4.cs,RA] at hae
 simp only[FL,TF,ResC,hex,show TL []=[] from rfl] at p1 hop
 simp
 refine zab p1 ?_
 simp
 refine zab hop ?_
 simp[zaa]
end Go.Ev
