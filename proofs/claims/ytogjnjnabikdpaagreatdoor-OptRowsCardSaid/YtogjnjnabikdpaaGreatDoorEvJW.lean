/- More operations: what is alike, texts, maps. -/
import Derived.Laws.StructEq
import Derived.Laws.RangeAny
import Derived.ChangeKeysEq
import Derived.MapKept
import Derived.Lib.OthersKept
import Derived.Test.YtogjnjnabikdpaaGreatDoorEvEW
import Derived.Carry
import Derived.Laws.BytesString
import Derived.RangeFuncLeaves
import Derived.RangeFuncIn
import Derived.RangeFuncRecord
import Derived.OrdersIn
import Derived.TacticsIn
set_option linter.unusedSimpArgs false
set_option linter.unusedVariables false
namespace Go.Ev
open Go Go.RowKit
variable {P:Program} {M M':Mm} {H H1:Heap} {w w':World}
variable {e:Env} {a:Act} {n:Nat} {o:Oper} {v:V}
def tyAg(P:Program)(t:TypeId):Bool:=match P.underlying t with|some d=>d.isRow|none=>false
def zky(p:TypeId→Option (List Kd)):Nat→List Field→Option (List Kd)
 | _,[]=>some []
 | off, f :: fs => if f.name ≠ "_" ∧ f.offset = off then
   match p f.type with
   | some ks=>match zky p (off+ks.length) fs with
    | some rs=>some (ks++rs)
    | none=>none
   | none=>none
  else none
def zcm(P:Program):Nat→TypeId→Option (List Kd)
 | 0,_=>none
 | k+1,t =>
  match(match P.underlying t with
   | some (.int _)=>some [Kd.int]
   | some .bool=>some [Kd.bool]
   | some .string=>some [Kd.str]
   | some (.struct fs)=>if P.stoodInHeld t=false then zky (zcm P k) 0 fs.toList else none
   | some (.array m el)=>match zcm P k el with
    | some ks=>some (List.replicate m ks).flatten
    | none=>none
   | _=>none) with
  | some ks=>if tyOk P t ks.length (tyAg P t)=true then some ks else none
  | none=>none
theorem zln{k:Nat}{t:TypeId}{ks:List Kd}(h:zcm P k t=some ks):tyOk P t ks.length (tyAg P t)=true:=by
 cases k with
 | zero=>simp[zcm] at h
 | succ k =>
  simp only[zcm] at h
  split at h
  ·split at h
   ·rename_i h2; cases h; exact h2
   ·cases h
  ·cases h
theorem zfR:∀{ks:List Kd} {cs ds:List V} {b:Bool},eqks ks cs ds=some b→cs.length=ks.length∧ds.length=ks.length
 | [],[],[],_,_=>⟨rfl,rfl⟩
 | [],[],_::_,_,h=>by simp[eqks] at h
 | [],_::_,_,_,h=>by simp[eqks] at h
 | _::_,[],_,_,h=>by simp[eqks] at h
 | _::_,_::_,[],_,h=>by simp[eqks] at h
 | k::ks,c::cs,d::ds,b,h=>by
  simp only[eqks] at h
  split at h
  ·rename_i x y hx hy
   have:=zfR hy
   simp[this.1,this.2]
  ·cases h
theorem zeg:∀{ks rs:List Kd} {cs ds:List V} {b:Bool},eqks (ks++rs) cs ds=some b →
  ∃ x y,eqks ks (cs.take ks.length) (ds.take ks.length)=some x∧eqks rs (cs.drop ks.length) (ds.drop ks.length)=some y∧b=(x&&y)
 | [],rs,cs,ds,b,h=>⟨true,b,by simp[eqks],by simpa using h,by simp⟩
 | k::ks,rs,[],_,b,h=>by simp[eqks] at h
 | k::ks,rs,_::_,[],b,h=>by simp[eqks] at h
 | k::ks,rs,c::cs,d::ds,b,h=>by
  simp only[List.cons_append,eqks] at h
  split at h
  ·rename_i x y hx hy
   obtain⟨x',y',h1,h2,rfl⟩:=zeg hy
   simp only[Option.some.injEq] at h
   refine⟨x&&x',y',?_,by simpa using h2,by rw[←h,Bool.and_assoc]⟩
   simp only[List.length_cons,List.take_succ_cons,eqks,hx,h1]
  ·cases h
def EqOk(P:Program)(d:Nat)(t:TypeId)(ks:List Kd):Prop :=
 ∀(M:Mm) (w w2:World) (cs ds:List V) (xs ys:List Value) (b:Bool),EncL M w cs xs→EncL M w ds ys→eqks ks cs ds=some b →
  (Op.equalIn d t (mkR (tyAg P t) xs) (mkR (tyAg P t) ys)).run P w2=.ok b w2
theorem zc6{t:TypeId}{sz off:Nat}{ag:Bool}{xs:List Value}(hty:tyOk P t sz ag=true)(hl:off+sz≤xs.length) :
  (part t xs.toArray off).run P w=.ok (mkR ag ((xs.drop off).take sz)) w:=by
 have:=zhZ (P:=P) (w:=w) (xs:=xs.toArray) hty (by simpa using hl)
 simpa using this
theorem zk5{d:Nat}{p:TypeId→Option (List Kd)}(hp:∀ t ks,p t=some ks→tyOk P t ks.length (tyAg P t)=true∧EqOk P d t ks):∀{fs:List Field} {off:Nat} {ks:List Kd} {cs ds:List V} {xs ys:List Value} {b:Bool} {M:Mm} {w w2:World},
  zky p off fs=some ks→EncL M w cs xs→EncL M w ds ys→off≤xs.length→off≤ys.length→eqks ks (cs.drop off) (ds.drop off)=some b→(Op.eqFields d xs.toArray ys.toArray fs).run P w2=.ok b w2
 | [],off,ks,cs,ds,xs,ys,b,M,w,w2,hk,hx,hy,hxl,hyl,h=>by
  simp only[zky,Option.some.injEq] at hk
  subst hk
  have:b=true:=by
   cases hc:cs.drop off<;>cases hd:ds.drop off<;>rw[hc,hd] at h<;>simp[eqks] at h
   exact h
  subst this
  simp[Op.eqFields]
 | f::fs,off,ks,cs,ds,xs,ys,b,M,w,w2,hk,hx,hy,hxl,hyl,h=>by
  simp only[zky] at hk
  split at hk
  case isFalse=>cases hk
  rename_i hf
  obtain⟨hname,hoff⟩:=hf
  split at hk
  case h_2=>cases hk
  rename_i k1 hk1
  split at hk
  case h_2=>cases hk
  rename_i rs hrs
  cases hk
  obtain⟨hty,heq⟩:=hp _ _ hk1
  obtain⟨x,y,h1,h2,rfl⟩:=zeg h
  have hcl:=zah hx
  have hdl:=zah hy
  obtain⟨l1,l2⟩:=zfR h1
  simp only[List.length_take,List.length_drop] at l1 l2
  have px:=zc6 (P:=P) (w:=w2) (off:=off) (xs:=xs) hty (by omega)
  have py:=zc6 (P:=P) (w:=w2) (off:=off) (xs:=ys) hty (by omega)
  have pe:=heq M w w2 _ _ _ _ x (zbh (zbr hx off) k1.length) (zbh (zbr hy off) k1.length) h1
  have ih:=zk5 (w2:=w2) hp hrs hx hy (by omega) (by omega) (by simpa[List.drop_drop] using h2)
  simp only[Op.eqFields,hoff]
  rw[if_pos hname]
  simp only[Sem.run_bind,px,py,pe,Result.andThen_ok]
  cases x
  ·simp
  ·simpa using ih
theorem zl0{d:Nat}{el:TypeId}{ks:List Kd}(hty:tyOk P el ks.length (tyAg P el)=true)(heq:EqOk P d el ks):∀{m off:Nat} {cs ds:List V} {xs ys:List Value} {b:Bool} {M:Mm} {w w2:World},
  EncL M w cs xs→EncL M w ds ys→off*ks.length≤xs.length→off*ks.length≤ys.length→eqks (List.replicate m ks).flatten (cs.drop (off*ks.length)) (ds.drop (off*ks.length))=some b →
  (Op.eqItems d el ks.length xs.toArray ys.toArray (List.range' off m)).run P w2=.ok b w2
 | 0,off,cs,ds,xs,ys,b,M,w,w2,hx,hy,hxl,hyl,h=>by
  simp only[List.replicate_zero,List.flatten_nil] at h
  have:b=true:=by
   cases hc:cs.drop (off*ks.length)<;>cases hd:ds.drop (off*ks.length)<;>rw[hc,hd] at h<;>simp[eqks] at h
   exact h
  subst this
  simp[Op.eqItems]
 | m+1,off,cs,ds,xs,ys,b,M,w,w2,hx,hy,hxl,hyl,h=>by
  rw[List.replicate_succ,List.flatten_cons] at h
  obtain⟨x,y,h1,h2,rfl⟩:=zeg h
  have hcl:=zah hx
  have hdl:=zah hy
  obtain⟨l1,l2⟩:=zfR h1
  simp only[List.length_take,List.length_drop] at l1 l2
  have px:=zc6 (P:=P) (w:=w2) (off:=off*ks.length) (xs:=xs) hty (by omega)
  have py:=zc6 (P:=P) (w:=w2) (off:=off*ks.length) (xs:=ys) hty (by omega)
  have pe:=heq M w w2 _ _ _ _ x (zbh (zbr hx _) ks.length) (zbh (zbr hy _) ks.length) h1
  have hnext:(off+1)*ks.length=off*ks.length+ks.length:=by rw[Nat.add_mul,Nat.one_mul]
  have ih:=zl0 (w2:=w2) (m:=m) (off:=off+1) hty heq hx hy (by omega) (by omega) (by rw[hnext]; simpa[List.drop_drop] using h2)
  rw[List.range'_succ]
  simp only[Op.eqItems,Sem.run_bind,px,py,pe,Result.andThen_ok]
  cases x
  ·simp
  ·simpa using ih
theorem zlo:∀{k:Nat} {t:TypeId} {ks:List Kd} {d:Nat},zcm P k t=some ks→k≤d→EqOk P d t ks
 | 0,t,ks,d,h,_=>by simp[zcm] at h
 | k+1,t,ks,0,h,hd=>by omega
 | k+1,t,ks,d+1,h,hd=>by
  have hok:=zln h
  have sub:∀ t ks,zcm P k t=some ks→tyOk P t ks.length (tyAg P t)=true∧EqOk P d t ks:=fun t ks h=>⟨zln h,zlo h (by omega)⟩
  simp only[zcm] at h
  split at h
  case h_2=>cases h
  rename_i ks' hks
  split at h
  case isFalse=>cases h
  cases h
  intro M w w2 cs ds xs ys b hx hy he
  obtain⟨lc,ld⟩:=zfR he
  have hxl:=zah hx
  have hyl:=zah hy
  have one:∀{kd:Kd},ks=[kd]→∃ c d x y,cs=[c]∧ds=[d]∧xs=[x]∧ys=[y]∧Enc M w c x∧Enc M w d y∧eqk kd c d=some b:=by
   intro kd hkd
   subst hkd
   obtain⟨c,rfl⟩:=List.length_eq_one_iff.1 lc
   obtain⟨d',rfl⟩:=List.length_eq_one_iff.1 ld
   simp only[EncL] at hx hy
   obtain⟨x,_,rfl,h1,rfl⟩:=hx
   obtain⟨y,_,rfl,h2,rfl⟩:=hy
   refine⟨c,d',x,y,rfl,rfl,rfl,rfl,h1,h2,?_⟩
   simp only[eqks] at he
   split at he
   ·rename_i u v hu hv
    simp only[Option.some.injEq] at hv he
    subst hv
    rw[hu,←he,Bool.and_true]
   ·cases he
  split at hks
  ·rename_i k0 hu
   have hag:tyAg P t=false:=by simp[tyAg,hu,TypeDesc.isRow]
   simp only[Option.some.injEq] at hks
   obtain⟨c,d',x,y,rfl,rfl,rfl,rfl,h1,h2,h3⟩:=one hks.symm
   rw[hag]
   cases c<;>cases d'<;>simp only[eqk,reduceCtorEq] at h3
   split at h3
   ·rename_i hk; subst hk
    simp only[Option.some.injEq] at h3
    subst h3
    simp only[Enc] at h1 h2
    subst h1; subst h2
    exact run_equalIn_int w2 d t _ _ _ _ hu
   ·cases h3
  ·rename_i hu
   have hag:tyAg P t=false:=by simp[tyAg,hu,TypeDesc.isRow]
   simp only[Option.some.injEq] at hks
   obtain⟨c,d',x,y,rfl,rfl,rfl,rfl,h1,h2,h3⟩:=one hks.symm
   rw[hag]
   cases c<;>cases d'<;>simp only[eqk,reduceCtorEq,Option.some.injEq] at h3
   subst h3
   simp only[Enc] at h1 h2
   subst h1; subst h2
   exact run_equalIn_bool w2 d t _ _ hu
  ·rename_i hu
   have hag:tyAg P t=false:=by simp[tyAg,hu,TypeDesc.isRow]
   simp only[Option.some.injEq] at hks
   obtain⟨c,d',x,y,rfl,rfl,rfl,rfl,h1,h2,h3⟩:=one hks.symm
   rw[hag]
   cases c<;>cases d'<;>simp only[eqk,reduceCtorEq,Option.some.injEq] at h3
   subst h3
   simp only[Enc] at h1 h2
   subst h1; subst h2
   show(Op.equalIn (d+1) t (.string _) (.string _)).run P w2=_
   rw[run_equalIn_string w2 d t _ _ hu]
   simp
  ·rename_i fs hu
   have hag:tyAg P t=true:=by simp[tyAg,hu,TypeDesc.isRow]
   split at hks
   case isFalse=>cases hks
   rename_i hst
   rw[hag]
   have hfs:P.fieldsOf t=fs:=by simp[Program.fieldsOf,hu]
   have:=run_equalIn_struct (P:=P) w2 d t xs.toArray ys.toArray (by rw[hfs]; exact hu) hst
   simp only[mkR,if_true]
   rw[this,hfs]
   exact zk5 sub hks hx hy (Nat.zero_le _) (Nat.zero_le _) (by simpa using he)
  ·rename_i m el hu
   have hag:tyAg P t=true:=by simp[tyAg,hu,TypeDesc.isRow]
   split at hks
   case h_2=>cases hks
   rename_i k1 hk1
   simp only[Option.some.injEq] at hks
   rw[hag]
   obtain⟨hty,heq⟩:=sub _ _ hk1
   have hty':=hty
   unfold tyOk at hty'
   split at hty'
   case h_2=>cases hty'
   rename_i _ i hi0 hi
   simp only[Bool.and_eq_true,beq_iff_eq] at hty'
   have hcell:P.cellsOf el=k1.length:=by
    have:=run_sizeOf (P:=P) w hi
    have h2:(sizeOf el).run P w=.ok i.size w:=by simp[sizeOf,typeInfo,hi]
    rw[h2] at this
    simp only[Result.ok.injEq,and_true] at this
    rw[←this]; exact hty'.1
   have:=run_equalIn_array (P:=P) w2 d xs.toArray ys.toArray hu hi
   simp only[mkR,if_true]
   rw[this,hcell,List.range_eq_range']
   exact zl0 hty heq hx hy (by simp) (by simp) (by rw[hks]; simpa using he)
  ·cases hks
theorem zxh{xt yt:TypeId}{x y:Operand}{sx sy:X}{base:Nat}{neg:Bool}{ks:List Kd}(ho:o.op=.binOp (if neg then .neq else .eql) xt x y yt)(hx:chkX M.fm x sx=true)(hy:chkX M.fm y sy=true)
  (hk:zcm P 20 xt=some ks) (hg:P.eqGuardType P.depth xt=false) (hag:tyAg P xt=true) (ht:RelT M w e a n) (hr:HRel M w H) (hv:ev1 base e H (.aeq ks neg sx sy)=some (v,H1)):OpOk P o a M H w v H1:=by
 have hx':=zam hx ht
 have hy':=zam hy ht
 simp only[ev1] at hv
 split at hv
 case h_2=>cases hv
 rename_i cs ds hp hq
 split at hv
 case h_2=>cases hv
 rename_i b hb
 cases hv
 rw[hp] at hx'
 rw[hq] at hy'
 simp only[Enc] at hx' hy'
 obtain⟨_,xs,hxe,hxs⟩:=hx'
 obtain⟨_,ys,hye,hys⟩:=hy'
 have he:=zlo (P:=P) (d:=10000) hk (by omega) M w w cs ds xs ys b hxs hys hb
 rw[hag] at he
 simp only[mkR,if_true] at he
 refine .plain (rv:=.bool (if neg then !b else b)) hr ?_ (by simp only[Enc])
 cases neg
 ·simp only[execOp,ho,hxe,hye,Sem.run_bind,Bool.false_eq_true,if_false,run_eqGuard_agg w _ xt x y _ _ hg,Result.andThen_ok,run_eql_struct,he]; rfl
 ·simp only[execOp,ho,hxe,hye,Sem.run_bind,if_true,run_eqGuard_agg w _ xt x y _ _ hg,Result.andThen_ok,run_neq_struct,he]; rfl
def zrd(P:Program)(k:Nat)(t:TypeId)(y:Operand):Bool :=
 match k,P.underlying t,y with
 | 0,some (.func _ _ _),.const .nilFunc=>true
 | 1,some (.pointer _),.const (.pointer none)=>true
 | 2,some (.map _ _),.const (.map none)=>true
 | _,_,_=>false
theorem zsp(d:Nat){t:TypeId}{p q:Array TypeId}{r:Bool}(hu:P.underlying t=some (.func p q r))(f:Fn)(g h:Array Value):(Op.equalIn (d+1) t (.func f g h) .nilFunc).run P w=.ok false w:=by
 simp[Op.equalIn,run_underlying hu]
theorem zpL(d:Nat){t:TypeId}{p q:Array TypeId}{r:Bool}(hu:P.underlying t=some (.func p q r)):(Op.equalIn (d+1) t .nilFunc .nilFunc).run P w=.ok true w:=by
 simp[Op.equalIn,run_underlying hu]
theorem zpM(d:Nat){t p:TypeId}(hu:P.underlying t=some (.pointer p)):(Op.equalIn (d+1) t (.pointer none) (.pointer none)).run P w=.ok true w:=by
 simp[Op.equalIn,run_underlying hu]
theorem zl1(d:Nat){t p:TypeId}(hu:P.underlying t=some (.pointer p))(b:Addr):(Op.equalIn (d+1) t (.pointer (some b)) (.pointer none)).run P w=.ok false w:=by
 simp[Op.equalIn,run_underlying hu]
theorem zre(d:Nat){t p q:TypeId}(hu:P.underlying t=some (.map p q))(b:Nat):(Op.equalIn (d+1) t (.map (some b)) (.map none)).run P w=.ok false w:=by
 simp[Op.equalIn,run_underlying hu]
theorem zpN(d:Nat){t p q:TypeId}(hu:P.underlying t=some (.map p q)):(Op.equalIn (d+1) t (.map none) (.map none)).run P w=.ok true w:=by
 simp[Op.equalIn,run_underlying hu]
theorem zfS{xt yt:TypeId}{x y:Operand}{xv yv:Value}{b neg:Bool}(ho:o.op=.binOp (if neg then .neq else .eql) xt x y yt)(h1:a.eval x=xv)(h2:a.eval y=yv)(hr:HRel M w H)
  (hg:∀ op,(eqGuard op xt x y xv yv).run P w=.ok () w) (he:binOp .eql xt xv yv=(do pure (.bool (←Op.equal xt xv yv)))) (hn:binOp .neq xt xv yv=(do pure (.bool (!(←Op.equal xt xv yv)))))
  (hq:∀ d,(Op.equalIn (d+1) xt xv yv).run P w=.ok b w):OpOk P o a M H w (.bool (if neg then !b else b)) H:=by
 have hq':(Op.equal xt xv yv).run P w=.ok b w:=hq 9999
 refine .plain (rv:=.bool (if neg then !b else b)) hr ?_ (by simp only[Enc])
 cases neg
 ·simp only[execOp,ho,h1,h2,Sem.run_bind,Bool.false_eq_true,if_false,hg,Result.andThen_ok,he,hq',Sem.run_pure]
 ·simp only[execOp,ho,h1,h2,Sem.run_bind,if_true,hg,Result.andThen_ok,hn,hq',Sem.run_pure]
theorem zt8{xt yt:TypeId}{x y:Operand}{sx:X}{base k:Nat}{neg:Bool}(ho:o.op=.binOp (if neg then .neq else .eql) xt x y yt)(hx:chkX M.fm x sx=true)
  (hk:zrd P k xt y=true) (ht:RelT M w e a n) (hr:HRel M w H) (hv:ev1 base e H (.nileq k neg sx)=some (v,H1)):OpOk P o a M H w v H1:=by
 have hx':=zam hx ht
 have tt:neg=(if neg=true then !false else false):=by cases neg<;>rfl
 have ff:(!neg)=(if neg=true then !true else true):=by cases neg<;>rfl
 unfold zrd at hk
 split at hk
 case h_4=>cases hk
 all_goals
  rename_i hu
  simp only[ev1] at hv
  cases hp:sx.ev e<;>rw[hp] at hv hx'<;>simp only[reduceCtorEq,Option.some.injEq,Prod.mk.injEq] at hv
  all_goals
   obtain⟨rfl,rfl⟩:=hv
   simp only[Enc] at hx'
 ·obtain⟨xs,hxe,_⟩:=hx'
  rw[tt]
  exact zfS ho hxe rfl hr (fun op=>by unfold eqGuard; cases op<;>simp) rfl rfl (fun d=>zsp d hu _ _ _)
 ·rw[ff]
  exact zfS ho hx' rfl hr (fun op=>by unfold eqGuard; cases op<;>simp) rfl rfl (fun d=>zpL d hu)
 ·rw[ff]
  exact zfS ho hx' rfl hr (fun op=>by unfold eqGuard; cases op<;>simp) rfl rfl (fun d=>zpM d hu)
 ·obtain⟨_,hxe⟩:=hx'
  rw[tt]
  exact zfS ho hxe rfl hr (fun op=>by unfold eqGuard; cases op<;>simp) rfl rfl (fun d=>zl1 d hu _)
 ·obtain⟨_,b,off,hxe,_⟩:=hx'
  rw[tt]
  exact zfS ho hxe rfl hr (fun op=>by unfold eqGuard; cases op<;>simp) rfl rfl (fun d=>zl1 d hu _)
 ·obtain⟨_,hxe⟩:=hx'
  rw[tt]
  exact zfS ho hxe rfl hr (fun op=>by unfold eqGuard; cases op<;>simp) rfl rfl (fun d=>zre d hu _)
 ·rw[ff]
  exact zfS ho hx' rfl hr (fun op=>by unfold eqGuard; cases op<;>simp) rfl rfl (fun d=>zpN d hu)
theorem zql{mx:Bool}{k:IntKind}:∀{xs:List X} {os:List Operand} {p:Int} {u:V},zby M.fm os xs=true→RelT M w e a n→mmGo e mx k p xs=some u →
  ((os.map a.eval).foldlM (if mx then Builtin.max2 else Builtin.min2) (.int k p)).run P w=.ok (zbY u) w∧Enc M w u (zbY u)
 | [],[],p,u,_,_,h=>by
  simp only[mmGo,Option.some.injEq] at h
  subst h
  exact⟨by simp[zbY],by simp only[Enc,zbY]⟩
 | [],_::_,_,_,hc,_,_=>by simp[zby] at hc
 | _::_,[],_,_,hc,_,_=>by simp[zby] at hc
 | x::xs,o::os,p,u,hc,ht,h=>by
  simp only[zby,Bool.and_eq_true] at hc
  simp only[mmGo] at h
  split at h
  case h_2=>cases h
  rename_i k' b hx
  split at h
  case isFalse=>cases h
  rename_i hk
  subst hk
  have hxe:=zam hc.1 ht
  rw[hx] at hxe
  simp only[Enc] at hxe
  obtain⟨h1,h2⟩:=zql hc.2 ht h
  refine⟨?_,h2⟩
  rw[List.map_cons,List.foldlM_cons,Sem.run_bind,hxe]
  cases mx
  ·simp only[Bool.false_eq_true,if_false] at h1 ⊢
   simp only[Builtin.min2,Sem.run_pure,Result.andThen_ok]
   simpa[mmI] using h1
  ·simp only[if_true] at h1 ⊢
   simp only[Builtin.max2,Sem.run_pure,Result.andThen_ok]
   simpa[mmI] using h1
theorem zAO{mx:Bool}{args:Array Operand}{ts:Array TypeId}{xs:List X}{base:Nat}(ho:o.op=.call { callee:=.builtin (if mx then .max else .min),args:=args,argTypes:=ts })(hx:zby M.fm args.toList xs=true)
  (ht:RelT M w e a n) (hr:HRel M w H) (hv:ev1 base e H (.mm mx xs)=some (v,H1)):OpOk P o a M H w v H1:=by
 simp only[ev1] at hv
 split at hv
 case h_2=>cases hv
 rename_i x xs
 split at hv
 case h_2=>cases hv
 rename_i k p hp
 rw[Option.map_eq_some_iff] at hv
 obtain⟨u,hu,hv⟩:=hv
 cases hv
 cases hl:args.toList with
 | nil=>rw[hl] at hx; simp[zby] at hx
 | cons o1 os =>
  rw[hl] at hx
  simp only[zby,Bool.and_eq_true] at hx
  have h1:=zam hx.1 ht
  rw[hp] at h1
  simp only[Enc] at h1
  obtain⟨h2,h3⟩:=zql (P:=P) hx.2 ht hu
  refine .plain (rv:=zbY v) hr ?_ h3
  have hm:List.map a.eval args.toList=.int k p::os.map a.eval:=by rw[hl,List.map_cons,h1]
  cases mx
  ·simp only[Bool.false_eq_true,if_false] at h2 ho
   simp[execOp,ho,resolve,invoke,builtin,Builtin.min_,hm,h2]
  ·simp only[if_true] at h2 ho
   simp[execOp,ho,resolve,invoke,builtin,Builtin.max_,hm,h2]
theorem zv2{t:TypeId}{x y:Operand}{sx sy:X}{base:Nat}(ho:o.op=.index t x y)(hx:chkX M.fm x sx=true)(hy:chkX M.fm y sy=true)(hu:P.underlying t=some .string)
  (ht:RelT M w e a n) (hr:HRel M w H) (hv:ev1 base e H (.sidx sx sy)=some (v,H1)):OpOk P o a M H w v H1:=by
 have hx':=zam hx ht
 have hy':=zam hy ht
 simp only[ev1] at hv
 split at hv
 case h_2=>cases hv
 rename_i s k i hp hq
 split at hv
 case isFalse=>cases hv
 rename_i h0
 split at hv
 case h_2=>cases hv
 rename_i b hb
 cases hv
 rw[hp] at hx'
 rw[hq] at hy'
 simp only[Enc] at hx' hy'
 refine .plain (rv:=.int .u8 b.toNat) hr ?_ (by simp only[Enc])
 have hlt:i.toNat<s.length:=(List.getElem?_eq_some_iff.1 hb).1
 have hi:0≤i∧i<(ByteArray.mk s.toArray).size:=by rw[zeP]; omega
 have hg:(ByteArray.mk s.toArray)[i.toNat]'(by rw[zeP]; exact hlt)=b:=by
  have:=(List.getElem?_eq_some_iff.1 hb).2
  rw[←this]; rfl
 have:=run_index_string (P:=P) w t ⟨s.toArray⟩ k i hu
 rw[dif_pos hi,hg] at this
 simp[execOp,ho,hx',hy',this]
theorem zv3{t:TypeId}{x:Operand}{sx:X}{lo hi:Option Operand}{slo shi:Option X}{base:Nat}(ho:o.op=.slice t x lo hi none)(hx:chkX M.fm x sx=true)(hu:P.underlying t=some .string)
  (hlo:zbj M.fm lo slo=true) (hhi:zbj M.fm hi shi=true) (ht:RelT M w e a n) (hr:HRel M w H) (hv:ev1 base e H (.sslc sx slo shi)=some (v,H1)):OpOk P o a M H w v H1:=by
 have hx':=zam hx ht
 simp only[ev1] at hv
 split at hv
 case h_2=>cases hv
 rename_i s hp
 split at hv
 case h_2=>cases hv
 rename_i l h m hb
 cases hv
 rw[hp] at hx'
 simp only[Enc] at hx'
 refine .plain (rv:=.string ⟨((s.drop l).take (h-l)).toArray⟩) hr ?_ (by simp only[Enc])
 have hrun:=zgO (P:=P) (w:=w) (isS:=false) (len:=s.length) (cap:=s.length) hlo hhi (mx:=none) (smx:=none) rfl ht hb (Nat.le_refl _)
 simp only[Option.map_none] at hrun
 have hext:(ByteArray.mk s.toArray).extract l h=⟨((s.drop l).take (h-l)).toArray⟩:=by
  apply ByteArray.ext
  simp[ByteArray.data_extract,List.extract_eq_take_drop]
 simp[execOp,ho,hx',Instr.sliceAt,Instr.slice,run_underlying hu,zeP,hrun.2.2.2,hext]
end Go.Ev
/- Maps, and the signs of a text one by one. -/
namespace Go.Ev
open Go Go.RowKit
variable {P:Program} {M M':Mm} {H H1:Heap} {w w':World}
variable {e:Env} {a:Act} {n:Nat} {o:Oper} {v:V}
def kyOk(P:Program)(t:TypeId):Ky→Bool
 | .sc .int=>match P.underlying t with|some (.int _)=>true|_=>false
 | .sc .bool=>match P.underlying t with|some .bool=>true|_=>false
 | .sc .str=>match P.underlying t with|some .string=>true|_=>false
 | .row ks=>zcm P 20 t==some ks&&tyAg P t
def CkOk(P:Program)(d:Nat)(t:TypeId)(ks:List Kd):Prop :=
 ∀(em:Bool) (M:Mm) (w w2:World) (cs:List V) (xs:List Value) (b:Bool),EncL M w cs xs→eqks ks cs cs=some b→(Instr.checkKey em d t (mkR (tyAg P t) xs)).run P w2=.ok () w2
theorem ckOf:∀{k:Nat} {t:TypeId} {ks:List Kd} {d:Nat},zcm P k t=some ks→k≤d→CkOk P d t ks
 | 0,t,ks,d,h,_=>by simp[zcm] at h
 | k+1,t,ks,0,h,hd=>by omega
 | k+1,t,ks,d+1,h,hd=>by
  have sub:∀ t ks,zcm P k t=some ks→tyOk P t ks.length (tyAg P t)=true∧CkOk P d t ks:=fun t ks h=>⟨zln h,ckOf h (by omega)⟩
  simp only[zcm] at h
  split at h
  case h_2=>cases h
  rename_i ks' hks
  split at h
  case isFalse=>cases h
  rename_i ht0
  cases h
  clear ht0
  intro em M w w2 cs xs b hx he
  have hxl:=zah hx
  have plain:(∃ k0,P.underlying t=some (.int k0))∨P.underlying t=some .bool∨P.underlying t=some .string→(Instr.checkKey em (d+1) t (mkR (tyAg P t) xs)).run P w2=.ok () w2:=by
   intro hu
   unfold Instr.checkKey
   rcases hu with⟨k0,hu⟩|hu|hu<;>simp[run_underlying hu]
  split at hks
  ·rename_i k0 hu; exact plain (.inl ⟨k0,hu⟩)
  ·rename_i hu; exact plain (.inr (.inl hu))
  ·rename_i hu; exact plain (.inr (.inr hu))
  ·rename_i fs hu
   have hag:tyAg P t=true:=by simp[tyAg,hu,TypeDesc.isRow]
   split at hks
   case isFalse=>cases hks
   rw[hag]
   simp only[mkR,if_true]
   rw[Instr.checkKey]
   simp only[Sem.run_bind,run_underlying hu,Result.andThen_ok]
   rw[←Array.forIn_toList]
   obtain⟨off,hoff⟩:∃ off,off=0:=⟨0,rfl⟩
   replace he:eqks ks (cs.drop off) (cs.drop off)=some b:=by rw[hoff]; simpa using he
   have hof:off≤xs.length:=by omega
   rw[←hoff] at hks
   clear hoff
   generalize fs.toList=L at hks
   induction L generalizing off ks b with
   | nil=>simp
   | cons f L ih =>
    simp only[zky] at hks
    split at hks
    case isFalse=>cases hks
    rename_i hf
    obtain⟨hname,hoff⟩:=hf
    split at hks
    case h_2=>cases hks
    rename_i k1 hk1
    split at hks
    case h_2=>cases hks
    rename_i rs hrs
    cases hks
    obtain⟨hty,hck⟩:=sub _ _ hk1
    obtain⟨x,y,h1,h2,rfl⟩:=zeg he
    obtain⟨l1,_⟩:=zfR h1
    simp only[List.length_take,List.length_drop] at l1
    have px:=zc6 (P:=P) (w:=w2) (off:=off) (xs:=xs) hty (by omega)
    have pc:=hck em M w w2 _ _ x (zbh (zbr hx off) k1.length) h1
    simp only[List.forIn_cons,Sem.run_bind,hname,hoff,ne_eq,not_false_eq_true,if_true,Result.andThen_ok,px,pc,Sem.run_pure]
    have q1:eqks rs (cs.drop (off+k1.length)) (cs.drop (off+k1.length))=some y:=by simpa[List.drop_drop] using h2
    have q2:off+k1.length≤xs.length:=by omega
    exact ih (ks:=rs) (b:=y) (off:=off+k1.length) q1 q2 hrs
  ·rename_i m el hu
   have hag:tyAg P t=true:=by simp[tyAg,hu,TypeDesc.isRow]
   split at hks
   case h_2=>cases hks
   rename_i k1 hk1
   simp only[Option.some.injEq] at hks
   rw[hag]
   obtain⟨hty,hck⟩:=sub _ _ hk1
   have hty':=hty
   unfold tyOk at hty'
   split at hty'
   case h_2=>cases hty'
   rename_i _ i hi0 hi
   simp only[Bool.and_eq_true,beq_iff_eq] at hty'
   have hsz:∀ w3:World,(sizeOf el).run P w3=.ok k1.length w3:=fun w3=>by simp[sizeOf,typeInfo,hi,hty'.1]
   simp only[mkR,if_true]
   rw[Instr.checkKey]
   simp only[Sem.run_bind,run_underlying hu,Result.andThen_ok]
   simp only[Std.Legacy.Range.forIn_eq_forIn_range',Std.Legacy.Range.size,Nat.sub_zero,Nat.add_one_sub_one,Nat.div_one]
   obtain⟨off,hoff⟩:∃ off,off=0:=⟨0,rfl⟩
   replace he:eqks (List.replicate m k1).flatten (cs.drop (off*k1.length)) (cs.drop (off*k1.length))=some b:=by rw[hks,hoff]; simpa using he
   have hof:off*k1.length≤xs.length:=by rw[hoff]; omega
   have hg:List.range' 0 m=List.range' off m:=by rw[hoff]
   rw[hg]
   clear hoff hg hks hu
   induction m generalizing off b with
   | zero=>simp
   | succ m ih =>
    rw[List.replicate_succ,List.flatten_cons] at he
    obtain⟨x,y,h1,h2,rfl⟩:=zeg he
    obtain⟨l1,_⟩:=zfR h1
    simp only[List.length_take,List.length_drop] at l1
    have px:=zc6 (P:=P) (w:=w2) (off:=off*k1.length) (xs:=xs) hty (by omega)
    have pc:=hck em M w w2 _ _ x (zbh (zbr hx _) k1.length) h1
    have hnext:(off+1)*k1.length=off*k1.length+k1.length:=by rw[Nat.add_mul,Nat.one_mul]
    rw[List.range'_succ]
    simp only[List.forIn_cons,Sem.run_bind,hsz,Result.andThen_ok,px,pc,Sem.run_pure]
    have q1:eqks (List.replicate m k1).flatten (cs.drop ((off+1)*k1.length)) (cs.drop ((off+1)*k1.length))=some y:=by rw[hnext]; simpa[List.drop_drop] using h2
    have q2:(off+1)*k1.length≤xs.length:=by omega
    exact ih (b:=y) (off:=off+1) q1 q2
  ·cases hks
theorem zjP{t:TypeId}{ky:Ky}(hk:kyOk P t ky=true):∃ d,P.underlying t=some d∧(ky.isRow=true→d.isRow=true):=by
 unfold kyOk at hk
 split at hk
 ·split at hk
  ·exact⟨_,‹_›,fun h=>by cases h⟩
  ·cases hk
 ·split at hk
  ·exact⟨_,‹_›,fun h=>by cases h⟩
  ·cases hk
 ·split at hk
  ·exact⟨_,‹_›,fun h=>by cases h⟩
  ·cases hk
 ·simp only[Bool.and_eq_true,beq_iff_eq] at hk
  have h2:=hk.2
  unfold tyAg at h2
  split at h2
  ·rename_i d hd; exact⟨d,hd,fun _=>h2⟩
  ·cases h2
theorem zoC{t:TypeId}{ks:List Kd}(hk:kyOk P t (.row ks)=true):zcm P 20 t=some ks∧tyAg P t=true:=by
 simpa[kyOk] using hk
def zcX(M:Mm)(w:World)(es:List (V×V))(ents:List MapEntry)(i:Nat):Option (Nat×V)→Option (Nat×Value)→Prop
 | none,none=>True
 | some (j,u),some (j',x)=>j=j'∧i≤j∧(∃ p ent,es[j-i]?=some p∧ents[j-i]?=some ent∧p.2=u∧ent.val=x)∧Enc M w u x
 | _,_=>False
theorem zqm{t:TypeId}{ky:Ky}{kv:V}{kx:Value}(hk:kyOk P t ky=true)(hsc:ky.isRow=false)(hkv:Enc M w kv kx):∀{es:List (V×V)} {ents:List MapEntry} {i:Nat} {r:Option (Nat×V)},
  EncL M w (es.map (·.1)) (ents.map (·.key))→EncL M w (es.map (·.2)) (ents.map (·.val))→zbx ky kv es i=some r →
  ∃ d r',P.underlying t=some d∧Instr.findNow d kx ents i=some r'∧zcX M w es ents i r r'
 | [],ents,i,r,h1,h2,h=>by
  have hl:=zah h1
  simp only[List.map_nil,List.length_map,List.length_nil] at hl
  have:ents=[]:=List.eq_nil_of_length_eq_zero hl
  subst this
  simp only[zbx,Option.some.injEq] at h
  subst h
  obtain⟨d,hd,_⟩:=zjP hk
  exact⟨d,none,hd,rfl,trivial⟩
 | p::es,[],i,r,h1,h2,h=>by
  have hl:=zah h1
  simp at hl
 | p::es,ent::ents,i,r,h1,h2,h=>by
  simp only[List.map_cons,EncL] at h1 h2
  obtain⟨x1,xs1,e1,h1,h1'⟩:=h1
  obtain⟨x2,xs2,e2,h2,h2'⟩:=h2
  cases e1
  cases e2
  have hs:∀ b,zbd ky kv p.1=some b→∃ d,P.underlying t=some d∧Instr.sameNow d kx ent.key=some b:=by
   intro b hb
   unfold kyOk at hk
   split at hk
   ·split at hk
    ·rename_i k0 hu
     refine⟨_,hu,?_⟩
     unfold zbd at hb
     cases hc:kv<;>rw[hc] at hb hkv<;>cases hd:p.1<;>rw[hd] at hb h1<;>simp only[eqk,reduceCtorEq] at hb
     simp only[Enc] at hkv h1
     rw[hkv,h1]
     split at hb
     ·rename_i hkk
      simp only[Instr.sameNow,hkk,if_true]; exact hb
     ·cases hb
    ·cases hk
   ·split at hk
    ·rename_i hu
     refine⟨_,hu,?_⟩
     unfold zbd at hb
     cases hc:kv<;>rw[hc] at hb hkv<;>cases hd:p.1<;>rw[hd] at hb h1<;>simp only[eqk,reduceCtorEq] at hb
     simp only[Enc] at hkv h1
     rw[hkv,h1]
     simp only[Instr.sameNow]; exact hb
    ·cases hk
   ·split at hk
    ·rename_i hu
     refine⟨_,hu,?_⟩
     unfold zbd at hb
     cases hc:kv<;>rw[hc] at hb hkv<;>cases hd:p.1<;>rw[hd] at hb h1<;>simp only[eqk,reduceCtorEq] at hb
     simp only[Enc] at hkv h1
     rw[hkv,h1]
     simp only[Instr.sameNow,beq_toListBytes,ByteArray.toList_mk]; exact hb
    ·cases hk
   ·cases hsc
  simp only[zbx] at h
  split at h
  ·rename_i hq
   obtain⟨d,hd,hsn⟩:=hs true hq
   simp only[Option.some.injEq] at h
   subst h
   refine⟨d,some (i,ent.val),hd,by simp only[Instr.findNow,hsn],rfl,Nat.le_refl _,⟨p,ent,by simp,by simp,rfl,rfl⟩,h2⟩
  ·rename_i hq
   obtain⟨d,hd,hsn⟩:=hs false hq
   obtain⟨d',r',hd',hf,hr⟩:=zqm hk hsc hkv h1' h2' h
   rw[hd] at hd'; cases hd'
   refine⟨d,r',hd,by simp only[Instr.findNow,hsn]; exact hf,?_⟩
   cases r with
   | none=>cases r'<;>simp only[zcX] at hr ⊢
   | some q =>
    obtain⟨j,u⟩:=q
    cases r' with
    | none=>simp only[zcX] at hr
    | some q' =>
     obtain⟨j',x⟩:=q'
     simp only[zcX] at hr ⊢
     obtain⟨a1,a2,⟨p',ent',b1,b2,b3,b4⟩,a4⟩:=hr
     refine⟨a1,by omega,⟨p',ent',?_,?_,b3,b4⟩,a4⟩
     ·rw[show j-i=(j-(i+1))+1 by omega]; simpa using b1
     ·rw[show j-i=(j-(i+1))+1 by omega]; simpa using b2
  ·cases h
theorem zoD{t:TypeId}{ky:Ky}{kv:V}{kx:Value}(hk:kyOk P t ky=true)(hkv:Enc M w kv kx)(hg:ky.isRow=true→∃ b,zbd ky kv kv=some b)(em:Bool)(w2:World):(Instr.checkKey em 10000 t kx).run P w2=.ok () w2:=by
 cases ky with
 | sc kd =>
  unfold kyOk at hk
  split at hk
  case h_4=>rename_i heq; cases heq
  all_goals
   split at hk
   ·rename_i hu
    unfold Instr.checkKey
    simp[run_underlying hu]
   ·cases hk
 | row ks =>
  obtain⟨h1,h2⟩:=zoC hk
  obtain⟨b,hb⟩:=hg rfl
  cases kv<;>simp only[zbd,reduceCtorEq] at hb
  simp only[Enc] at hkv
  obtain⟨_,xs,rfl,hx⟩:=hkv
  have:=ckOf (P:=P) (d:=10000) h1 (by omega) em M w w2 _ xs b hx hb
  rw[h2] at this
  simpa only[mkR,if_true] using this
theorem zsq{t:TypeId}{ks:List Kd}{cs:List V}{kx:Value}(h1:zcm P 20 t=some ks)(h2:tyAg P t=true)(hkv:Enc M w (.agg cs) kx):∀{es:List (V×V)} {ents:List MapEntry} {i:Nat} {r:Option (Nat×V)},
  EncL M w (es.map (·.1)) (ents.map (·.key))→EncL M w (es.map (·.2)) (ents.map (·.val))→zbx (.row ks) (.agg cs) es i=some r →
  ∃ r',(∀ w2,(Instr.findAsking t kx ents i).run P w2=.ok r' w2)∧zcX M w es ents i r r'
 | [],ents,i,r,e1,e2,h=>by
  have hl:=zah e1
  simp only[List.map_nil,List.length_map,List.length_nil] at hl
  have:ents=[]:=List.eq_nil_of_length_eq_zero hl
  subst this
  simp only[zbx,Option.some.injEq] at h
  subst h
  exact⟨none,fun w2=>by simp[Instr.findAsking],trivial⟩
 | p::es,[],i,r,e1,e2,h=>by
  have hl:=zah e1
  simp at hl
 | p::es,ent::ents,i,r,e1,e2,h=>by
  simp only[List.map_cons,EncL] at e1 e2
  obtain⟨x1,xs1,q1,e1,e1'⟩:=e1
  obtain⟨x2,xs2,q2,e2,e2'⟩:=e2
  cases q1
  cases q2
  have hs:∀ b,zbd (.row ks) (.agg cs) p.1=some b→∀ w2,(Op.equal t kx ent.key).run P w2=.ok b w2:=by
   intro b hb w2
   cases hp:p.1<;>rw[hp] at hb e1<;>simp only[zbd,reduceCtorEq] at hb
   simp only[Enc] at hkv e1
   obtain⟨_,xs,rfl,hx⟩:=hkv
   obtain⟨_,ys,hy0,hy⟩:=e1
   rw[hy0]
   have he:=zlo (P:=P) (d:=10000) h1 (by omega) M w w2 _ _ xs ys b hx hy hb
   rw[h2] at he
   simp only[mkR,if_true] at he
   exact he
  simp only[zbx] at h
  split at h
  ·rename_i hq
   simp only[Option.some.injEq] at h
   subst h
   exact⟨some (i,ent.val),fun w2=>by simp[Instr.findAsking,hs true hq w2],rfl,Nat.le_refl _,⟨p,ent,by simp,by simp,rfl,rfl⟩,e2⟩
  ·rename_i hq
   obtain⟨r',hf,hr⟩:=zsq h1 h2 hkv e1' e2' h
   refine⟨r',fun w2=>by simp[Instr.findAsking,hs false hq w2,hf w2],?_⟩
   cases r with
   | none=>cases r'<;>simp only[zcX] at hr ⊢
   | some q =>
    obtain⟨j,u⟩:=q
    cases r' with
    | none=>simp only[zcX] at hr
    | some q' =>
     obtain⟨j',x⟩:=q'
     simp only[zcX] at hr ⊢
     obtain⟨a1,a2,⟨p',ent',b1,b2,b3,b4⟩,a4⟩:=hr
     refine⟨a1,by omega,⟨p',ent',?_,?_,b3,b4⟩,a4⟩
     ·rw[show j-i=(j-(i+1))+1 by omega]; simpa using b1
     ·rw[show j-i=(j-(i+1))+1 by omega]; simpa using b2
  ·cases h
theorem zpO{d:TypeDesc}(h:d.isRow=true)(a b:Value):Instr.sameNow d a b=none:=by
 cases d<;>simp[TypeDesc.isRow] at h<;>rfl
theorem zlp{t:TypeId}{d:TypeDesc}{kx:Value}{ents:List MapEntry}(hd:P.underlying t=some d)(h:Instr.findNow d kx ents 0=none)(w2:World):(Instr.findKey t kx ents).run P w2=(Instr.findAsking t kx ents).run P w2:=by
 simp[Instr.findKey,run_underlying hd,h]
theorem zgP{t:TypeId}{ky:Ky}{kv:V}{kx:Value}{es:List (V×V)}{ents:List MapEntry}{r:Option (Nat×V)}(hk:kyOk P t ky=true)(hkv:Enc M w kv kx)
  (hg:ky.isRow=true→∃ b,zbd ky kv kv=some b) (h1:EncL M w (es.map (·.1)) (ents.map (·.key))) (h2:EncL M w (es.map (·.2)) (ents.map (·.val))) (h:zbx ky kv es 0=some r) :
  ∃ r',(∀ w,(Instr.findKey t kx ents).run P w=.ok r' w)∧zcX M w es ents 0 r r':=by
 cases hrow:ky.isRow
 ·obtain⟨d,r',hd,hf,hr⟩:=zqm hk hrow hkv h1 h2 h
  exact⟨r',fun w=>MapKept.run_findKey hd hf,hr⟩
 ·obtain⟨d,hd,hdr⟩:=zjP hk
  have hdi:=hdr hrow
  obtain⟨b,hb⟩:=hg hrow
  cases ky with
  | sc kd=>cases hrow
  | row ks =>
   obtain⟨k1,k2⟩:=zoC hk
   cases kv<;>simp only[zbd,reduceCtorEq] at hb
   obtain⟨r',hf,hr⟩:=zsq k1 k2 hkv h1 h2 h
   refine⟨r',fun w2=>?_,hr⟩
   cases ents with
   | nil =>
    have hf2:=hf w2
    rw[MapKept.run_findKey (P:=P) (w:=w2) (l:=[]) (a:=none) hd rfl]
    simpa[Instr.findAsking] using hf2
   | cons ent ents =>
    rw[zlp hd (by simp only[Instr.findNow,zpO hdi])]
    exact hf w2
def mapOf?(P:Program)(t:TypeId):Option (TypeId×TypeId) :=
 match P.underlying t with
 | some (.map k el)=>some (k,el)
 | _=>none
theorem mapOf?_some{t k el:TypeId}(h:mapOf? P t=some (k,el)):P.underlying t=some (.map k el):=by
 unfold mapOf? at h
 split at h
 ·rename_i h2; cases h; exact h2
 ·cases h
theorem zt9{t:TypeId}{base s:Nat}(ho:o.op=.makeMap t none)(hr:HRel M w H)(hv:ev1 base e H (.mkmap s)=some (v,H1)):OpOk P o a M H w v H1:=by
 simp only[ev1] at hv
 split at hv
 case isFalse=>cases hv
 rename_i hf
 cases hv
 obtain⟨st,ii,r⟩:=zhb (ob:=.map #[] 0) (blk0:=.map []) hr hf rfl fun hst hid=>by
  simp only[BRel]
  refine⟨by simp[Mm.alc],#[],?_,by simp only[List.map_nil,EncL],by simp only[List.map_nil,EncL],fun i x h=>by simp at h⟩
  simp only[Mm.alc,if_true]
  exact heap_alloc_new w _
 refine⟨.value (.map (some w.heap.size)),_,_,?_,?_,st,ii,r⟩
 ·simp only[execOp,ho,Option.map_none,Sem.run_bind,run_makeMap,Result.andThen_ok,Sem.run_pure]
 ·simp only[Enc,Mm.alc,decide_true,Bool.true_or,if_true,true_and]
def zrf(P:Program)(t:TypeId)(z:V):Bool :=
 match P.info? t with
 | some i=>match i.zero with
  | some zv=>encS zv z
  | none=>false
 | none=>false
theorem zv4{t kt el:TypeId}{x y:Operand}{sx sy:X}{base:Nat}{ky:Ky}{ok:Bool}{z:V}(ho:o.op=.lookup t x y ok)(hx:chkX M.fm x sx=true)(hy:chkX M.fm y sy=true)
  (hu0:mapOf? P t=some (kt,el)) (hk:kyOk P kt ky=true) (hz:zrf P el z=true) (ht:RelT M w e a n) (hr:HRel M w H) (hv:ev1 base e H (.mget ky ok z sx sy)=some (v,H1)):OpOk P o a M H w v H1:=by
 have hu:=mapOf?_some hu0
 have hx':=zam hx ht
 have hy':=zam hy ht
 obtain⟨i,zv,hi,hzv,hez⟩:∃ i zv,P.info? el=some i∧i.zero=some zv∧encS zv z=true:=by
  unfold zrf at hz
  split at hz
  ·rename_i i hi
   split at hz
   ·rename_i zv hzv; exact⟨i,zv,hi,hzv,hz⟩
   ·cases hz
  ·cases hz
 have hzero:∀ w,(zeroValue el).run P w=.ok zv w:=fun w=>by simp[zeroValue,typeInfo,hi,hzv]
 have hze:Enc M w z zv:=zlj hez
 simp only[ev1] at hv
 split at hv
 case isTrue=>cases hv
 rename_i hgd
 have hg:ky.isRow=true→∃ b,zbd ky (sy.ev e) (sy.ev e)=some b:=fun h=>by
  cases hq:zbd ky (sy.ev e) (sy.ev e) with
  | none=>exact absurd ⟨h,hq⟩ hgd
  | some b=>exact⟨b,rfl⟩
 split at hv
 ·rename_i id hp
  split at hv
  case h_2=>cases hv
  rename_i es hb
  rw[hp] at hx'
  simp only[Enc] at hx'
  have hb':=hr.rel id _ hb
  simp only[BRel] at hb'
  obtain⟨_,ents,hh,hK,hV,hborn⟩:=hb'
  have hget:=MapKept.run_getObj_map (P:=P) hh
  have hck:=fun em=>zoD hk hy' hg em w
  split at hv
  ·rename_i q u hf
   obtain⟨r',hf',hF⟩:=zgP hk hy' hg hK hV hf
   cases r' with
   | none=>simp only[zcX] at hF
   | some q' =>
    obtain⟨j',x'⟩:=q'
    simp only[zcX] at hF
    cases hv
    refine .plain (rv:=if ok then .tuple #[x',.bool true] else x') hr ?_ ?_
    ·simp only[execOp,ho,hx'.2,Instr.lookup,Sem.run_bind,run_underlying hu,Result.andThen_ok,hget,Sem.run_pure,hck,hf']
    ·cases ok
     ·simpa using hF.2.2.2
     ·simp only[if_true,Enc]; exact⟨[x',.bool true],rfl,by simp only[EncL]; exact⟨_,_,rfl,hF.2.2.2,_,_,rfl,by simp only[Enc],rfl⟩⟩
  ·rename_i hf
   obtain⟨r',hf',hF⟩:=zgP hk hy' hg hK hV hf
   cases r' with
   | some q'=>simp only[zcX] at hF
   | none =>
    cases hv
    refine .plain (rv:=if ok then .tuple #[zv,.bool false] else zv) hr ?_ ?_
    ·simp only[execOp,ho,hx'.2,Instr.lookup,Sem.run_bind,run_underlying hu,Result.andThen_ok,hget,Sem.run_pure,hck,hf',hzero]
    ·cases ok
     ·simpa using hze
     ·simp only[if_true,Enc]; exact⟨[zv,.bool false],rfl,by simp only[EncL]; exact⟨_,_,rfl,hze,_,_,rfl,by simp only[Enc],rfl⟩⟩
  ·cases hv
 ·rename_i hp
  cases hv
  rw[hp] at hx'
  simp only[Enc] at hx'
  have hck:=fun em=>zoD hk hy' hg em w
  have hnil:∀ w,(Instr.findKey kt (a.eval y) []).run P w=.ok none w:=fun w=>by
   obtain⟨d,hd,_⟩:=zjP hk
   exact MapKept.run_findKey hd rfl
  refine .plain (rv:=if ok then .tuple #[zv,.bool false] else zv) hr ?_ ?_
  ·simp only[execOp,ho,hx',Instr.lookup,Sem.run_bind,run_underlying hu,Result.andThen_ok,Sem.run_pure,hck,hnil,hzero]
  ·cases ok
   ·simpa using hze
   ·simp only[if_true,Enc]; exact⟨[zv,.bool false],rfl,by simp only[EncL]; exact⟨_,_,rfl,hze,_,_,rfl,by simp only[Enc],rfl⟩⟩
 ·cases hv
theorem zoE{kv kv':V}{x x':Value}{k:Kd}(h:eqk k kv kv'=some true)(h1:Enc M w kv x)(h2:Enc M w kv' x'):Instr.sameBits 10000 x' x=true:=by
 cases k<;>cases kv<;>cases kv'<;>simp only[eqk,reduceCtorEq,Option.some.injEq] at h
 ·split at h
  ·rename_i hk
   subst hk
   simp at h; subst h
   simp only[Enc] at h1 h2
   subst h1; subst h2
   simp[Instr.sameBits]
  ·cases h
 ·simp at h; subst h
  simp only[Enc] at h1 h2
  subst h1; subst h2
  simp[Instr.sameBits]
 ·simp at h; subst h
  simp only[Enc] at h1 h2
  subst h1; subst h2
  simp only[Instr.sameBits,beq_toListBytes,beq_self_eq_true]
theorem zpP{kv kv':V}{x x':Value}{k:Kd}(n:Nat)(h:eqk k kv kv'=some true)(h1:Enc M w kv x)(h2:Enc M w kv' x'):Instr.sameBits n x' x=true:=by
 cases k<;>cases kv<;>cases kv'<;>simp only[eqk,reduceCtorEq,Option.some.injEq] at h
 ·split at h
  ·rename_i hk
   subst hk
   simp at h; subst h
   simp only[Enc] at h1 h2
   subst h1; subst h2
   simp[Instr.sameBits]
  ·cases h
 ·simp at h; subst h
  simp only[Enc] at h1 h2
  subst h1; subst h2
  simp[Instr.sameBits]
 ·simp at h; subst h
  simp only[Enc] at h1 h2
  subst h1; subst h2
  simp only[Instr.sameBits,beq_toListBytes,beq_self_eq_true]
theorem zjQ(n:Nat):∀{ks:List Kd} {cs ds:List V} {xs ys:List Value},eqks ks cs ds=some true→EncL M w cs xs→EncL M w ds ys→ys.length=xs.length∧((ys.zip xs).all fun(p:Value×Value)=>Instr.sameBits n p.1 p.2)=true
 | [],[],[],xs,ys,_,hx,hy=>by
  simp only[EncL] at hx hy
  subst hx; subst hy
  exact⟨rfl,rfl⟩
 | [],[],_::_,_,_,h,_,_=>by simp[eqks] at h
 | [],_::_,_,_,_,h,_,_=>by simp[eqks] at h
 | _::_,[],_,_,_,h,_,_=>by simp[eqks] at h
 | _::_,_::_,[],_,_,h,_,_=>by simp[eqks] at h
 | k::ks,c::cs,d::ds,xs,ys,h,hx,hy=>by
  simp only[EncL] at hx hy
  obtain⟨x,xs',rfl,h1,hx⟩:=hx
  obtain⟨y,ys',rfl,h2,hy⟩:=hy
  simp only[eqks] at h
  split at h
  case h_2=>cases h
  rename_i u v hu hv
  simp only[Option.some.injEq,Bool.and_eq_true] at h
  obtain⟨rfl,rfl⟩:=h
  obtain⟨i1,i2⟩:=zjQ n hv hx hy
  exact⟨by simp[i1],by simp only[List.zip_cons_cons,List.all_cons,Bool.and_eq_true]; exact⟨zpP n hu h1 h2,i2⟩⟩
theorem zpQ{ky:Ky}{kv kv':V}{x x':Value}(h:zbd ky kv kv'=some true)(h1:Enc M w kv x)(h2:Enc M w kv' x'):Instr.sameBits 10000 x' x=true:=by
 cases ky with
 | sc kd=>exact zoE (k:=kd) h h1 h2
 | row ks =>
  cases kv<;>cases kv'<;>simp only[zbd,reduceCtorEq] at h
  simp only[Enc] at h1 h2
  obtain⟨_,xs,rfl,hx⟩:=h1
  obtain⟨_,ys,rfl,hy⟩:=h2
  obtain⟨i1,i2⟩:=zjQ 9999 h hx hy
  rw[Instr.sameBits]
  simp only[List.size_toArray,i1,beq_self_eq_true,Bool.true_and]
  exact i2
theorem zoF{ky:Ky}{kv:V}:∀{es:List (V×V)} {i j:Nat} {u:V},zbx ky kv es i=some (some (j,u))→i≤j∧∃ p,es[j-i]?=some p∧p.2=u∧zbd ky kv p.1=some true
 | [],i,j,u,h=>by simp[zbx] at h
 | p::es,i,j,u,h=>by
  simp only[zbx] at h
  split at h
  ·rename_i hq
   simp only[Option.some.injEq,Prod.mk.injEq] at h
   obtain⟨rfl,rfl⟩:=h
   exact⟨Nat.le_refl _,p,by simp,rfl,hq⟩
  ·obtain⟨h1,q,h2,h3⟩:=zoF h
   refine⟨by omega,q,?_,h3⟩
   rw[show j-i=(j-(i+1))+1 by omega]; simpa using h2
  ·cases h
theorem zqn{id:Nat}{es fs:List (V×V)}{ents:Array MapEntry}(hr:HRel M w H)(hb:H[id]?=some (some (.map es)))
  (hK:EncL M w (fs.map (·.1)) (ents.toList.map (·.key))) (hV:EncL M w (fs.map (·.2)) (ents.toList.map (·.val))) (hB:∀(i:Nat) (x:MapEntry),ents[i]?=some x→x.born=i) :
  Stp M H w (M.limit (M.j id) 0) (H.set id (some (.map fs))) { w with heap:=w.heap.setIfInBounds (M.j id) (.map ents fs.length) }∧Ids M (M.limit (M.j id) 0) H.length ∧
   HRel (M.limit (M.j id) 0) { w with heap:=w.heap.setIfInBounds (M.j id) (.map ents fs.length) } (H.set id (some (.map fs))):=by
 have hb':=hr.rel id _ hb
 simp only[BRel] at hb'
 obtain⟨hl0,e0,hh,_⟩:=hb'
 have hs:=MapKept.heap_set (o':=.map ents fs.length) hh
 refine ziq hr hb rfl rfl hl0 0 rfl rfl rfl (by simp) hs.2 fun hst hid=>?_
 simp only[BRel]
 exact⟨by simp[Mm.limit],ents,hs.1,EncL.step hst hr hid hK,EncL.step hst hr hid hV,hB⟩
theorem zoG{cs:List V}{xs:List Value}(h:EncL M w cs xs){i:Nat}{c:V}{x:Value}(hc:Enc M w c x):EncL M w (cs.set i c) (xs.set i x):=by
 have hl:=zah h
 refine zcp (by simp[hl]) fun j d y hd hy=>?_
 rw[List.getElem?_set] at hd hy
 by_cases e:i=j
 ·subst e
  simp only[if_true] at hd hy
  split at hd
  ·rename_i h1
   rw[if_pos (by rw[hl]; exact h1)] at hy
   cases hd; cases hy; exact hc
  ·cases hd
 ·rw[if_neg e] at hd hy
  obtain⟨y',hy',he⟩:=zaR h hd
  rw[hy] at hy'; cases hy'; exact he
theorem zqo{t kt el:TypeId}{x y z:Operand}{sx sy sz:X}{base:Nat}{ky:Ky}(ho:o.op=.insert t x y z∨o.op=.mapUpdate t x y z)(hx:chkX M.fm x sx=true)(hy:chkX M.fm y sy=true)(hz:chkX M.fm z sz=true)
  (hu0:mapOf? P t=some (kt,el)) (hk:kyOk P kt ky=true) (ht:RelT M w e a n) (hr:HRel M w H) (hv:ev1 base e H (.mput ky sx sy sz)=some (v,H1)):OpOk P o a M H w v H1:=by
 have hu:=mapOf?_some hu0
 have hx':=zam hx ht
 have hy':=zam hy ht
 have hz':=zam hz ht
 simp only[ev1] at hv
 split at hv
 case h_2=>cases hv
 rename_i id hp
 split at hv
 case isTrue=>cases hv
 rename_i hkk
 split at hv
 case h_2=>cases hv
 rename_i es hb
 rw[hp] at hx'
 simp only[Enc] at hx'
 have hb':=hr.rel id _ hb
 simp only[BRel] at hb'
 obtain⟨_,ents,hh,hK,hV,hborn⟩:=hb'
 have hlen:ents.size=es.length:=by have:=zah hK; simpa using this
 have hget:=MapKept.run_getObj_map (P:=P) hh
 have hg:ky.isRow=true→∃ b,zbd ky (sy.ev e) (sy.ev e)=some b:=fun _=>by
  cases hq:zbd ky (sy.ev e) (sy.ev e) with
  | none=>exact absurd (.inl hq) hkk
  | some b=>exact⟨b,rfl⟩
 have hck:=fun em=>zoD hk hy' hg em w
 have hset:=fun ob=>MapKept.run_setObj_map (P:=P) ob hh
 have hex:∀ w',(Instr.mapUpdate t (a.eval x) (a.eval y) (a.eval z)).run P w=.ok () w'→(execOp a.eval o).run P w=.ok .skip w':=by
  intro w' h
  rcases ho with ho|ho<;>simp only[execOp,ho,Sem.run_bind,h,Result.andThen_ok,Sem.run_pure]
 split at hv
 ·rename_i i u hf
  obtain⟨r',hf',hF⟩:=zgP hk hy' hg hK hV hf
  cases r' with
  | none=>simp only[zcX] at hF
  | some q' =>
   obtain⟨j',x'⟩:=q'
   simp only[zcX] at hF
   obtain⟨rfl,_,⟨p,ent,hp1,hp2,_,_⟩,_⟩:=hF
   obtain⟨_,p',hp',_,hkeq⟩:=zoF hf
   rw[hp'] at hp1; cases hp1
   simp only[Nat.sub_zero] at hp' hp2
   cases hv
   have hkenc:Enc M w p.1 ent.key:=by
    obtain⟨y2,h2,h3⟩:=zaR hK (i:=i) (c:=p.1) (by rw[List.getElem?_map,hp']; rfl)
    rw[List.getElem?_map,hp2] at h2
    cases h2; exact h3
   have hsb:=zpQ hkeq hy' hkenc
   have hents:ents[i]?=some ent:=by rw[←Array.getElem?_toList]; exact hp2
   have hmod:(ents.modify i fun en=>{ en with key:=a.eval y,val:=a.eval z }).toList=ents.toList.set i { ent with key:=a.eval y,val:=a.eval z }:=by
    apply List.ext_getElem?
    intro k
    rw[Array.getElem?_toList,Array.getElem?_modify,List.getElem?_set]
    by_cases hki:i=k
    ·subst hki
     have hlt:i<ents.toList.length:=(List.getElem?_eq_some_iff.1 hp2).1
     rw[if_pos rfl,if_pos rfl,if_pos hlt,hents]; rfl
    ·rw[if_neg hki,if_neg hki,Array.getElem?_toList]
   obtain⟨st,ii,r⟩:=zqn (fs:=es.set i (sy.ev e,sz.ev e)) (ents:=ents.modify i fun en=>{ en with key:=a.eval y,val:=a.eval z }) hr hb
    (by rw[hmod,List.map_set,List.map_set]; exact zoG hK hy') (by rw[hmod,List.map_set,List.map_set]; exact zoG hV hz')
    (fun k x hx=>by
     rw[←Array.getElem?_toList,hmod,List.getElem?_set] at hx
     split at hx
     ·rename_i hki
      subst hki
      split at hx
      ·cases hx; exact hborn _ ent hents
      ·cases hx
     ·rw[Array.getElem?_toList] at hx; exact hborn k x hx)
   refine⟨.skip,_,_,hex _ ?_,rfl,st,ii,r⟩
   simp only[Instr.mapUpdate,hx'.2,Sem.run_bind,run_underlying hu,Result.andThen_ok,hget,hck,hf',Instr.keyThatStays,hents,Option.map_some,Option.getD_some,hsb,if_true,Sem.run_pure,hset,List.length_set]
 ·rename_i hf
  obtain⟨r',hf',hF⟩:=zgP hk hy' hg hK hV hf
  cases r' with
  | some q'=>simp only[zcX] at hF
  | none =>
   cases hv
   obtain⟨st,ii,r⟩:=zqn (fs:=es++[(sy.ev e,sz.ev e)]) (ents:=ents.push { key:=a.eval y,val:=a.eval z,born:=es.length }) hr hb
    (by rw[List.map_append,Array.toList_push,List.map_append]; exact zbe hK (by simp only[List.map_cons,List.map_nil,EncL]; exact⟨_,_,rfl,hy',rfl⟩))
    (by rw[List.map_append,Array.toList_push,List.map_append]; exact zbe hV (by simp only[List.map_cons,List.map_nil,EncL]; exact⟨_,_,rfl,hz',rfl⟩))
    (fun k x hx=>by
     rw[Array.getElem?_push] at hx
     split at hx
     ·rename_i hk2; cases hx; rw[←hlen]; exact hk2.symm
     ·exact hborn k x hx)
   refine⟨.skip,_,_,hex _ ?_,rfl,st,ii,r⟩
   simp only[Instr.mapUpdate,hx'.2,Sem.run_bind,run_underlying hu,Result.andThen_ok,hget,hck,hf',hset,List.length_append,List.length_cons,List.length_nil]
 ·cases hv
theorem zxi{t:TypeId}{x:Operand}{sx:X}{base s:Nat}(ho:o.op=.range t x)(hx:chkX M.fm x sx=true)(hu:P.underlying t=some .string)(ht:RelT M w e a n)(hr:HRel M w H)
  (hv:ev1 base e H (.rng s sx)=some (v,H1)):OpOk P o a M H w v H1:=by
 have hx':=zam hx ht
 simp only[ev1] at hv
 split at hv
 case h_2=>cases hv
 rename_i tx hp
 split at hv
 case isFalse=>cases hv
 rename_i hf
 cases hv
 rw[hp] at hx'
 simp only[Enc] at hx'
 obtain⟨st,ii,r⟩:=zhb (ob:=.stringIter ⟨tx.toArray⟩ 0) (blk0:=.siter tx 0) hr hf rfl fun hst hid=>by
  simp only[BRel]
  refine⟨by simp[Mm.alc],?_⟩
  simp only[Mm.alc,if_true]
  exact heap_alloc_new w _
 refine⟨.value (.pointer (some ⟨w.heap.size,0,none⟩)),_,_,?_,?_,st,ii,r⟩
 ·simp[execOp,ho,hx',Instr.range,run_underlying hu]
 ·simp only[Enc,Mm.alc,decide_true,Bool.true_or,if_true,true_and]
theorem zxj{x:Operand}{sx:X}{base:Nat}(ho:o.op=.next x true)(hx:chkX M.fm x sx=true)(ht:RelT M w e a n)(hr:HRel M w H)
  (hv:ev1 base e H (.nxt sx)=some (v,H1)):OpOk P o a M H w v H1:=by
 have hx':=zam hx ht
 simp only[ev1] at hv
 split at hv
 case h_2=>cases hv
 rename_i id hp
 split at hv
 case h_2=>cases hv
 rename_i tx pos hb
 rw[hp] at hx'
 simp only[Enc] at hx'
 have hb':=hr.rel id _ hb
 simp only[BRel] at hb'
 obtain⟨hl0,hh⟩:=hb'
 split at hv
 ·rename_i hlt
  cases hv
  have hrun:=Lib.run_next_any_at (P:=P) w (M.j id) ⟨tx.toArray⟩ pos o.type hh (by rw[zeP]; exact hlt)
  have hs:=MapKept.heap_set (o':=.stringIter ⟨tx.toArray⟩ (pos+(Utf8.decode ⟨tx.toArray⟩ pos).2)) hh
  obtain⟨st,ii,r⟩:=ziq (blk1:=.siter tx (pos+(Utf8.decode ⟨tx.toArray⟩ pos).2)) (w':=w.iterAt (M.j id) ⟨tx.toArray⟩ (pos+(Utf8.decode ⟨tx.toArray⟩ pos).2)) hr hb rfl rfl hl0 0 rfl rfl rfl (by simp[World.iterAt]) hs.2 fun hst hid=>by
   simp only[BRel]
   exact⟨by simp[Mm.limit],hs.1⟩
  refine⟨.value (.tuple #[.bool true,.int .i64 pos,.int .i32 (Utf8.decode ⟨tx.toArray⟩ pos).1]),_,_,?_,?_,st,ii,r⟩
  ·simp only[execOp,ho,hx'.2,Sem.run_bind,hrun,Result.andThen_ok,Sem.run_pure]
  ·simp only[Enc]
   exact⟨[.bool true,.int .i64 pos,.int .i32 (Utf8.decode ⟨tx.toArray⟩ pos).1],rfl,by simp[EncL,Enc]⟩
 ·rename_i hlt
  cases hv
  have hrun:=Lib.run_next_end_at (P:=P) w (M.j id) ⟨tx.toArray⟩ pos o.type hh (by rw[zeP]; exact hlt)
  refine .plain (rv:=.tuple #[.bool false]) hr ?_ ?_
  ·simp only[execOp,ho,hx'.2,Sem.run_bind,hrun,Result.andThen_ok,Sem.run_pure]
  ·simp only[Enc]
   exact⟨[.bool false],rfl,by simp[EncL,Enc]⟩
end Go.Ev
/- One operation, as checked; calls by contracts. -/
namespace Go.Ev
open Go Go.RowKit
variable {P:Program} {M M':Mm} {H H1:Heap} {w w':World}
def zfT(P:Program)(t:TypeId)(z:List V):Bool :=
 match P.info? t with
 | some i=>match i.zero with
  | some zv=>zcl zv.cells.toList z
  | none=>false
 | none=>false
theorem zdG{t:TypeId}{z:List V}(h:zfT P t z=true):∃ i zv,P.info? t=some i∧i.zero=some zv∧zcl zv.cells.toList z=true:=by
 unfold zfT at h
 split at h
 ·rename_i i hi
  split at h
  ·rename_i zv hz; exact⟨i,zv,hi,hz,h⟩
  ·cases h
 ·cases h
def zcM(P:Program)(t:TypeId)(sz:Nat):Bool:=match P.info? t with|some i=>i.size==sz|none=>false
theorem zbt{t:TypeId}{sz:Nat}(h:zcM P t sz=true):∃ i,P.info? t=some i∧i.size=sz:=by
 unfold zcM at h
 split at h
 ·rename_i i hi; exact⟨i,hi,by simpa using h⟩
 ·cases h
def chk1(P:Program)(fm:Fm)(o:Op)(s:SOp):Bool :=
 match s with
 | .mv sx=>match o with
  | .move x=>chkX fm x sx
  | .assign x=>chkX fm x sx
  | _=>false
 | .pick sc sa sb=>match o with
  | .pick c a b=>chkX fm c sc&&chkX fm a sa&&chkX fm b sb
  | _=>false
 | .box _ sx=>match o with
  | .box _ x=>chkX fm x sx
  | _=>false
 | .alloc _ z=>match o with
  | .alloc t=>zfT P t z
  | _=>false
 | .build z qs=>match o with
  | .build t ps=>zfT P t z&&zra P t&&zbB fm (zfA P t) ps.toList qs
  | _=>false
 | .bslice k z qs=>match o with
  | .buildSlice t k' ps=>match elemOf? P t with
   | some el=>k==k'&&zfT P el z&&zcM P el z.length&&decide (0<z.length)&&decide (k*z.length≤16777216) &&
     zbB fm (fun j=>some (j*z.length,z.length)) ps.toList (qs.map fun q=>(q.1*z.length,z.length,q.2))
   | none=>false
  | _=>false
 | .load sz ag _ sx=>match o with
  | .load t x=>chkX fm x sx&&tyOk P t sz ag
  | _=>false
 | .store sz sx sy=>match o with
  | .store t x y=>chkX fm x sx&&chkX fm y sy&&zcM P t sz
  | _=>false
 | .faddr off sx=>match o with
  | .fieldAddr t x f=>match zfz P t f off with
   | some ft=>chkX fm x sx&&(match P.info? ft with|some i=>i.size !=0|none=>false)
   | none=>false
  | _=>false
 | .fld off sz ag sx=>match o with
  | .field t x f=>match zfz P t f off with
   | some ft=>chkX fm x sx&&tyOk P ft sz ag
   | none=>false
  | _=>false
 | .iaddr sz sx sy=>match o with
  | .indexAddr t x y=>match elemOf? P t with
   | some el=>chkX fm x sx&&chkX fm y sy&&zcM P el sz
   | none=>false
  | _=>false
 | .iaddrA len sz sx sy=>match o with
  | .indexAddr t x y=>match arrOf? P t with
   | some (k,el)=>k==len&&chkX fm x sx&&chkX fm y sy&&zcM P el sz
   | none=>false
  | _=>false
 | .idx len sz ag sx sy=>match o with
  | .index t x y=>match arrOf? P t with
   | some (k,el)=>k==len&&chkX fm x sx&&chkX fm y sy&&tyOk P el sz ag
   | none=>false
  | _=>false
 | .bin op sx sy=>match o with
  | .binOp op' _ x y _=>op==op'&&chkX fm x sx&&chkX fm y sy
  | _=>false
 | .beq neg sx sy=>match o with
  | .binOp op' xt x y _=>op'==(if neg then .neq else .eql)&&zlX P xt&&chkX fm x sx&&chkX fm y sy
  | _=>false
 | .un op sx=>match o with
  | .unOp op' _ x=>op==op'&&chkX fm x sx
  | _=>false
 | .conv k sx=>match o with
  | .convert st dt x=>(P.underlying st).isSome&&zlW P dt k&&chkX fm x sx
  | _=>false
 | .mkfn f cap=>match o with
  | .makeFunc (.func f') first cap'=>f'==fm f&&first.isEmpty&&zby fm cap'.toList cap
  | _=>false
 | .ext i sx=>match o with
  | .extract x i'=>i==i'&&chkX fm x sx
  | _=>false
 | .len st sx=>match o with
  | .call { callee:=.builtin .len,args,argTypes }=>match args.toList,argTypes.toList with
   | [x],[t]=>chkX fm x sx&&(if st then zgN P t else(elemOf? P t).isSome)
   | _,_=>false
  | _=>false
 | .app _ sz bytes sx sy=>match o with
  | .call { callee:=.builtin .append,args,argTypes }=>match args.toList,argTypes.toList with
   | [x,y],[t,t']=>chkX fm x sx&&chkX fm y sy&&zkw P t t' sz bytes
   | _,_=>false
  | _=>false
 | .appG _ _ sz bytes sx sy=>match o with
  | .call { callee:=.builtin .append,args,argTypes }=>match args.toList,argTypes.toList with
   | [x,y],[t,t']=>chkX fm x sx&&chkX fm y sy&&zkw P t t' sz bytes
   | _,_=>false
  | _=>false
 | .slc sz sx slo shi smx=>match o with
  | .slice t x lo hi mx=>match elemOf? P t with
   | some el=>chkX fm x sx&&zcM P el sz&&zbj fm lo slo&&zbj fm hi shi&&zbj fm mx smx
   | none=>false
  | _=>false
 | .nilck sx=>match o with
  | .nilCheck x=>chkX fm x sx
  | _=>false
 | .mksl _ bytes z sx=>match o with
  | .makeSlice t l c=>match elemOf? P t with
   | some el=>chkX fm l sx&&chkX fm c sx&&zfT P el z&&zcM P el z.length&&decide (0<z.length)&&(match P.info? el with|some i=>i.bytes==bytes&&decide (0<bytes)|none=>false)
   | none=>false
  | _=>false
 | .aeq ks neg sx sy=>match o with
  | .binOp op' xt x y _=>op'==(if neg then .neq else .eql)&&zcm P 20 xt==some ks&&!P.eqGuardType P.depth xt&&tyAg P xt&&chkX fm x sx&&chkX fm y sy
  | _=>false
 | .nileq k neg sx=>match o with
  | .binOp op' xt x y _=>op'==(if neg then .neq else .eql)&&zrd P k xt y&&chkX fm x sx
  | _=>false
 | .mm mx xs=>match o with
  | .call { callee:=.builtin b,args,argTypes:=_ }=>(match b,mx with|.max,true=>true|.min,false=>true|_,_=>false)&&zby fm args.toList xs
  | _=>false
 | .sidx sx sy=>match o with
  | .index t x y=>zgN P t&&chkX fm x sx&&chkX fm y sy
  | _=>false
 | .sslc sx slo shi=>match o with
  | .slice t x lo hi none=>zgN P t&&chkX fm x sx&&zbj fm lo slo&&zbj fm hi shi
  | _=>false
 | .mkmap _=>match o with
  | .makeMap _ none=>true
  | _=>false
 | .mget ky ok z sx sy=>match o with
  | .lookup t x y ok'=>match mapOf? P t with
   | some (kt,el)=>ok==ok'&&kyOk P kt ky&&zrf P el z&&chkX fm x sx&&chkX fm y sy
   | none=>false
  | _=>false
 | .mput ky sx sy sz=>match o with
  | .insert t x y z=>match mapOf? P t with
   | some (kt,_)=>kyOk P kt ky&&chkX fm x sx&&chkX fm y sy&&chkX fm z sz
   | none=>false
  | .mapUpdate t x y z=>match mapOf? P t with
   | some (kt,_)=>kyOk P kt ky&&chkX fm x sx&&chkX fm y sy&&chkX fm z sz
   | none=>false
  | _=>false
 | .rng _ sx=>match o with
  | .range t x=>zgN P t&&chkX fm x sx
  | _=>false
 | .nxt sx=>match o with
  | .next x true=>chkX fm x sx
  | _=>false
 | .loadR sz ag _ sx=>match o with
  | .load t x=>chkX fm x sx&&tyOk P t sz ag
  | _=>false
 | .storeA sz _ sx sy=>match o with
  | .store t x y=>chkX fm x sx&&chkX fm y sy&&zcM P t sz
  | _=>false
 | .loadC sz ag sx=>match o with
  | .load t x=>chkX fm x sx&&tyOk P t sz ag
  | _=>false
 | .storeN _ sz sx sy=>match o with
  | .store t x y=>chkX fm x sx&&chkX fm y sy&&zcM P t sz
  | _=>false
 | .bsliceR _ k z qs=>match o with
  | .buildSlice t k' ps=>match elemOf? P t with
   | some el=>k==k'&&zfT P el z&&zcM P el z.length&&decide (0<z.length)&&decide (k*z.length≤16777216) &&
     zbB fm (fun j=>some (j*z.length,z.length)) ps.toList (qs.map fun q=>(q.1*z.length,z.length,q.2))
   | none=>false
  | _=>false
 | .slcA len sz sx slo shi=>match o with
  | .slice t x lo hi none=>match arrOf? P t with
   | some (k,el)=>k==len&&chkX fm x sx&&zcM P el sz&&zbj fm lo slo&&zbj fm hi shi
   | none=>false
  | _=>false
 | .cpy sz sx sy=>match o with
  | .call { callee:=.builtin .copy,args,argTypes }=>match args.toList,argTypes.toList with
   | [x,y],[t,_]=>match elemOf? P t with
    | some el=>chkX fm x sx&&chkX fm y sy&&zcM P el sz
    | none=>false
   | _,_=>false
  | _=>false
 | .b2s sx=>match o with
  | .convert st dt x=>(match P.underlying st with|some (.slice el)=>zlW P el .u8|_=>false)&&zgN P dt&&chkX fm x sx
  | _=>false
 | .i2s _|.s2b _ _|.ment _ _ _ _|.mst _ _ _=>false
 | .pcall _ _|.scall _ _|.kcall _ _ _|.vcall _ _ _|.scallA _ _ _|.scallE _ _=>false
section
variable {a:Act} {n:Nat} {e:Env} {H1:Heap} {o:Oper} {v:V}
theorem zjR:∀{es:List (List V)} {s:List UInt8},zeN es=some s→∃ ns:List Int,es=ns.map (fun n=>[V.int .u8 n])∧s=ns.map fun n=>UInt8.ofNat n.toNat
 | [],s,h=>by simp only[zeN,Option.some.injEq] at h; exact⟨[],rfl,by rw[←h]; rfl⟩
 | e::es,s,h=>by
  unfold zeN at h
  split at h
  ·rename_i h0; cases h0
  ·rename_i m es' he
   cases he
   split at h
   case h_2=>cases h
   rename_i bs hb
   cases h
   obtain⟨ns,h1,h2⟩:=zjR hb
   exact⟨m::ns,by rw[h1]; rfl,by rw[h2]; rfl⟩
  ·cases h
theorem zl2:∀(ns:List Int) (r:ByteArray),ns.foldl (fun r n=>r.push (UInt8.ofNat n.toNat)) r=⟨(r.data.toList++ns.map fun n=>UInt8.ofNat n.toNat).toArray⟩
 | [],r=>by simp
 | n::ns,r=>by
  rw[List.foldl_cons,zl2 ns]
  simp[ByteArray.push]
theorem znp:∀{ns:List Int} {xs:List Value},EncL M w (ns.map fun n=>V.int .u8 n) xs→xs=ns.map (Value.int .u8)
 | [],xs,h=>by simpa[EncL] using h
 | n::ns,xs,h=>by
  simp only[List.map_cons,EncL,Enc] at h
  obtain⟨x,xs',rfl,rfl,h⟩:=h
  rw[znp h]; rfl
theorem zxk{st dt el:TypeId}{x:Operand}{sx:X}{base:Nat}(ho:o.op=.convert st dt x)(hx:chkX M.fm x sx=true)(hs:P.underlying st=some (.slice el))(hel:P.underlying el=some (.int .u8))(hd:P.underlying dt=some .string)
  (ht:RelT M w e a n) (hr:HRel M w H) (hv:ev1 base e H (.b2s sx)=some (v,H1)):OpOk P o a M H w v H1:=by
 have hx':=zam hx ht
 simp only[ev1] at hv
 split at hv
 case h_2=>cases hv
 rename_i es tk hp
 split at hv
 case h_2=>cases hv
 rename_i s hb
 cases hv
 rw[hp] at hx'
 obtain⟨ns,he,hsn⟩:=zjR hb
 simp only[Enc] at hx'
 obtain⟨_,ad,cap,hxe,hcap,hrows,_⟩:=hx'
 refine .plain (rv:=.string ⟨s.toArray⟩) hr ?_ (by simp only[Enc])
 have hcv:=run_convert_bytes_string (P:=P) w st dt el ad es.length cap hs hel hd
 have hrun:(Conv.bytesToString (.slice ad es.length cap)).run P w=.ok (.string ⟨s.toArray⟩) w:=by
  cases ad with
  | none =>
   obtain⟨rfl,rfl⟩:=hrows
   have:ns=[]:=by simpa using he.symm
   subst this
   rw[hsn]
   simp[Conv.bytesToString]
   rfl
  | some ad =>
   obtain⟨b,off,sp⟩:=ad
   obtain⟨hsp,_,hrows⟩:=hrows
   have hl:es.length=ns.length:=by rw[he]; simp
   rw[run_bytesToString w ⟨b,off,sp⟩ es.length cap ns ?_,zl2,hsn]
   ·rfl
   ·rw[hl,←List.length_map (f:=Value.int .u8) (as:=ns)]
    by_cases hn:es=[]
    ·have:ns=[]:=by rw[hn] at he; simpa using he.symm
     subst this
     exact run_loadCells_list w _ _ (fun j v h=>by simp at h)
    have hsp:=hsp.resolve_left hn
    simp only at hsp hrows
    subst hsp
    obtain⟨xs,h1,h2⟩:=ze4 hrows
    have hf:es.flatten=ns.map fun n=>V.int .u8 n:=by rw[he]; clear h1 hl hn he hp hsn hb hrows hcap hxe; induction ns with
     | nil=>rfl
     | cons n ns ih=>simp only[List.map_cons,List.flatten_cons,ih]; rfl
    rw[hf] at h1
    rw[←znp h1]
    refine run_loadCells_list w _ _ fun j u hu=>?_
    rw[Addr.add_mid]
    exact h2 j u hu
 simp[execOp,ho,hxe,hcv,hrun]
end
theorem arr1{α:Type}{xs:Array α}{x:α}(h:xs.toList=[x]):xs=#[x]:=by apply Array.ext'; simpa using h
theorem arr2{α:Type}{xs:Array α}{x y:α}(h:xs.toList=[x,y]):xs=#[x,y]:=by apply Array.ext'; simpa using h
theorem zsr{e:Env}{a:Act}{n base:Nat}{o:Oper}{v:V}{s:SOp}(hc:chk1 P M.fm o.op s=true)(ht:RelT M w e a n)(hr:HRel M w H)(hv:ev1 base e H s=some (v,H1)) :
  OpOk P o a M H w v H1:=by
 cases s with
 | mv sx =>
  simp only[chk1] at hc
  simp only[ev1,Option.some.injEq,Prod.mk.injEq] at hv
  obtain⟨rfl,rfl⟩:=hv
  split at hc
  ·rename_i x ho; exact zvg (.inl ho) hc ht hr
  ·rename_i x ho; exact zvg (.inr ho) hc ht hr
  ·cases hc
 | pick sc sa sb =>
  simp only[chk1] at hc
  simp only[ev1] at hv
  split at hc
  case h_2=>cases hc
  rename_i c x y ho
  simp only[Bool.and_eq_true] at hc
  split at hv
  case h_2=>cases hv
  rename_i b hb
  cases hv
  exact zvU ho hc.1.1 hc.1.2 hc.2 ht hr hb
 | box sl sx =>
  simp only[chk1] at hc
  simp only[ev1] at hv
  split at hc
  case h_2=>cases hc
  rename_i t x ho
  split at hv
  case h_2=>cases hv
  rename_i cs hcs
  split at hv
  case isFalse=>cases hv
  rename_i hf
  cases hv
  exact zw7 ho hc ht hr hcs hf
 | alloc sl z =>
  simp only[chk1] at hc
  simp only[ev1] at hv
  split at hc
  case h_2=>cases hc
  rename_i t ho
  split at hv
  case isFalse=>cases hv
  rename_i hf
  cases hv
  obtain⟨i,zv,h1,h2,h3⟩:=zdG hc
  exact zt0 ho h1 h2 h3 hr hf
 | build z qs =>
  simp only[chk1] at hc
  split at hc
  case h_2=>cases hc
  rename_i t ps ho
  simp only[Bool.and_eq_true] at hc
  obtain⟨i,zv,h1,h2,h3⟩:=zdG hc.1.1
  exact zt7 ho h1 h2 h3 hc.1.2 hc.2 ht hr hv
 | bslice k z qs =>
  simp only[chk1] at hc
  split at hc
  case h_2=>cases hc
  rename_i t k' ps ho
  split at hc
  case h_2=>cases hc
  rename_i el hel
  simp only[Bool.and_eq_true,beq_iff_eq,decide_eq_true_eq] at hc
  obtain⟨⟨⟨⟨⟨rfl,hz⟩,hsz⟩,h0⟩,hk⟩,hp⟩:=hc
  obtain⟨i,zv,h1,h2,h3⟩:=zdG hz
  obtain⟨i',h1',h2'⟩:=zbt hsz
  rw[h1] at h1'; cases h1'
  exact zso ho hel h1 h2' h0 hk h2 h3 hp ht hr hv
 | load sz ag old sx =>
  simp only[chk1] at hc
  split at hc
  case h_2=>cases hc
  rename_i t x ho
  simp only[Bool.and_eq_true] at hc
  exact zmy ho hc.1 hc.2 ht hr hv
 | store sz sx sy =>
  simp only[chk1] at hc
  split at hc
  case h_2=>cases hc
  rename_i t x y ho
  simp only[Bool.and_eq_true] at hc
  obtain⟨i,h1,h2⟩:=zbt hc.2
  exact zlk ho hc.1.1 hc.1.2 (by rw[h1]; simp[h2]) ht hr hv
 | faddr off sx =>
  simp only[chk1] at hc
  split at hc
  case h_2=>cases hc
  rename_i t x f ho
  split at hc
  case h_2=>cases hc
  rename_i ft hft
  simp only[Bool.and_eq_true] at hc
  obtain⟨h1,h2⟩:=hc
  split at h2
  ·rename_i i hi
   exact zt1 ho h1 hft hi (by simpa using h2) ht hr hv
  ·cases h2
 | fld off sz ag sx =>
  simp only[chk1] at hc
  split at hc
  case h_2=>cases hc
  rename_i t x f ho
  split at hc
  case h_2=>cases hc
  rename_i ft hft
  simp only[Bool.and_eq_true] at hc
  exact zw8 ho hc.1 hft hc.2 ht hr hv
 | iaddr sz sx sy =>
  simp only[chk1] at hc
  split at hc
  case h_2=>cases hc
  rename_i t x y ho
  split at hc
  case h_2=>cases hc
  rename_i el hel
  simp only[Bool.and_eq_true] at hc
  obtain⟨i,h1,h2⟩:=zbt hc.2
  exact zt2 ho hc.1.1 hc.1.2 hel h1 h2 ht hr hv
 | iaddrA len sz sx sy =>
  simp only[chk1] at hc
  split at hc
  case h_2=>cases hc
  rename_i t x y ho
  split at hc
  case h_2=>cases hc
  rename_i k el hel
  simp only[Bool.and_eq_true,beq_iff_eq] at hc
  obtain⟨⟨⟨rfl,h3⟩,h4⟩,h5⟩:=hc
  obtain⟨i,h1,h2⟩:=zbt h5
  exact zsm ho h3 h4 hel h1 h2 ht hr hv
 | idx len sz ag sx sy =>
  simp only[chk1] at hc
  split at hc
  case h_2=>cases hc
  rename_i t x y ho
  split at hc
  case h_2=>cases hc
  rename_i k el hel
  simp only[Bool.and_eq_true,beq_iff_eq] at hc
  obtain⟨⟨⟨rfl,h3⟩,h4⟩,h5⟩:=hc
  exact zw9 ho h3 h4 hel h5 ht hr hv
 | bin op sx sy =>
  simp only[chk1] at hc
  split at hc
  case h_2=>cases hc
  rename_i op' xt x y yt ho
  simp only[Bool.and_eq_true,beq_iff_eq] at hc
  obtain⟨⟨rfl,h3⟩,h4⟩:=hc
  exact zxa ho h3 h4 ht hr hv
 | beq neg sx sy =>
  simp only[chk1] at hc
  split at hc
  case h_2=>cases hc
  rename_i op' xt x y yt ho
  simp only[Bool.and_eq_true,beq_iff_eq] at hc
  obtain⟨⟨⟨rfl,h2⟩,h3⟩,h4⟩:=hc
  exact zxb ho h3 h4 (zf8 h2) ht hr hv
 | un op sx =>
  simp only[chk1] at hc
  split at hc
  case h_2=>cases hc
  rename_i op' xt x ho
  simp only[Bool.and_eq_true,beq_iff_eq] at hc
  obtain⟨rfl,h3⟩:=hc
  exact zAN ho h3 ht hr hv
 | conv k sx =>
  simp only[chk1] at hc
  split at hc
  case h_2=>cases hc
  rename_i st dt x ho
  simp only[Bool.and_eq_true] at hc
  obtain⟨sd,hsd⟩:=Option.isSome_iff_exists.1 hc.1.1
  exact zvV ho hc.2 hsd (ze3 hc.1.2) ht hr hv
 | mkfn f cap =>
  simp only[chk1] at hc
  simp only[ev1,Option.some.injEq,Prod.mk.injEq] at hv
  obtain⟨rfl,rfl⟩:=hv
  split at hc
  case h_2=>cases hc
  rename_i f' first cap' ho
  simp only[Bool.and_eq_true,beq_iff_eq,Array.isEmpty_iff] at hc
  obtain⟨⟨h1,rfl⟩,h3⟩:=hc
  exact zvW ho h1 h3 ht hr
 | ext i sx =>
  simp only[chk1] at hc
  split at hc
  case h_2=>cases hc
  rename_i x i' ho
  simp only[Bool.and_eq_true,beq_iff_eq] at hc
  obtain⟨rfl,h3⟩:=hc
  exact zxc ho h3 ht hr hv
 | len st sx =>
  simp only[chk1] at hc
  split at hc
  case h_2=>cases hc
  rename_i args argTypes ho
  split at hc
  case h_2=>cases hc
  rename_i x t h1 h2
  rw[arr1 h1,arr1 h2] at ho
  simp only[Bool.and_eq_true] at hc
  refine zxd ho hc.1 ?_ ht hr hv
  cases st with
  | true=>simpa using zbZ (by simpa using hc.2)
  | false=>simp only[Bool.false_eq_true,if_false] at hc ⊢; exact Option.isSome_iff_exists.1 hc.2
 | app sl sz bytes sx sy =>
  simp only[chk1] at hc
  split at hc
  case h_2=>cases hc
  rename_i args argTypes ho
  split at hc
  case h_2=>cases hc
  rename_i x y t t' h1 h2
  rw[arr2 h1,arr2 h2] at ho
  simp only[Bool.and_eq_true] at hc
  exact zxe ho hc.1.1 hc.1.2 hc.2 ht hr hv
 | appG last sl sz bytes sx sy =>
  simp only[chk1] at hc
  split at hc
  case h_2=>cases hc
  rename_i args argTypes ho
  split at hc
  case h_2=>cases hc
  rename_i x y t t' h1 h2
  rw[arr2 h1,arr2 h2] at ho
  simp only[Bool.and_eq_true] at hc
  exact zvX ho hc.1.1 hc.1.2 hc.2 ht hr hv
 | slc sz sx slo shi smx =>
  simp only[chk1] at hc
  split at hc
  case h_2=>cases hc
  rename_i t x lo hi mx ho
  split at hc
  case h_2=>cases hc
  rename_i el hel
  simp only[Bool.and_eq_true] at hc
  obtain⟨⟨⟨⟨h1,h2⟩,h3⟩,h4⟩,h5⟩:=hc
  obtain⟨i,h6,h7⟩:=zbt h2
  exact zxf ho h1 hel h6 h7 h3 h4 h5 ht hr hv
 | nilck sx =>
  simp only[chk1] at hc
  split at hc
  case h_2=>cases hc
  rename_i x ho
  exact zt3 ho hc ht hr hv
 | mksl s bytes z sx =>
  simp only[chk1] at hc
  split at hc
  case h_2=>cases hc
  rename_i t l c ho
  split at hc
  case h_2=>cases hc
  rename_i el hel
  simp only[Bool.and_eq_true,decide_eq_true_eq] at hc
  obtain⟨⟨⟨⟨⟨h1,h2⟩,h3⟩,h4⟩,h5⟩,h6⟩:=hc
  obtain⟨i,zv,h7,h8,h9⟩:=zdG h3
  obtain⟨i',h1',h2'⟩:=zbt h4
  rw[h7] at h1'; cases h1'
  rw[h7] at h6
  simp only[Bool.and_eq_true,beq_iff_eq,decide_eq_true_eq] at h6
  exact zv0 ho h1 h2 hel h7 h2' h6.1 h6.2 h5 h8 h9 ht hr hv
 | aeq ks neg sx sy =>
  simp only[chk1] at hc
  split at hc
  case h_2=>cases hc
  rename_i op' xt x y yt ho
  simp only[Bool.and_eq_true,beq_iff_eq,Bool.not_eq_true'] at hc
  obtain⟨⟨⟨⟨⟨rfl,h1⟩,h2⟩,h3⟩,h4⟩,h5⟩:=hc
  exact zxh ho h4 h5 h1 h2 h3 ht hr hv
 | nileq k neg sx =>
  simp only[chk1] at hc
  split at hc
  case h_2=>cases hc
  rename_i op' xt x y yt ho
  simp only[Bool.and_eq_true,beq_iff_eq] at hc
  obtain⟨⟨rfl,h1⟩,h2⟩:=hc
  exact zt8 ho h2 h1 ht hr hv
 | mm mx xs =>
  simp only[chk1] at hc
  split at hc
  case h_2=>cases hc
  rename_i b args ts ho
  simp only[Bool.and_eq_true] at hc
  have hb:b=(if mx then .max else .min):=by
   have:=hc.1
   split at this<;>first|rfl|cases this
  subst hb
  exact zAO ho hc.2 ht hr hv
 | sidx sx sy =>
  simp only[chk1] at hc
  split at hc
  case h_2=>cases hc
  rename_i t x y ho
  simp only[Bool.and_eq_true] at hc
  exact zv2 ho hc.1.2 hc.2 (zbZ hc.1.1) ht hr hv
 | sslc sx slo shi =>
  simp only[chk1] at hc
  split at hc
  case h_2=>cases hc
  rename_i t x lo hi ho
  simp only[Bool.and_eq_true] at hc
  exact zv3 ho hc.1.1.2 (zbZ hc.1.1.1) hc.1.2 hc.2 ht hr hv
 | mkmap s =>
  simp only[chk1] at hc
  split at hc
  case h_2=>cases hc
  rename_i t ho
  exact zt9 ho hr hv
 | mget ky ok z sx sy =>
  simp only[chk1] at hc
  split at hc
  case h_2=>cases hc
  rename_i t x y ok' ho
  split at hc
  case h_2=>cases hc
  rename_i kt el hm
  simp only[Bool.and_eq_true,beq_iff_eq] at hc
  obtain⟨⟨⟨⟨rfl,h1⟩,h2⟩,h3⟩,h4⟩:=hc
  exact zv4 ho h3 h4 hm h1 h2 ht hr hv
 | mput ky sx sy sz =>
  simp only[chk1] at hc
  split at hc
  ·rename_i t x y z ho
   split at hc
   case h_2=>cases hc
   rename_i kt el hm
   simp only[Bool.and_eq_true] at hc
   exact zqo (.inl ho) hc.1.1.2 hc.1.2 hc.2 hm hc.1.1.1 ht hr hv
  ·rename_i t x y z ho
   split at hc
   case h_2=>cases hc
   rename_i kt el hm
   simp only[Bool.and_eq_true] at hc
   exact zqo (.inr ho) hc.1.1.2 hc.1.2 hc.2 hm hc.1.1.1 ht hr hv
  ·cases hc
 | rng s sx =>
  simp only[chk1] at hc
  split at hc
  case h_2=>cases hc
  rename_i t x ho
  simp only[Bool.and_eq_true] at hc
  exact zxi ho hc.2 (zbZ hc.1) ht hr hv
 | nxt sx =>
  simp only[chk1] at hc
  split at hc
  case h_2=>cases hc
  rename_i x ho
  exact zxj ho hc ht hr hv
 | loadR sz ag r sx =>
  simp only[chk1] at hc
  split at hc
  case h_2=>cases hc
  rename_i t x ho
  simp only[Bool.and_eq_true] at hc
  refine zmy (base:=base) (old:=false) ho hc.1 hc.2 ht hr ?_
  simp only[ev1] at hv ⊢
  split at hv
  case h_2=>cases hv
  rename_i id off hp
  split at hv
  case isFalse=>cases hv
  rw[hp]
  simpa[loadAt] using hv
 | storeA sz rs sx sy =>
  simp only[chk1] at hc
  split at hc
  case h_2=>cases hc
  rename_i t x y ho
  simp only[Bool.and_eq_true] at hc
  obtain⟨i,h1,h2⟩:=zbt hc.2
  refine zlk (base:=base) (sz:=sz) ho hc.1.1 hc.1.2 (by rw[h1]; simp[h2]) ht hr ?_
  simp only[ev1] at hv ⊢
  split at hv
  case h_2=>cases hv
  rename_i id off hp
  split at hv
  case isFalse=>cases hv
  rw[hp]
  unfold storeAt at hv
  split at hv
  ·rename_i ds cs hds hcs
   rw[hds]
   simp only[hcs]
   exact hv
  ·cases hv
 | loadC sz ag sx =>
  simp only[chk1] at hc
  split at hc
  case h_2=>cases hc
  rename_i t x ho
  simp only[Bool.and_eq_true] at hc
  refine zmy (base:=base) (old:=false) ho hc.1 hc.2 ht hr ?_
  simp only[ev1] at hv ⊢
  split at hv
  case h_2=>cases hv
  rename_i cs hp
  rw[hp]
  exact hv
 | storeN s sz sx sy =>
  simp only[chk1] at hc
  split at hc
  case h_2=>cases hc
  rename_i t x y ho
  simp only[Bool.and_eq_true] at hc
  obtain⟨i,h1,h2⟩:=zbt hc.2
  refine zlk (base:=base) (sz:=sz) ho hc.1.1 hc.1.2 (by rw[h1]; simp[h2]) ht hr ?_
  simp only[ev1] at hv ⊢
  split at hv
  case h_2=>cases hv
  rename_i id off hp
  split at hv
  case isFalse=>cases hv
  rw[hp]
  unfold storeAt at hv
  split at hv
  ·rename_i ds cs hds hcs
   rw[hds]
   simp only[hcs]
   exact hv
  ·cases hv
 | b2s sx =>
  simp only[chk1] at hc
  split at hc
  case h_2=>cases hc
  rename_i st dt x ho
  simp only[Bool.and_eq_true] at hc
  obtain⟨⟨h1,h2⟩,h3⟩:=hc
  split at h1
  case h_2=>cases h1
  rename_i el hs
  exact zxk ho h3 hs (ze3 h1) (zbZ h2) ht hr hv
 | i2s x=>simp[chk1] at hc
 | s2b s x=>simp[chk1] at hc
 | ment ks z x k=>simp[chk1] at hc
 | mst x i v=>simp[chk1] at hc
 | bsliceR sp k z qs =>
  simp only[chk1] at hc
  split at hc
  case h_2=>cases hc
  rename_i t k' ps ho
  split at hc
  case h_2=>cases hc
  rename_i el hel
  simp only[Bool.and_eq_true,beq_iff_eq,decide_eq_true_eq] at hc
  obtain⟨⟨⟨⟨⟨rfl,hz⟩,hsz⟩,h0⟩,hk⟩,hp⟩:=hc
  obtain⟨i,zv,h1,h2,h3⟩:=zdG hz
  obtain⟨i',h1',h2'⟩:=zbt hsz
  rw[h1] at h1'; cases h1'
  exact zrc ho hel h1 h2' h0 hk h2 h3 hp ht hr hv
 | slcA len sz sx slo shi =>
  simp only[chk1] at hc
  split at hc
  case h_2=>cases hc
  rename_i t x lo hi ho
  split at hc
  case h_2=>cases hc
  rename_i k el hel
  simp only[Bool.and_eq_true,beq_iff_eq] at hc
  obtain⟨⟨⟨⟨rfl,h1⟩,h2⟩,h3⟩,h4⟩:=hc
  obtain⟨i,h5,h6⟩:=zbt h2
  exact zvY ho h1 hel h5 h6 h3 h4 ht hr hv
 | cpy sz sx sy =>
  simp only[chk1] at hc
  split at hc
  case h_2=>cases hc
  rename_i args argTypes ho
  split at hc
  case h_2=>cases hc
  rename_i x y t t' hargs htypes
  split at hc
  case h_2=>cases hc
  rename_i el hel
  simp only[Bool.and_eq_true] at hc
  obtain⟨i,h5,h6⟩:=zbt hc.2
  rw[arr2 hargs,arr2 htypes] at ho
  exact zxg ho hc.1.1 hc.1.2 hel h5 h6 ht hr hv
 | kcall ro f xs=>simp[chk1] at hc
 | pcall f xs=>simp[chk1] at hc
 | scall f xs=>simp[chk1] at hc
 | scallA rs f xs=>simp[chk1] at hc
 | scallE f xs=>simp[chk1] at hc
 | vcall ro f xs=>simp[chk1] at hc
def FOK(P:Program)(fm:Fm)(f:Nat)(args:List V)(H:Heap)(r:V)(H':Heap):Prop :=
 H.length≤H'.length∧∀(M:Mm) (w:World) (vargs:List Value),M.fm=fm→HRel M w H→EncL M w args vargs →
  ((∃ F, P.funcs[fm f]? = some F ∧ F.body.isSome = true ∧ F.name ≠ "runtime.NumGoroutine") ∧
  Calls P (fm f) vargs.toArray w fun en w'=>∃ rv M',en=.returned rv∧Enc M' w' r rv∧Stp M H w M' H' w'∧Ids M M' H.length∧HRel M' w' H')
abbrev FR(ro:Option Nat):Fence:={ Fence.wide with round:=ro }
def exOf:Ex→Exit
 | .nx=>.normal
 | .exit id=>.exit id
 | .ret=>.ret
def Mk(s:Nat)(a a':Act):Prop:=∀ d∈a'.defers,d∈a.defers∨∃ D,d.target=.collected D∧s≤D
theorem Mk.refl(s:Nat)(a:Act):Mk s a a:=fun d h=>.inl h
theorem Mk.of_eq{s:Nat}{a a':Act}(h:a'.defers=a.defers):Mk s a a':=fun d hd=>.inl (h▸hd)
theorem Mk.trans{s s':Nat}{a a' a'':Act}(h:Mk s a a')(k:Mk s' a' a'')(hs:s≤s'):Mk s a a'':=fun d hd=>by
 rcases k d hd with h1|⟨D,h1,h2⟩
 ·exact h d h1
 ·exact .inr ⟨D,h1,by omega⟩
def Post(M:Mm)(H:Heap)(w:World)(a:Act)(n:Nat)(k:Nat)(x:Ex)(e':Env)(H':Heap)(Q:Exit→Act→World→Prop):Prop :=
 ∀ a' w' M',RelT M' w' e' a' n→HRel M' w' H'→Stp M H w M' H' w'→Ids M M' k→Mk w.heap.size a a'→Q (exOf x) a' w'
def COKy(P:Program)(fm:Fm)(s:SCode)(e:Env)(H:Heap)(x:Ex)(e':Env)(H':Heap):Prop :=
 H.length≤H'.length∧∀(l n:Nat) (c:Code) (M:Mm) (w:World) (a:Act) (Q:Exit→Act→World→Prop),fm.chk n s c→RelT M w e a n→HRel M w H→M.fm=fm →
  Post M H w a n H.length x e' H' Q→c.wpIn (FR (some l)) 0 P Q a w
inductive SS (P:Program) (fm:Fm) (base:Nat) (o:SOper):Env→Heap→Env→Heap→Prop
 | ev {e H v H1}:wanted e o=some true→ev1 base e H o.op=some (v,H1)→SS P fm base o e H (e.put o.dst v) H1
 | skip {e H}:wanted e o=some false→SS P fm base o e H (e.put o.dst .skp) H
 | pcall {e H f xs r H1}:wanted e o=some true→o.op=.pcall f xs→FOK P fm f (outL (xs.map (X.ev e))) [] r H1→SS P fm base o e H (e.put o.dst (frz H1 r).out) H
 | scall {e H f xs r H1}:wanted e o=some true→o.op=.scall f xs→FOK P fm f (xs.map (X.ev e)) H r H1→SS P fm base o e H (e.put o.dst (r.cl H.length)) (zac H.length H1)
 | scallA {e H rs f xs r H1}:wanted e o=some true→o.op=.scallA rs f xs→FOK P fm f (xs.map (X.ev e)) H r H1→zjC e rs H (zac H.length H1)→SS P fm base o e H (e.put o.dst (r.cl H.length)) (zac H.length H1)
 | scallE {e H f xs r H1}:wanted e o=some true→o.op=.scallE f xs→FOK P fm f (xs.map (X.ev e)) H r H1→zlU base (xs.map (X.ev e)) H (zac H.length H1)→SS P fm base o e H (e.put o.dst (r.cl H.length)) (zac H.length H1)
 | kcall {e H ro f xs r H1}:wanted e o=some true→o.op=.kcall ro f xs→FOK P fm f (xs.map (X.ev e)) H r H1→(ro=true→base≤H.length∧H1.take H.length=H)→SS P fm base o e H (e.put o.dst r) H1
 | vcall {e H ro fx xs f cap r H1}:wanted e o=some true→o.op=.vcall ro fx xs→fx.ev e=.fn f cap→FOK P fm f (xs.map (X.ev e)++cap) H r H1→(ro=true→zac H.length H1=H) →
   SS P fm base o e H (e.put o.dst (r.cl H.length)) (zac H.length H1)
 | ycall {e H fx xs id e0 ps as bo e1 H1 f0 fps fas fbo x e2 H2 g0 gps gas gbo}:wanted e o=some true→o.op=.vcall false fx xs→fx.ev e=.yld id→H[id]?=some (some (.loop e0 ps as bo .ready))→xs.length=ps.length →
   COKy P fm as (putP ps (xs.map (X.ev e)) (mkE e0)) H .nx e1 H1→H1[id]?=some (some (.loop f0 fps fas fbo .ready))→COKy P fm bo e1 (H1.set id (some (.loop f0 fps fas fbo .busy))) x e2 H2 →
   H2[id]?=some (some (.loop g0 gps gas gbo .busy)) →
   SS P fm base o e H (e.put o.dst (.bool (decide (x=.nx)))) (zac H.length (H2.set id (some (.loop g0 gps gas gbo (if x=.nx then .ready else .done x)))))
def zbn(fm:Fm)(o:Op)(s:SOp):Bool :=
 match s with
 | .pcall f xs=>match o with
  | .call { callee:=.value (.func f'),args,argTypes:=_ }=>f'==fm f&&zby fm args.toList xs
  | _=>false
 | .scall f xs=>match o with
  | .call { callee:=.value (.func f'),args,argTypes:=_ }=>f'==fm f&&zby fm args.toList xs
  | _=>false
 | .scallA _ f xs=>match o with
  | .call { callee:=.value (.func f'),args,argTypes:=_ }=>f'==fm f&&zby fm args.toList xs
  | _=>false
 | .scallE f xs=>match o with
  | .call { callee:=.value (.func f'),args,argTypes:=_ }=>f'==fm f&&zby fm args.toList xs
  | _=>false
 | .kcall _ f xs=>match o with
  | .call { callee:=.value (.func f'),args,argTypes:=_ }=>f'==fm f&&zby fm args.toList xs
  | _=>false
 | .vcall _ fx xs=>match o with
  | .call { callee:=.value fo,args,argTypes:=_ }=>chkX fm fo fx&&zby fm args.toList xs
  | _=>false
 | _=>false
def zlq(ops:Array Oper)(g:Option (Nat×Bool))(s:Option (Nat×Bool)):Bool :=
 match g,s with
 | none,none=>true
 | some (j,want),some (t,want')=>want==want'&&(match(ops[j]?).bind (·.dst) with|some d=>d==t|none=>false)
 | _,_=>false
def zfU(P:Program)(fm:Fm)(n:Nat)(ops:Array Oper)(o:Oper)(s:SOper):Bool :=
 (match o.dst,s.dst with|none,none=>true|some d,some d'=>d==d'&&decide (d<n)|_,_=>false)&&zlq ops o.guard s.guard &&
  (chk1 P fm o.op s.op||zbn fm o.op s.op)
theorem zcu{e:Env}{a:Act}{n:Nat}{ops:Array Oper}{o:Oper}{s:SOper}{b:Bool}(hg:zlq ops o.guard s.guard=true)(ht:RelT M w e a n)(hw:wanted e s=some b) :
  Region.wanted o (yielded ops a.tmps)=b:=by
 unfold zlq at hg
 unfold wanted at hw
 unfold Region.wanted
 split at hg
 ·rename_i h1 h2
  simp only[h2,Option.some.injEq] at hw
  simp only[h1]
  exact hw
 ·rename_i j want t want' h1 h2
  simp only[h2] at hw
  simp only[h1]
  simp only[Bool.and_eq_true,beq_iff_eq] at hg
  obtain⟨rfl,hg⟩:=hg
  split at hg
  case h_2=>cases hg
  rename_i d hd
  simp only[beq_iff_eq] at hg
  subst hg
  split at hw
  case h_3=>cases hw
  case h_2 =>
   rename_i hc
   simp only[Option.some.injEq] at hw
   subst hw
   have:=ht.rel d
   rw[hc] at this
   simp only[Enc] at this
   have hy:yielded ops a.tmps j=none:=by
    unfold yielded
    simp only[hd,Option.bind_some]
    rw[Array.getD_eq_getD_getElem?] at this
    cases hq:a.tmps[d]? with
    | none=>rfl
    | some x=>rw[hq] at this; simp only[Option.getD_some] at this; subst this; rfl
   rw[hy]; rfl
  rename_i c hc
  simp only[Option.some.injEq] at hw
  subst hw
  have:=ht.rel d
  rw[hc] at this
  simp only[Enc] at this
  have hget:a.tmps[d]?=some (.bool c):=by
   rw[Array.getD_eq_getD_getElem?] at this
   cases hq:a.tmps[d]? with
   | none=>rw[hq] at this; simp[undef] at this
   | some x=>rw[hq] at this; simp at this; rw[this]
  simp[yielded,hd,hget]
 ·cases hg
theorem zua{e:Env}{a:Act}{n:Nat}{d:Option Nat}{v:V}{rv:Value}(ht:RelT M w e a n)(hd:∀ k,d=some k→k<n)(he:d.isSome=true→Enc M w v rv):RelT M w (e.put d v) (a.put d rv) n:=by
 cases d with
 | none=>exact ht
 | some k =>
  have hk:=hd k rfl
  refine⟨by simp[Act.put,ht.size],by simpa[Act.put] using ht.defers,fun i=>?_,ht.glo⟩
  simp only[Env.put_some,Act.put]
  have hs:=ht.size
  by_cases hi:i=k
  ·subst hi
   rw[if_pos rfl]
   rw[Array.getD_eq_getD_getElem?,Array.getElem?_setIfInBounds_self_of_lt (by omega)]
   exact he rfl
  ·rw[if_neg hi,Array.getD_eq_getD_getElem?,Array.getElem?_setIfInBounds_ne (by omega),←Array.getD_eq_getD_getElem?]
   exact ht.rel i
theorem zgi(hr:HRel M w H){D:Nat}{o:Option (List Deferred)}(hD:w.heap[D]?=some (.deferred o)):¬zck M H D:=by
 rintro⟨id,hid⟩
 unfold blOf at hid
 split at hid
 ·rename_i n hb
  have:=hr.rel id _ hb
  simp only[BRel,hid] at this
  obtain⟨_,_,_,_,_,xs,e,hc,_⟩:=this
  rw[hD] at hc; cases hc
 ·rename_i blk hn hb
  have:=hr.rel id _ hb
  simp only[Option.some.injEq] at hid
  subst hid
  cases blk with
  | zone n=>exact absurd rfl (hn n)
  | cells cs=>simp only[BRel] at this; obtain⟨_,_,xs,e,hc,_⟩:=this; rw[hD] at hc; cases hc
  | froz cs=>simp only[BRel] at this; obtain⟨_,_,xs,e,hc,_⟩:=this; rw[hD] at hc; cases hc
  | map es=>simp only[BRel] at this; obtain⟨_,ents,hc,_⟩:=this; rw[hD] at hc; cases hc
  | siter t pos=>simp only[BRel] at this; rw[hD] at this; cases this.2
  | loop e0 ps as bo st=>simp only[BRel] at this; obtain⟨_,r,hc,_⟩:=this; rw[hD] at hc; cases hc
  | grow cs sz=>simp only[BRel] at this; obtain⟨_,_,_,_,xs,e,hc,_⟩:=this; rw[hD] at hc; cases hc
 ·cases hid
theorem zf9{a:Act}{H':Heap}(h:Stp M H w M' H' w')(hr:HRel M w H)(hd:a.defers.Nodup∧∀ d∈a.defers,∃ D,d={ target:=.collected D,args:=#[] }∧w.heap[D]?=some (.deferred (some []))) :
  a.defers.Nodup∧∀ d∈a.defers,∃ D,d={ target:=.collected D,args:=#[] }∧w'.heap[D]?=some (.deferred (some [])) :=
 ⟨hd.1,fun d hm=>by
  obtain⟨D,h1,h2⟩:=hd.2 d hm
  exact⟨D,h1,(h.same D (Array.getElem?_eq_some_iff.1 h2).1 (zgi hr h2)).trans h2⟩⟩
theorem RelT.step{e:Env}{a:Act}{n:Nat}{H':Heap}(h:Stp M H w M' H' w')(hr:HRel M w H)(hi:Ids M M' H.length)(ht:RelT M w e a n):RelT M' w' e a n :=
 ⟨ht.size,zf9 h hr ht.defers,fun i=>Enc.step h hr hi (ht.rel i),ht.glo.step h hr hi⟩
end Go.Ev
/- One checked operation is sound; regions in the text's order. -/
namespace Go.Ev
open Go Go.RowKit
variable {P:Program} {M M':Mm} {H H1:Heap} {w w':World} {fm:Fm}
mutual
theorem Enc.free{M1 M2:Mm}(ha:∀ id,M1.al id=false)(hl:∀ b o,Rd M1 b o→Rd M2 b o)(hf:∀ f,M2.fm f=M1.fm f):∀{c:V} {x:Value},Enc M1 w c x→Enc M2 w c x
 | .undef,_,_=>by simp only[Enc]
 | .skp,_,e=>by simpa only[Enc] using e
 | .any,_,e=>by simpa only[Enc] using e
 | .int _ _,_,e=>by simpa only[Enc] using e
 | .bool _,_,e=>by simpa only[Enc] using e
 | .str _,_,e=>by simpa only[Enc] using e
 | .nilp,_,e=>by simpa only[Enc] using e
 | .nilf,_,e=>by simpa only[Enc] using e
 | .nilm,_,e=>by simpa only[Enc] using e
 | .mp id,_,e=>by simp only[Enc,ha] at e; exact absurd e.1 (by simp)
 | .yld id,_,e=>by simp only[Enc,ha] at e; exact absurd e.1 (by simp)
 | .gs id k,_,e=>by simp only[Enc,ha] at e; exact absurd e.1 (by simp)
 | .ptr id off,_,e=>by simp only[Enc,ha] at e; exact absurd e.1 (by simp)
 | .rs id off k _,_,e=>by simp only[Enc,ha] at e; exact absurd e.1 (by simp)
 | .cptr cs,_,e=>by
  simp only[Enc] at e ⊢
  obtain⟨p,b,o,hv,e⟩:=e
  exact⟨p,b,o,hv,zar.free ha hl hf e⟩
 | .vs es tk,_,e=>by
  simp only[Enc] at e ⊢
  obtain⟨p,a,cap,hv,hc,hs,ht⟩:=e
  refine⟨p,a,cap,hv,hc,?_,?_⟩
  ·cases a with
   | none=>exact hs
   | some ad=>exact⟨hs.1,hs.2.1,zaq.free ha hl hf hs.2.2⟩
  ·cases tk with
   | no=>trivial
   | full=>exact ht
   | own q=>simp only[TkOk,ha] at ht; exact absurd ht.1 (by simp)
 | .fn f cap,_,e=>by
  simp only[Enc] at e ⊢
  obtain⟨xs,hv,e⟩:=e
  exact⟨xs,by rw[hf]; exact hv,EncL.free ha hl hf e⟩
 | .agg cs,_,e=>by
  simp only[Enc] at e ⊢
  obtain⟨p,xs,hv,e⟩:=e
  exact⟨p,xs,hv,EncL.free ha hl hf e⟩
 | .tup cs,_,e=>by
  simp only[Enc] at e ⊢
  obtain⟨xs,hv,e⟩:=e
  exact⟨xs,hv,EncL.free ha hl hf e⟩
theorem EncL.free{M1 M2:Mm}(ha:∀ id,M1.al id=false)(hl:∀ b o,Rd M1 b o→Rd M2 b o)(hf:∀ f,M2.fm f=M1.fm f):∀{cs:List V} {xs:List Value},EncL M1 w cs xs→EncL M2 w cs xs
 | [],_,e=>by simpa only[EncL] using e
 | c::cs,_,e=>by
  simp only[EncL] at e ⊢
  obtain⟨x,xs',hv,e1,e2⟩:=e
  exact⟨x,xs',hv,Enc.free ha hl hf e1,EncL.free ha hl hf e2⟩
theorem zar.free{M1 M2:Mm}(ha:∀ id,M1.al id=false)(hl:∀ b o,Rd M1 b o→Rd M2 b o)(hf:∀ f,M2.fm f=M1.fm f){b:Nat}:∀{cs:List V} {o:Nat},zar M1 w b cs o→zar M2 w b cs o
 | [],_,_=>by simp only[zar]
 | c::cs,o,e=>by
  simp only[zar] at e ⊢
  obtain⟨⟨x,hx,rd,e1⟩,e2⟩:=e
  exact⟨⟨x,hx,hl _ _ rd,Enc.free ha hl hf e1⟩,zar.free ha hl hf e2⟩
theorem zaq.free{M1 M2:Mm}(ha:∀ id,M1.al id=false)(hl:∀ b o,Rd M1 b o→Rd M2 b o)(hf:∀ f,M2.fm f=M1.fm f){b:Nat}:∀{es:List (List V)} {o:Nat},zaq M1 w b es o→zaq M2 w b es o
 | [],_,_=>by simp only[zaq]
 | e::es,o,k=>by
  simp only[zaq] at k ⊢
  exact⟨zar.free ha hl hf k.1,zaq.free ha hl hf k.2⟩
end
theorem znq(M:Mm)(id:Nat):(M.upto 0).al id=false:=by simp[Mm.upto]
theorem zrg(H:Heap):zac 0 H=[]:=by simp[zac]
theorem zfV{o:Oper}{a:Act}{f:FuncId}{args:Array Operand}{ts:Array TypeId}{fo:Operand}{caps:Array Value}(ho:o.op=.call { callee:=.value fo,args:=args,argTypes:=ts })
  (hf : a.eval fo = .func (.func f) #[] caps) (hF : ∃ F, P.funcs[f]? = some F ∧ F.body.isSome = true ∧ F.name ≠ "runtime.NumGoroutine") :
  (execOp a.eval o).run P w=.ok (.enter f (args.map a.eval++caps)) w:=by
 obtain⟨F,h1,h2,h3⟩:=hF
 cases hb:F.body with
 | none=>rw[hb] at h2; cases h2
 | some c=>simp[execOp,ho,resolve,hf,Deferred.ofValue,invoke,callFunc,h1,h3,hb]
theorem Enc.pure'{M1 M2:Mm}(hl:∀ b o,Rd M1 b o→Rd M2 b o)(hf:∀ f,M2.fm f=M1.fm f){c:V}{x:Value}(hp:c.pure=true)(h:Enc M1 w c x):Enc M2 w c x:=by
 have:=Enc.free (M1:=M1.upto 0) (M2:=M2) (fun id=>znq M1 id) hl hf (Enc.upto 0 h)
 rwa[V.cl_pure 0 c hp] at this
theorem zia{sz:Nat}:∀{k:Nat} {cs:List V},k*sz≤cs.length→(zbb sz k cs).flatten=cs.take (k*sz)∧(zbb sz k cs).length=k∧∀ e∈zbb sz k cs,e.length=sz∧∀ c∈e,c∈cs
 | 0,cs,_=>by simp[zbb]
 | k+1,cs,h=>by
  rw[Nat.add_mul,Nat.one_mul] at h
  obtain⟨h1,h2,h3⟩:=zia (sz:=sz) (k:=k) (cs:=cs.drop sz) (by rw[List.length_drop]; omega)
  refine⟨?_,by simp[zbb,h2],?_⟩
  ·simp only[zbb,List.flatten_cons,h1]
   rw[Nat.add_mul,Nat.one_mul,Nat.add_comm,List.take_add]
  ·intro e he
   simp only[zbb,List.mem_cons] at he
   rcases he with rfl|he
   ·exact⟨by rw[List.length_take]; omega,fun c hc=>List.mem_of_mem_take hc⟩
   ·exact⟨(h3 e he).1,fun c hc=>List.mem_of_mem_drop ((h3 e he).2 c hc)⟩
theorem Enc.nf1{c:V}{x:Value}(h:Enc M w c x):Enc M w c.nf1 x:=by
 cases c<;>first|exact h|skip
 simp only[V.nf1,Enc] at h ⊢
 obtain⟨p,a,cap,hv,hc,hs,_⟩:=h
 exact⟨p,a,cap,hv,hc,hs,trivial⟩
theorem EncL.map_of{g:V→V}(hg:∀{c:V} {x:Value},Enc M w c x→Enc M w (g c) x):∀{cs:List V} {xs:List Value},EncL M w cs xs→EncL M w (cs.map g) xs
 | [],_,h=>by simpa only[EncL,List.map_nil] using h
 | c::cs,_,h=>by
  simp only[EncL,List.map_cons] at h ⊢
  obtain⟨x,xs',rfl,h1,h2⟩:=h
  exact⟨x,xs',rfl,hg h1,EncL.map_of hg h2⟩
theorem V.nf1_scal(c:V):c.nf1.scal=c.scal:=by cases c<;>rfl
theorem Enc.nf2{c:V}{x:Value}(h:Enc M w c x):Enc M w c.nf2 x:=by
 cases c<;>first|exact h|exact Enc.nf1 h|skip
 simp only[V.nf2,Enc] at h ⊢
 obtain⟨p,xs,hv,he⟩:=h
 refine⟨?_,xs,hv,EncL.map_of Enc.nf1 he⟩
 intro c hc
 obtain⟨d,hd,rfl⟩:=List.mem_map.1 hc
 rw[V.nf1_scal]; exact p d hd
theorem Enc.nf{c:V}{x:Value}(h:Enc M w c x):Enc M w c.nf x:=by
 cases c<;>first|exact Enc.nf2 h|skip
 simp only[V.nf,Enc] at h ⊢
 obtain⟨xs,hv,he⟩:=h
 exact⟨xs,hv,EncL.map_of Enc.nf2 he⟩
theorem zub{cs:List V}{xs:List Value}(h:EncL M w (clL 0 cs) xs):EncL M w (outL cs) xs:=by
 rw[zan] at h
 have:=EncL.map_of Enc.nf h
 rw[List.map_map] at this
 exact this
theorem zoH{H':Heap}{M2:Mm}{r:V}{rv:Value}(he:Enc M' w' r rv)(hr:HRel M' w' H')(hl:∀ b o,Rd M' b o→Rd M2 b o)(hn:∀ b,zck M' H' b→∀ o,Rd M2 b o)(hf:∀ f,M2.fm f=M'.fm f):Enc M2 w' ((frz1 H' r).cl 0) rv:=by
 have plain:Enc M2 w' (r.cl 0) rv:=Enc.free (M1:=M'.upto 0) (fun id=>znq M' id) hl hf (Enc.upto 0 he)
 cases r<;>simp only[frz1]<;>try exact plain
 rename_i id off n sz
 cases hb:H'[id]? with
 | none=>exact plain
 | some ob=>cases ob with
  | none=>exact plain
  | some blk=>cases blk with
   | zone k=>exact plain
   | froz k=>exact plain
   | map k=>exact plain
   | siter k q=>exact plain
   | loop e0 ps as bo st=>exact plain
   | grow k q=>exact plain
   | cells cs =>
    simp only
    by_cases hc:off+n*sz≤cs.length∧cs.all V.pure=true
    ·rw[if_pos hc]
     obtain⟨hle,hpu⟩:=hc
     have hpu:=List.all_eq_true.1 hpu
     simp only[Enc] at he
     obtain⟨ha,cap,rfl,hcap⟩:=he
     have hb':=hr.rel id _ hb
     simp only[BRel] at hb'
     obtain⟨_,_,xs,te,hh,hE⟩:=hb'
     obtain⟨h1,h2,h3⟩:=zia (sz:=sz) (k:=n) (cs:=cs.drop off) (by rw[List.length_drop]; omega)
     have hown:zck M' H' (M'.j id):=⟨id,by simp[blOf,hb]⟩
     simp only[V.cl,Tk.cl,Enc]
     refine⟨fun e he c hc=>hpu c (List.mem_of_mem_drop ((h3 e he).2 c hc)),some ⟨M'.j id,off,none⟩,cap,by rw[h2],by rw[h2]; exact hcap,⟨.inr rfl,⟨sz,fun e he=>(h3 e he).1⟩,?_⟩,trivial⟩
     rw[zef,h1]
     refine zcP fun i c hc=>?_
     rw[List.getElem?_take] at hc
     split at hc
     ·rw[List.getElem?_drop] at hc
      obtain⟨x,hx,hex⟩:=zaR hE hc
      refine⟨x,?_,hn _ hown _,Enc.pure' hl hf (hpu c (List.mem_of_getElem? hc)) hex⟩
      rw[cell_of_row w' (M'.j id) (off+i) xs te (0,0) hh]
      exact zkv hx
     ·cases hc
    ·rw[if_neg hc]; exact plain
theorem zv5{H':Heap}{M2:Mm}{r:V}{rv:Value}(he:Enc M' w' r rv)(hr:HRel M' w' H')(hl:∀ b o,Rd M' b o→Rd M2 b o)(hn:∀ b,zck M' H' b→∀ o,Rd M2 b o)(hf:∀ f,M2.fm f=M'.fm f):Enc M2 w' ((frz H' r).cl 0) rv:=by
 cases r<;>simp only[frz]<;>try exact zoH he hr hl hn hf
 rename_i vs
 simp only[Enc] at he
 obtain⟨xs,rfl,he⟩:=he
 simp only[V.cl,Enc]
 refine⟨xs,rfl,?_⟩
 rw[zan,List.map_map]
 refine zcp (by have:=zah he; simpa using this) fun i c x hc hx=>?_
 rw[List.getElem?_map,Option.map_eq_some_iff] at hc
 obtain⟨u,hu,rfl⟩:=hc
 obtain⟨x',hx',he'⟩:=zaR he hu
 rw[hx] at hx'; cases hx'
 exact zoH he' hr hl hn hf
theorem zss(hr:HRel M w H){H':Heap}{r:V}{rv:Value}(he:Enc M' w' r rv)(hs:Stp (M.upto 0) [] w M' H' w')(hr':HRel M' w' H') :
  ∃ M'',Stp M H w M'' H w'∧Ids M M'' H.length∧HRel M'' w' H∧Enc M'' w' (frz H' r).out rv:=by
 have hno:∀ b,¬zck (M.upto 0) [] b:=by
  rintro b ⟨id,hid⟩
  simp[blOf] at hid
 have g:Grew w w':=⟨hs.os,hs.tape,hs.output,hs.size,fun b hb=>hs.same b hb (hno b)⟩
 obtain⟨s,i,r'⟩:=zha (M':={ M with lim:=fun b=>if b<w.heap.size then M.lim b else none }) hr g ⟨rfl,rfl,rfl,rfl,fun b hb=>by simp[hb]⟩
 refine⟨_,s,i,r',?_⟩
 refine Enc.nf (zv5 (M2:={ M with lim:=fun b=>if b<w.heap.size then M.lim b else none }) he hr' (fun b o rd l hl=>?_) (fun b ho o l hl=>?_) (fun f=>by rw[hs.fm]; rfl))
 ·simp only at hl
  split at hl
  ·rename_i hb
   exact rd l (by rw[hs.limo b hb (hno b)]; exact hl)
  ·cases hl
 ·simp only at hl
  split at hl
  ·rename_i hb
   exact absurd (hs.own b hb ho) (hno b)
  ·cases hl
theorem zdH{ro:Option Nat}{ρ:Operand→Value}{o:Oper}(h:∀ c,o.op≠.defer c):Oper.semAt ro ρ o=execOp ρ o:=by
 cases ro with
 | none=>rfl
 | some l=>exact Oper.semAt_some l ρ o h
theorem zfW{ro:Option Nat}{n:Nat}{f:FuncId}{args:Array Value}{R:Ending→World→Prop}(h:Calls P f args w R):CallsIn (FR ro) n P f args w R:=(callsIn_wide (n:=n)).2 h
theorem zrh{o:Op}{s:SOp}(h:chk1 P fm o s=true):∀ c,o≠.defer c:=by
 rintro c rfl
 cases s<;>simp[chk1] at h
theorem zlr(hr:HRel M w H){id:Nat}{e0:List (Nat×V)}{ps:List Nat}{as bo:SCode}{st st':LSt}{r r':Loop}(hb:H[id]?=some (some (.loop e0 ps as bo st)))(hw:w.heap[M.j id]?=some (.loop r))(ht:r'.tmps=r.tmps)(hp:r'.params=r.params)(ha:r'.assign=r.assign)(hbo:r'.body=r.body)
  (hs:zq8 st' r'):∃ M',Stp M H w M' (H.set id (some (.loop e0 ps as bo st'))) (w.putObj (M.j id) (.loop r'))∧Ids M M' H.length∧HRel M' (w.putObj (M.j id) (.loop r')) (H.set id (some (.loop e0 ps as bo st')))∧M'.j=M.j:=by
 have h0:=hr.rel id _ hb
 simp only[BRel] at h0
 obtain⟨hl0,r0,hc,h1,h2,h3,h4,h5⟩:=h0
 rw[hw] at hc
 cases hc
 have hlt:=(Array.getElem?_eq_some_iff.1 hw).1
 obtain⟨s,i,q⟩:=ziq (blk1:=.loop e0 ps as bo st') (w':=w.putObj (M.j id) (.loop r')) hr hb rfl rfl hl0 0 rfl rfl rfl World.putObj_size (fun b hb=>World.putObj_heap_other hb) fun hst hid=>by
  simp only[BRel]
  refine⟨by simp[Mm.limit],r',World.putObj_heap_same hlt,hs,?_,by rw[ht,ha]; exact h3,by rw[ht,hbo]; exact h4,fun p hp=>by rw[ht]; exact Enc.step hst hr hid (h5 p hp)⟩
  rw[LPs,hp,ht]; exact h2
 exact⟨_,s,i,q,rfl⟩
theorem zoI:∀{ps:List Nat} {vs:List V} {xs:List Value} {tmps:Array Value} {e:Env},EncL M w vs xs→(∀ p∈ps,p<tmps.size)→ps.length=vs.length→(∀ i,Enc M w (e i) (tmps.getD i undef)) →
  (∀ i,Enc M w (putP ps vs e i) (((ps.zip xs).foldl (fun(t:Array Value) (q:Nat×Value)=>t.setIfInBounds q.1 q.2) tmps).getD i undef))∧((ps.zip xs).foldl (fun(t:Array Value) (q:Nat×Value)=>t.setIfInBounds q.1 q.2) tmps).size=tmps.size
 | [],[],xs,tmps,e,h,_,_,he=>by
  simp only[EncL] at h; subst h
  exact⟨he,rfl⟩
 | [],_::_,_,_,_,_,_,hl,_=>by simp at hl
 | _::_,[],_,_,_,_,_,hl,_=>by simp at hl
 | p::ps,v::vs,xs,tmps,e,h,hp,hl,he=>by
  simp only[EncL] at h
  obtain⟨x,xs',rfl,h1,h2⟩:=h
  have hpt:=hp p (by simp)
  have:=zoI (ps:=ps) (vs:=vs) (xs:=xs') (tmps:=tmps.setIfInBounds p x) (e:=e.put (some p) v) h2 (fun q hq=>by simpa using hp q (by simp[hq])) (by simpa using hl) (fun i=>by
   simp only[Env.put_some]
   by_cases hi:i=p
   ·subst hi
    rw[if_pos rfl,Array.getD_eq_getD_getElem?,Array.getElem?_setIfInBounds_self_of_lt hpt]
    exact h1
   ·rw[if_neg hi,Array.getD_eq_getD_getElem?,Array.getElem?_setIfInBounds_ne (by omega),←Array.getD_eq_getD_getElem?]
    exact he i)
  exact⟨this.1,by rw[List.zip_cons_cons,List.foldl_cons,this.2]; simp⟩
theorem zqp{tmps:Array Value}:∀{e0:List (Nat×V)},(∀ p∈e0,Enc M w p.2 (tmps.getD p.1 undef))→∀ i,Enc M w (mkE e0 i) (tmps.getD i undef)
 | [],_,i=>by simp only[mkE,Enc]
 | (d,v)::e0,h,i=>by
  simp only[mkE]
  split
  ·rename_i hi; subst hi; exact h (i,v) (by simp)
  ·exact zqp (fun p hp=>h p (by simp[hp])) i
theorem SS.sound{ro:Option Nat}{base n:Nat}{s:SOper}{o:Oper}{ops:Array Oper}{e e1:Env}{a:Act}(h:SS P fm base s e H e1 H1)(hc:zfU P fm n ops o s=true)(ht:RelT M w e a n)(hr:HRel M w H)(hm:M.fm=fm)
  {K:Act→World→Prop} {Q:Exit→Act→World→Prop}
  (hk:∀ a' w' M',RelT M' w' e1 a' n→HRel M' w' H1→Stp M H w M' H1 w'→Ids M M' H.length→a'.defers=a.defers→K a' w') :
  if Region.wanted o (yielded ops a.tmps)=true then o.wpIn (FR ro) 0 P a w K Q else(∀ f,o.about P w a.eval=some f→(FR ro).fn f)∧K (a.put o.dst undef) w:=by
 subst hm
 unfold zfU at hc
 simp only[Bool.and_eq_true,Bool.or_eq_true] at hc
 obtain⟨⟨hd,hg⟩,hc⟩:=hc
 have hdst:o.dst=s.dst∧∀ k,s.dst=some k→k<n:=by
  split at hd
  ·rename_i h1 h2; exact⟨by rw[h1,h2],fun k hk=>by rw[h2] at hk; cases hk⟩
  ·rename_i d d' h1 h2
   simp only[Bool.and_eq_true,beq_iff_eq,decide_eq_true_eq] at hd
   obtain⟨rfl,hd⟩:=hd
   exact⟨by rw[h1,h2],fun k hk=>by rw[h2] at hk; cases hk; exact hd⟩
  ·cases hd
 obtain⟨hde,hdn⟩:=hdst
 -- what is done when the operation has left a value
 have fin:∀ w' M' rv v,Stp M H w M' H1 w'→Ids M M' H.length→HRel M' w' H1→Enc M' w' v rv→e1=e.put s.dst v→K (a.put o.dst rv) w':=by
  intro w' M' rv v h1 h2 h3 h4 h5
  subst h5
  rw[hde]
  exact hk _ _ _ (zua (RelT.step h1 hr h2 ht) hdn (fun _=>h4)) h3 h1 h2 (by cases s.dst<;>rfl)
 cases h with
 | ev hw hv =>
  rw[zcu hg ht hw,if_pos rfl]
  have hc1:chk1 P M.fm o.op s.op=true:=by
   rcases hc with hc|hc
   ·exact hc
   ·exfalso
    unfold zbn at hc
    split at hc
    ·rename_i hs; rw[hs] at hv; simp[ev1] at hv
    ·rename_i hs; rw[hs] at hv; simp[ev1] at hv
    ·rename_i hs; rw[hs] at hv; simp[ev1] at hv
    ·rename_i hs; rw[hs] at hv; simp[ev1] at hv
    ·rename_i hs; rw[hs] at hv; simp[ev1] at hv
    ·rename_i hs; rw[hs] at hv; simp[ev1] at hv
    ·cases hc
  obtain⟨nx,w',M',hrun,hnx,h1,h2,h3⟩:=zsr hc1 ht hr hv
  unfold Oper.wpIn
  refine⟨fun _ _=>trivial,?_⟩
  rw[zdH (zrh hc1),hrun]
  cases nx with
  | value rv=>exact fin _ _ _ _ h1 h2 h3 hnx rfl
  | skip =>
   simp only at hnx
   exact fin w' M' undef _ h1 h2 h3 (by rw[hnx]; simp only[Enc]) rfl
  | _=>exact hnx.elim
 | skip hw =>
  rw[zcu hg ht hw]
  simp only[Bool.false_eq_true,if_false]
  refine⟨fun _ _=>trivial,?_⟩
  exact fin w M undef .skp (Stp.refl M H w) (Ids.refl _ _) hr (by simp only[Enc]) rfl
 | pcall hw hop hf =>
  rename_i f xs r H2
  rw[zcu hg ht hw,if_pos rfl]
  have hcc:zbn M.fm o.op s.op=true:=by
   rcases hc with hc|hc
   ·rw[hop] at hc; simp[chk1] at hc
   ·exact hc
  rw[hop] at hcc
  simp only[zbn] at hcc
  split at hcc
  case h_2=>cases hcc
  rename_i f' args ts ho
  simp only[Bool.and_eq_true,beq_iff_eq] at hcc
  obtain⟨rfl,hxs⟩:=hcc
  have h0:HRel (M.upto 0) w []:=by have:=(zch hr 0).2.2; rwa[zrg] at this
  obtain⟨hF,hcall⟩:=hf.2 (M.upto 0) w (args.toList.map a.eval) rfl h0 (zub (EncL.upto 0 (zcb hxs ht)))
  have hrun:=zfV (P:=P) (w:=w) (a:=a) (caps:=#[]) ho rfl hF
  unfold Oper.wpIn
  refine⟨fun _ _=>trivial,?_⟩
  rw[zdH (by rw[ho]; simp),hrun]
  have hargs:args.map a.eval++#[]=(args.toList.map a.eval).toArray:=by apply Array.ext'; simp
  rw[hargs]
  refine⟨fun h=>by(cases h),zfW (hcall.mono ?_)⟩
  rintro en w' ⟨rv,M',rfl,he,hs,_,hr'⟩
  obtain⟨M'',h1,h2,h3,h4⟩:=zss hr he hs hr'
  exact fin _ _ _ _ h1 h2 h3 h4 rfl
 | scall hw hop hf =>
  rename_i f xs r H2
  rw[zcu hg ht hw,if_pos rfl]
  have hcc:zbn M.fm o.op s.op=true:=by
   rcases hc with hc|hc
   ·rw[hop] at hc; simp[chk1] at hc
   ·exact hc
  rw[hop] at hcc
  simp only[zbn] at hcc
  split at hcc
  case h_2=>cases hcc
  rename_i f' args ts ho
  simp only[Bool.and_eq_true,beq_iff_eq] at hcc
  obtain⟨rfl,hxs⟩:=hcc
  obtain⟨hF,hcall⟩:=hf.2 M w (args.toList.map a.eval) rfl hr (zcb hxs ht)
  have hrun:=zfV (P:=P) (w:=w) (a:=a) (caps:=#[]) ho rfl hF
  unfold Oper.wpIn
  refine⟨fun _ _=>trivial,?_⟩
  rw[zdH (by rw[ho]; simp),hrun]
  have hargs:args.map a.eval++#[]=(args.toList.map a.eval).toArray:=by apply Array.ext'; simp
  rw[hargs]
  refine⟨fun h=>by(cases h),zfW (hcall.mono ?_)⟩
  rintro en w' ⟨rv,M',rfl,he,hs,hi,hr'⟩
  obtain⟨s1,s2,s3⟩:=zch hr' H.length
  exact fin _ _ _ _ (hs.trans s1) (hi.trans s2 (Nat.le_refl _)) s3 (Enc.upto _ he) rfl
 | scallA hw hop hf _ =>
  rename_i rs f xs r H2
  rw[zcu hg ht hw,if_pos rfl]
  have hcc:zbn M.fm o.op s.op=true:=by
   rcases hc with hc|hc
   ·rw[hop] at hc; simp[chk1] at hc
   ·exact hc
  rw[hop] at hcc
  simp only[zbn] at hcc
  split at hcc
  case h_2=>cases hcc
  rename_i f' args ts ho
  simp only[Bool.and_eq_true,beq_iff_eq] at hcc
  obtain⟨rfl,hxs⟩:=hcc
  obtain⟨hF,hcall⟩:=hf.2 M w (args.toList.map a.eval) rfl hr (zcb hxs ht)
  have hrun:=zfV (P:=P) (w:=w) (a:=a) (caps:=#[]) ho rfl hF
  unfold Oper.wpIn
  refine⟨fun _ _=>trivial,?_⟩
  rw[zdH (by rw[ho]; simp),hrun]
  have hargs:args.map a.eval++#[]=(args.toList.map a.eval).toArray:=by apply Array.ext'; simp
  rw[hargs]
  refine⟨fun h=>by(cases h),zfW (hcall.mono ?_)⟩
  rintro en w' ⟨rv,M',rfl,he,hs,hi,hr'⟩
  obtain⟨s1,s2,s3⟩:=zch hr' H.length
  exact fin _ _ _ _ (hs.trans s1) (hi.trans s2 (Nat.le_refl _)) s3 (Enc.upto _ he) rfl
 | scallE hw hop hf _ =>
  rename_i f xs r H2
  rw[zcu hg ht hw,if_pos rfl]
  have hcc:zbn M.fm o.op s.op=true:=by
   rcases hc with hc|hc
   ·rw[hop] at hc; simp[chk1] at hc
   ·exact hc
  rw[hop] at hcc
  simp only[zbn] at hcc
  split at hcc
  case h_2=>cases hcc
  rename_i f' args ts ho
  simp only[Bool.and_eq_true,beq_iff_eq] at hcc
  obtain⟨rfl,hxs⟩:=hcc
  obtain⟨hF,hcall⟩:=hf.2 M w (args.toList.map a.eval) rfl hr (zcb hxs ht)
  have hrun:=zfV (P:=P) (w:=w) (a:=a) (caps:=#[]) ho rfl hF
  unfold Oper.wpIn
  refine⟨fun _ _=>trivial,?_⟩
  rw[zdH (by rw[ho]; simp),hrun]
  have hargs:args.map a.eval++#[]=(args.toList.map a.eval).toArray:=by apply Array.ext'; simp
  rw[hargs]
  refine⟨fun h=>by(cases h),zfW (hcall.mono ?_)⟩
  rintro en w' ⟨rv,M',rfl,he,hs,hi,hr'⟩
  obtain⟨s1,s2,s3⟩:=zch hr' H.length
  exact fin _ _ _ _ (hs.trans s1) (hi.trans s2 (Nat.le_refl _)) s3 (Enc.upto _ he) rfl
 | kcall hw hop hf _ =>
  rename_i ro f xs r
  rw[zcu hg ht hw,if_pos rfl]
  have hcc:zbn M.fm o.op s.op=true:=by
   rcases hc with hc|hc
   ·rw[hop] at hc; simp[chk1] at hc
   ·exact hc
  rw[hop] at hcc
  simp only[zbn] at hcc
  split at hcc
  case h_2=>cases hcc
  rename_i f' args ts ho
  simp only[Bool.and_eq_true,beq_iff_eq] at hcc
  obtain⟨rfl,hxs⟩:=hcc
  obtain⟨hF,hcall⟩:=hf.2 M w (args.toList.map a.eval) rfl hr (zcb hxs ht)
  have hrun:=zfV (P:=P) (w:=w) (a:=a) (caps:=#[]) ho rfl hF
  unfold Oper.wpIn
  refine⟨fun _ _=>trivial,?_⟩
  rw[zdH (by rw[ho]; simp),hrun]
  have hargs:args.map a.eval++#[]=(args.toList.map a.eval).toArray:=by apply Array.ext'; simp
  rw[hargs]
  refine⟨fun h=>by(cases h),zfW (hcall.mono ?_)⟩
  rintro en w' ⟨rv,M',rfl,he,hs,hi,hr'⟩
  exact fin _ _ _ _ hs hi hr' he rfl
 | vcall hw hop hfx hf _ =>
  rename_i ro fx xs f cap r H2
  rw[zcu hg ht hw,if_pos rfl]
  have hcc:zbn M.fm o.op s.op=true:=by
   rcases hc with hc|hc
   ·rw[hop] at hc; simp[chk1] at hc
   ·exact hc
  rw[hop] at hcc
  simp only[zbn] at hcc
  split at hcc
  case h_2=>cases hcc
  rename_i fo args ts ho
  simp only[Bool.and_eq_true] at hcc
  obtain⟨hfo,hxs⟩:=hcc
  have hfe:=zam hfo ht
  rw[hfx] at hfe
  simp only[Enc] at hfe
  obtain⟨caps,hfv,hcaps⟩:=hfe
  obtain⟨hF,hcall⟩:=hf.2 M w (args.toList.map a.eval++caps) rfl hr (zbe (zcb hxs ht) hcaps)
  have hrun:=zfV (P:=P) (w:=w) (a:=a) (caps:=caps.toArray) ho hfv hF
  unfold Oper.wpIn
  refine⟨fun _ _=>trivial,?_⟩
  rw[zdH (by rw[ho]; simp),hrun]
  have hargs:args.map a.eval++caps.toArray=(args.toList.map a.eval++caps).toArray:=by apply Array.ext'; simp
  rw[hargs]
  refine⟨fun h=>by(cases h),zfW (hcall.mono ?_)⟩
  rintro en w' ⟨rv,M',rfl,he,hs,hi,hr'⟩
  obtain⟨s1,s2,s3⟩:=zch hr' H.length
  exact fin _ _ _ _ (hs.trans s1) (hi.trans s2 (Nat.le_refl _)) s3 (Enc.upto _ he) rfl
 | ycall hw hop hfx hb hxl ha hb1 hbo hb2 =>
  rename_i fx xs id e0 ps as bo e1 H1' f0 fps fas fbo x e2 H2 g0 gps gas gbo
  rw[zcu hg ht hw,if_pos rfl]
  have hcc:zbn M.fm o.op s.op=true:=by
   rcases hc with hc|hc
   ·rw[hop] at hc; simp[chk1] at hc
   ·exact hc
  rw[hop] at hcc
  simp only[zbn] at hcc
  split at hcc
  case h_2=>cases hcc
  rename_i fo args ts ho
  simp only[Bool.and_eq_true] at hcc
  obtain⟨hfo,hxs⟩:=hcc
  have hfe:=zam hfo ht
  rw[hfx] at hfe
  simp only[Enc] at hfe
  obtain⟨hal,hfv⟩:=hfe
  have hargs:=zcb hxs ht
  have hlen:=zah hargs
  simp only[List.length_map] at hlen
  obtain⟨l,hl⟩:∃ l,l=M.j id:=⟨_,rfl⟩
  have h0:=hr.rel id _ hb
  simp only[BRel] at h0
  obtain⟨hl0,r,hrec,hst,hps,hca,hcb,he0⟩:=h0
  have hlt:id<H.length:=(List.getElem?_eq_some_iff.1 hb).1
  have hsz:(args.map a.eval).size=r.params.size:=by
   have h1:=congrArg List.length hps.1
   have h2:args.size=xs.length:=by simpa using hlen
   simp at h1 ⊢
   omega
  have hrun:(execOp a.eval o).run P w=.ok (.round l r.fn ((r.params.zip (args.map a.eval)).foldl (fun tmps (t,a)=>tmps.setIfInBounds t a) r.tmps) r.assign r.body) w:=by
   have:=run_yield (P:=P) (l:=M.j id) (args:=args.map a.eval) hrec hsz
   rw[hl]
   simp[execOp,ho,resolve,hfv,Deferred.ofValue,invoke,this]
  obtain⟨tm,htm⟩:∃ tm,tm=(r.params.zip (args.map a.eval)).foldl (fun tmps (t,a)=>tmps.setIfInBounds t a) r.tmps:=⟨_,rfl⟩
  have htm2:tm=(ps.zip (args.toList.map a.eval)).foldl (fun(t:Array Value) (q:Nat×Value)=>t.setIfInBounds q.1 q.2) r.tmps:=by
   rw[htm,←Array.foldl_toList,Array.toList_zip,hps.1]; simp
  rw[←htm] at hrun
  obtain⟨hrel,hsize⟩:=zoI (ps:=ps) (tmps:=r.tmps) hargs hps.2 (by simp[hxl]) (zqp he0)
  rw[←htm2] at hrel hsize
  unfold Oper.wpIn
  refine⟨fun _ _=>trivial,?_⟩
  rw[zdH (by rw[ho]; simp),hrun]
  refine⟨fun h=>by(cases h),?_⟩
  refine roundIn_of_wpIn (F:=FR ro) (n:=0) (l:=l) trivial ?_
  refine ha.2 l r.tmps.size r.assign M w _ _ hca ⟨hsize,⟨by simp,fun d hd=>by cases hd⟩,hrel,ht.glo⟩ hr rfl ?_
  intro a1 w1 M1 t1 r1 s1 i1 m1
  -- the round begins
  have hj1:M1.j id=l:=by rw[hl]; exact(i1 id hlt hal).2.1
  have h1:=r1.rel id _ hb1
  simp only[BRel] at h1
  obtain⟨_,rc1,hrec1,hst1,_⟩:=h1
  obtain⟨M2,s2,i2,r2,hj2⟩:=zlr (st':=.busy) (r':={ rc1 with state:=.busy }) r1 hb1 hrec1 rfl rfl rfl rfl rfl
  rw[hj1] at hrec1 s2 r2
  refine⟨_,run_beginRound hrec1 hst1.1,?_⟩
  refine hbo.2 l r.tmps.size r.body M2 _ a1 _ hcb (RelT.step s2 r1 i2 t1) r2 (s2.fm.trans s1.fm) ?_
  intro a3 w3 M3 t3 r3 s3 i3 m3
  -- the round ends
  have hlt1:id<H1'.length:=(List.getElem?_eq_some_iff.1 hb1).1
  have hal1:M1.al id=true:=(i1 id hlt hal).1
  have hal2:=(i2 id hlt1 hal1)
  have hj3:M3.j id=l:=by rw[(i3 id (by simpa using hlt1) hal2.1).2.1,hj2]; exact hj1
  have h3:=r3.rel id _ hb2
  simp only[BRel] at h3
  obtain⟨_,rc3,hrec3,_⟩:=h3
  have hlen3:H.length≤H2.length:=by have:=ha.1; have:=hbo.1; simp at this; omega
  have fin2:∀(jump:Option Code) (st':LSt) (b:Bool),zq8 st' { rc3 with state:=if jump.isNone then .ready else .done,pending:=jump }→jump.isNone=b→decide (x=.nx)=b→(if x=.nx then LSt.ready else .done x)=st' →
    ∃ v w',(Instr.endRound l jump).run P w3=.ok v w'∧K (a.put o.dst v) w':=by
   intro jump st' b hok hb' hxb hst'
   obtain⟨M4,s4,i4,r4,_⟩:=zlr (st':=st') (r':={ rc3 with state:=if jump.isNone then .ready else .done,pending:=jump }) r3 hb2 hrec3 rfl rfl rfl rfl hok
   rw[hj3] at s4 r4
   have hrec3':=hrec3
   rw[hj3] at hrec3'
   refine⟨_,_,run_endRound jump hrec3',?_⟩
   obtain⟨u1,u2,u3⟩:=zch r4 H.length
   rw[←hst'] at s4 r4 u1 u3
   refine fin _ (M4.upto H.length) (.bool jump.isNone) (.bool (decide (x=.nx))) ((((s1.trans s2).trans s3).trans s4).trans u1) ?_ u3 (by simp only[Enc]; rw[hb',hxb]) rfl
   have e2:=ha.1
   have e3:=hbo.1
   simp only[List.length_set] at e3
   exact(((i1.trans i2 e2).trans i3 (by simp only[List.length_set]; exact e2)).trans i4 hlen3).trans u2 (Nat.le_refl _)
  cases x with
  | nx=>exact fin2 none .ready true ⟨rfl,rfl⟩ rfl rfl rfl
  | ret=>exact fin2 (some .ret) (.done .ret) false ⟨rfl,rfl⟩ rfl rfl rfl
  | exit k=>exact fin2 (some (.exit k)) (.done (.exit k)) false ⟨rfl,rfl⟩ rfl rfl rfl
theorem zk6{sz id off:Nat}{ag:Bool}{v:V}(h:loadAt H sz ag id off=some (v,H1)):H1=H:=by
 unfold loadAt at h
 repeat' split at h
 all_goals first
  | (cases h; done)
  | (rw[Option.map_eq_some_iff] at h; obtain⟨_,_,h⟩:=h; cases h; rfl)
theorem zk7{sz id off:Nat}{u v:V}(h:storeAt H sz id off u=some (v,H1)):∃ cs,H1=H.set id (some (.cells cs)):=by
 unfold storeAt at h
 repeat' split at h
 all_goals first
  | (cases h; done)
  | (cases h; exact⟨_,rfl⟩)
theorem zv6{base:Nat}{e:Env}{s:SOp}{v:V}(h:ev1 base e H s=some (v,H1)):H1.length=H.length:=by
 cases s<;>simp only[ev1] at h
 case appG =>
  unfold zdY at h
  repeat' split at h
  all_goals first
   | (cases h; done)
   | (cases h; rfl)
   | (cases h; simp; done)
 case loadR =>
  repeat' split at h
  all_goals first
   | (cases h; done)
   | rw[zk6 h]
 case storeA|storeN =>
  repeat' split at h
  all_goals first
   | (cases h; done)
   | (obtain⟨cs,h⟩:=zk7 h; rw[h]; simp)
 all_goals first
  | (cases h; rfl)
  | (repeat' split at h)<;>first
   | (cases h; done)
   | (cases h; rfl)
   | (cases h; simp; done)
   | (rw[Option.map_eq_some_iff] at h; obtain⟨_,_,h⟩:=h; cases h; rfl)
 all_goals first
  | (rw[Option.map_eq_some_iff] at h; obtain⟨_,_,h⟩:=h; cases h; rfl)
theorem SS.len{base:Nat}{s:SOper}{e e1:Env}(h:SS P fm base s e H e1 H1):H.length≤H1.length:=by
 cases h with
 | ev _ hv=>exact Nat.le_of_eq (zv6 hv).symm
 | skip=>exact Nat.le_refl _
 | pcall=>exact Nat.le_refl _
 | scallE _ _ hf _=>simp only[zac,List.length_map,List.length_take]; exact Nat.le_of_eq (Nat.min_eq_left hf.1).symm
 | scallA _ _ hf _=>simp only[zac,List.length_map,List.length_take]; exact Nat.le_of_eq (Nat.min_eq_left hf.1).symm
 | scall _ _ hf=>simp only[zac,List.length_map,List.length_take]; exact Nat.le_of_eq (Nat.min_eq_left hf.1).symm
 | kcall _ _ hf _=>exact hf.1
 | vcall _ _ _ hf=>simp only[zac,List.length_map,List.length_take]; exact Nat.le_of_eq (Nat.min_eq_left hf.1).symm
 | ycall _ _ _ _ _ ha _ hb _ =>
  have e2:=ha.1
  have e3:=hb.1
  simp only[List.length_set] at e3
  simp only[zac,List.length_map,List.length_take,List.length_set]; exact Nat.le_of_eq (Nat.min_eq_left (Nat.le_trans e2 e3)).symm
end Go.Ev
