/- More operations: what is alike, texts, maps. -/
import Derived.Laws.StructEq
import Derived.Laws.RangeAny
import Derived.ChangeKeysEq
import Derived.MapKept
import Derived.Lib.OthersKept
import Derived.Test.YtablmcdlcpphjaaGreatDoorEvEW
import Derived.Carry
import Derived.Laws.BytesString
import Derived.RangeFuncLeaves
import Derived.RangeFuncIn
import Derived.RangeFuncRecord
import Derived.OrdersIn
import Derived.TacticsIn
set_option linter.unusedVariables false
set_option linter.unusedSimpArgs false
namespace Go.Ev
open Go Go.RowKit
set_option linter.unusedSimpArgs false
set_option linter.unusedVariables false
variable {P : Program} {M M' : Mm} {H H1 : Heap} {w w' : World}
variable {e : Env} {a : Act} {n : Nat} {o : Oper} {v : V}
def tyAg (P : Program) (t : TypeId) : Bool := match P.underlying t with | some d => d.isRow | none => false
def kdsFs (p : TypeId → Option (List Kd)) : Nat → List Field → Option (List Kd)
 | _, [] => some []
 | off, f :: fs => if f.name ≠ "_" ∧ f.offset = off then
   match p f.type with
   | some ks => match kdsFs p (off + ks.length) fs with
    | some rs => some (ks ++ rs)
    | none => none
   | none => none
  else none
def kdsOf (P : Program) : Nat → TypeId → Option (List Kd)
 | 0, _ => none
 | k + 1, t =>
  match (match P.underlying t with
   | some (.int _) => some [Kd.int]
   | some .bool => some [Kd.bool]
   | some .string => some [Kd.str]
   | some (.struct fs) => if P.stoodInHeld t = false then kdsFs (kdsOf P k) 0 fs.toList else none
   | some (.array m el) => match kdsOf P k el with
    | some ks => some (List.replicate m ks).flatten
    | none => none
   | _ => none) with
  | some ks => if tyOk P t ks.length (tyAg P t) = true then some ks else none
  | none => none
theorem kdsOf_ok {k : Nat} {t : TypeId} {ks : List Kd} (h : kdsOf P k t = some ks) : tyOk P t ks.length (tyAg P t) = true := by
 cases k with
 | zero => simp [kdsOf] at h
 | succ k =>
  simp only [kdsOf] at h
  split at h
  ·split at h
   ·rename_i h2; cases h; exact h2
   ·cases h
  ·cases h
theorem eqks_len : ∀ {ks : List Kd} {cs ds : List V} {b : Bool}, eqks ks cs ds = some b → cs.length = ks.length ∧ ds.length = ks.length
 | [], [], [], _, _ => ⟨rfl, rfl⟩
 | [], [], _ :: _, _, h => by simp [eqks] at h
 | [], _ :: _, _, _, h => by simp [eqks] at h
 | _ :: _, [], _, _, h => by simp [eqks] at h
 | _ :: _, _ :: _, [], _, h => by simp [eqks] at h
 | k :: ks, c :: cs, d :: ds, b, h => by
  simp only [eqks] at h
  split at h
  ·rename_i x y hx hy
   have := eqks_len hy
   simp [this.1, this.2]
  ·cases h
theorem eqks_append : ∀ {ks rs : List Kd} {cs ds : List V} {b : Bool}, eqks (ks ++ rs) cs ds = some b →
  ∃ x y, eqks ks (cs.take ks.length) (ds.take ks.length) = some x ∧ eqks rs (cs.drop ks.length) (ds.drop ks.length) = some y ∧ b = (x && y)
 | [], rs, cs, ds, b, h => ⟨true, b, by simp [eqks], by simpa using h, by simp⟩
 | k :: ks, rs, [], _, b, h => by simp [eqks] at h
 | k :: ks, rs, _ :: _, [], b, h => by simp [eqks] at h
 | k :: ks, rs, c :: cs, d :: ds, b, h => by
  simp only [List.cons_append, eqks] at h
  split at h
  ·rename_i x y hx hy
   obtain ⟨x', y', h1, h2, rfl⟩ := eqks_append hy
   simp only [Option.some.injEq] at h
   refine ⟨x && x', y', ?_, by simpa using h2, by rw [← h, Bool.and_assoc]⟩
   simp only [List.length_cons, List.take_succ_cons, eqks, hx, h1]
  ·cases h
def EqOk (P : Program) (d : Nat) (t : TypeId) (ks : List Kd) : Prop :=
 ∀ (M : Mm) (w w2 : World) (cs ds : List V) (xs ys : List Value) (b : Bool), EncL M w cs xs → EncL M w ds ys → eqks ks cs ds = some b →
  (Op.equalIn d t (mkR (tyAg P t) xs) (mkR (tyAg P t) ys)).run P w2 = .ok b w2
theorem run_part_tl {t : TypeId} {sz off : Nat} {ag : Bool} {xs : List Value} (hty : tyOk P t sz ag = true) (hl : off + sz ≤ xs.length) :
  (part t xs.toArray off).run P w = .ok (mkR ag ((xs.drop off).take sz)) w := by
 have := run_part_mk (P := P) (w := w) (xs := xs.toArray) hty (by simpa using hl)
 simpa using this
theorem eqFields_ok {d : Nat} {p : TypeId → Option (List Kd)} (hp : ∀ t ks, p t = some ks → tyOk P t ks.length (tyAg P t) = true ∧ EqOk P d t ks) : ∀ {fs : List Field} {off : Nat} {ks : List Kd} {cs ds : List V} {xs ys : List Value} {b : Bool} {M : Mm} {w w2 : World},
  kdsFs p off fs = some ks → EncL M w cs xs → EncL M w ds ys → off ≤ xs.length → off ≤ ys.length → eqks ks (cs.drop off) (ds.drop off) = some b → (Op.eqFields d xs.toArray ys.toArray fs).run P w2 = .ok b w2
 | [], off, ks, cs, ds, xs, ys, b, M, w, w2, hk, hx, hy, hxl, hyl, h => by
  simp only [kdsFs, Option.some.injEq] at hk
  subst hk
  have : b = true := by
   cases hc : cs.drop off <;> cases hd : ds.drop off <;> rw [hc, hd] at h <;> simp [eqks] at h
   exact h
  subst this
  simp [Op.eqFields]
 | f :: fs, off, ks, cs, ds, xs, ys, b, M, w, w2, hk, hx, hy, hxl, hyl, h => by
  simp only [kdsFs] at hk
  split at hk
  case isFalse => cases hk
  rename_i hf
  obtain ⟨hname, hoff⟩ := hf
  split at hk
  case h_2 => cases hk
  rename_i k1 hk1
  split at hk
  case h_2 => cases hk
  rename_i rs hrs
  cases hk
  obtain ⟨hty, heq⟩ := hp _ _ hk1
  obtain ⟨x, y, h1, h2, rfl⟩ := eqks_append h
  have hcl := encL_length hx
  have hdl := encL_length hy
  obtain ⟨l1, l2⟩ := eqks_len h1
  simp only [List.length_take, List.length_drop] at l1 l2
  have px := run_part_tl (P := P) (w := w2) (off := off) (xs := xs) hty (by omega)
  have py := run_part_tl (P := P) (w := w2) (off := off) (xs := ys) hty (by omega)
  have pe := heq M w w2 _ _ _ _ x (encL_take (encL_drop hx off) k1.length) (encL_take (encL_drop hy off) k1.length) h1
  have ih := eqFields_ok (w2 := w2) hp hrs hx hy (by omega) (by omega) (by simpa [List.drop_drop] using h2)
  simp only [Op.eqFields, hoff]
  rw [if_pos hname]
  simp only [Sem.run_bind, px, py, pe, Result.andThen_ok]
  cases x
  ·simp
  ·simpa using ih
theorem eqItems_ok {d : Nat} {el : TypeId} {ks : List Kd} (hty : tyOk P el ks.length (tyAg P el) = true) (heq : EqOk P d el ks) : ∀ {m off : Nat} {cs ds : List V} {xs ys : List Value} {b : Bool} {M : Mm} {w w2 : World},
  EncL M w cs xs → EncL M w ds ys → off * ks.length ≤ xs.length → off * ks.length ≤ ys.length → eqks (List.replicate m ks).flatten (cs.drop (off * ks.length)) (ds.drop (off * ks.length)) = some b →
  (Op.eqItems d el ks.length xs.toArray ys.toArray (List.range' off m)).run P w2 = .ok b w2
 | 0, off, cs, ds, xs, ys, b, M, w, w2, hx, hy, hxl, hyl, h => by
  simp only [List.replicate_zero, List.flatten_nil] at h
  have : b = true := by
   cases hc : cs.drop (off * ks.length) <;> cases hd : ds.drop (off * ks.length) <;> rw [hc, hd] at h <;> simp [eqks] at h
   exact h
  subst this
  simp [Op.eqItems]
 | m + 1, off, cs, ds, xs, ys, b, M, w, w2, hx, hy, hxl, hyl, h => by
  rw [List.replicate_succ, List.flatten_cons] at h
  obtain ⟨x, y, h1, h2, rfl⟩ := eqks_append h
  have hcl := encL_length hx
  have hdl := encL_length hy
  obtain ⟨l1, l2⟩ := eqks_len h1
  simp only [List.length_take, List.length_drop] at l1 l2
  have px := run_part_tl (P := P) (w := w2) (off := off * ks.length) (xs := xs) hty (by omega)
  have py := run_part_tl (P := P) (w := w2) (off := off * ks.length) (xs := ys) hty (by omega)
  have pe := heq M w w2 _ _ _ _ x (encL_take (encL_drop hx _) ks.length) (encL_take (encL_drop hy _) ks.length) h1
  have hnext : (off + 1) * ks.length = off * ks.length + ks.length := by rw [Nat.add_mul, Nat.one_mul]
  have ih := eqItems_ok (w2 := w2) (m := m) (off := off + 1) hty heq hx hy (by omega) (by omega) (by rw [hnext]; simpa [List.drop_drop] using h2)
  rw [List.range'_succ]
  simp only [Op.eqItems, Sem.run_bind, px, py, pe, Result.andThen_ok]
  cases x
  ·simp
  ·simpa using ih
theorem kdsOf_eq : ∀ {k : Nat} {t : TypeId} {ks : List Kd} {d : Nat}, kdsOf P k t = some ks → k ≤ d → EqOk P d t ks
 | 0, t, ks, d, h, _ => by simp [kdsOf] at h
 | k + 1, t, ks, 0, h, hd => by omega
 | k + 1, t, ks, d + 1, h, hd => by
  have hok := kdsOf_ok h
  have sub : ∀ t ks, kdsOf P k t = some ks → tyOk P t ks.length (tyAg P t) = true ∧ EqOk P d t ks := fun t ks h => ⟨kdsOf_ok h, kdsOf_eq h (by omega)⟩
  simp only [kdsOf] at h
  split at h
  case h_2 => cases h
  rename_i ks' hks
  split at h
  case isFalse => cases h
  cases h
  intro M w w2 cs ds xs ys b hx hy he
  obtain ⟨lc, ld⟩ := eqks_len he
  have hxl := encL_length hx
  have hyl := encL_length hy
  have one : ∀ {kd : Kd}, ks = [kd] → ∃ c d x y, cs = [c] ∧ ds = [d] ∧ xs = [x] ∧ ys = [y] ∧ Enc M w c x ∧ Enc M w d y ∧ eqk kd c d = some b := by
   intro kd hkd
   subst hkd
   obtain ⟨c, rfl⟩ := List.length_eq_one_iff.1 lc
   obtain ⟨d', rfl⟩ := List.length_eq_one_iff.1 ld
   simp only [EncL] at hx hy
   obtain ⟨x, _, rfl, h1, rfl⟩ := hx
   obtain ⟨y, _, rfl, h2, rfl⟩ := hy
   refine ⟨c, d', x, y, rfl, rfl, rfl, rfl, h1, h2, ?_⟩
   simp only [eqks] at he
   split at he
   ·rename_i u v hu hv
    simp only [Option.some.injEq] at hv he
    subst hv
    rw [hu, ← he, Bool.and_true]
   ·cases he
  split at hks
  ·rename_i k0 hu
   have hag : tyAg P t = false := by simp [tyAg, hu, TypeDesc.isRow]
   simp only [Option.some.injEq] at hks
   obtain ⟨c, d', x, y, rfl, rfl, rfl, rfl, h1, h2, h3⟩ := one hks.symm
   rw [hag]
   cases c <;> cases d' <;> simp only [eqk, reduceCtorEq] at h3
   split at h3
   ·rename_i hk; subst hk
    simp only [Option.some.injEq] at h3
    subst h3
    simp only [Enc] at h1 h2
    subst h1; subst h2
    exact run_equalIn_int w2 d t _ _ _ _ hu
   ·cases h3
  ·rename_i hu
   have hag : tyAg P t = false := by simp [tyAg, hu, TypeDesc.isRow]
   simp only [Option.some.injEq] at hks
   obtain ⟨c, d', x, y, rfl, rfl, rfl, rfl, h1, h2, h3⟩ := one hks.symm
   rw [hag]
   cases c <;> cases d' <;> simp only [eqk, reduceCtorEq, Option.some.injEq] at h3
   subst h3
   simp only [Enc] at h1 h2
   subst h1; subst h2
   exact run_equalIn_bool w2 d t _ _ hu
  ·rename_i hu
   have hag : tyAg P t = false := by simp [tyAg, hu, TypeDesc.isRow]
   simp only [Option.some.injEq] at hks
   obtain ⟨c, d', x, y, rfl, rfl, rfl, rfl, h1, h2, h3⟩ := one hks.symm
   rw [hag]
   cases c <;> cases d' <;> simp only [eqk, reduceCtorEq, Option.some.injEq] at h3
   subst h3
   simp only [Enc] at h1 h2
   subst h1; subst h2
   show (Op.equalIn (d + 1) t (.string _) (.string _)).run P w2 = _
   rw [run_equalIn_string w2 d t _ _ hu]
   simp
  ·rename_i fs hu
   have hag : tyAg P t = true := by simp [tyAg, hu, TypeDesc.isRow]
   split at hks
   case isFalse => cases hks
   rename_i hst
   rw [hag]
   have hfs : P.fieldsOf t = fs := by simp [Program.fieldsOf, hu]
   have := run_equalIn_struct (P := P) w2 d t xs.toArray ys.toArray (by rw [hfs]; exact hu) hst
   simp only [mkR, if_true]
   rw [this, hfs]
   exact eqFields_ok sub hks hx hy (Nat.zero_le _) (Nat.zero_le _) (by simpa using he)
  ·rename_i m el hu
   have hag : tyAg P t = true := by simp [tyAg, hu, TypeDesc.isRow]
   split at hks
   case h_2 => cases hks
   rename_i k1 hk1
   simp only [Option.some.injEq] at hks
   rw [hag]
   obtain ⟨hty, heq⟩ := sub _ _ hk1
   have hty' := hty
   unfold tyOk at hty'
   split at hty'
   case h_2 => cases hty'
   rename_i _ i hi0 hi
   simp only [Bool.and_eq_true, beq_iff_eq] at hty'
   have hcell : P.cellsOf el = k1.length := by
    have := run_sizeOf (P := P) w hi
    have h2 : (sizeOf el).run P w = .ok i.size w := by simp [sizeOf, typeInfo, hi]
    rw [h2] at this
    simp only [Result.ok.injEq, and_true] at this
    rw [← this]; exact hty'.1
   have := run_equalIn_array (P := P) w2 d xs.toArray ys.toArray hu hi
   simp only [mkR, if_true]
   rw [this, hcell, List.range_eq_range']
   exact eqItems_ok hty heq hx hy (by simp) (by simp) (by rw [hks]; simpa using he)
  ·cases hks
theorem aeq_ok {xt yt : TypeId} {x y : Operand} {sx sy : X} {base : Nat} {neg : Bool} {ks : List Kd} (ho : o.op = .binOp (if neg then .neq else .eql) xt x y yt) (hx : chkX M.fm x sx = true) (hy : chkX M.fm y sy = true)
  (hk : kdsOf P 20 xt = some ks) (hg : P.eqGuardType P.depth xt = false) (hag : tyAg P xt = true) (ht : RelT M w e a n) (hr : HRel M w H) (hv : ev1 base e H (.aeq ks neg sx sy) = some (v, H1)) : OpOk P o a M H w v H1 := by
 have hx' := chkX_enc hx ht
 have hy' := chkX_enc hy ht
 simp only [ev1] at hv
 split at hv
 case h_2 => cases hv
 rename_i cs ds hp hq
 split at hv
 case h_2 => cases hv
 rename_i b hb
 cases hv
 rw [hp] at hx'
 rw [hq] at hy'
 simp only [Enc] at hx' hy'
 obtain ⟨_, xs, hxe, hxs⟩ := hx'
 obtain ⟨_, ys, hye, hys⟩ := hy'
 have he := kdsOf_eq (P := P) (d := 10000) hk (by omega) M w w cs ds xs ys b hxs hys hb
 rw [hag] at he
 simp only [mkR, if_true] at he
 refine .plain (rv := .bool (if neg then !b else b)) hr ?_ (by simp only [Enc])
 cases neg
 ·simp only [execOp, ho, hxe, hye, Sem.run_bind, Bool.false_eq_true, if_false, run_eqGuard_agg w _ xt x y _ _ hg, Result.andThen_ok, run_eql_struct, he]; rfl
 ·simp only [execOp, ho, hxe, hye, Sem.run_bind, if_true, run_eqGuard_agg w _ xt x y _ _ hg, Result.andThen_ok, run_neq_struct, he]; rfl
def nilTy (P : Program) (k : Nat) (t : TypeId) (y : Operand) : Bool :=
 match k, P.underlying t, y with
 | 0, some (.func _ _ _), .const .nilFunc => true
 | 1, some (.pointer _), .const (.pointer none) => true
 | 2, some (.map _ _), .const (.map none) => true
 | _, _, _ => false
theorem eq_fn_nil (d : Nat) {t : TypeId} {p q : Array TypeId} {r : Bool} (hu : P.underlying t = some (.func p q r)) (f : Fn) (g h : Array Value) : (Op.equalIn (d + 1) t (.func f g h) .nilFunc).run P w = .ok false w := by
 simp [Op.equalIn, run_underlying hu]
theorem eq_nilf_nil (d : Nat) {t : TypeId} {p q : Array TypeId} {r : Bool} (hu : P.underlying t = some (.func p q r)) : (Op.equalIn (d + 1) t .nilFunc .nilFunc).run P w = .ok true w := by
 simp [Op.equalIn, run_underlying hu]
theorem eq_nilp_nil (d : Nat) {t p : TypeId} (hu : P.underlying t = some (.pointer p)) : (Op.equalIn (d + 1) t (.pointer none) (.pointer none)).run P w = .ok true w := by
 simp [Op.equalIn, run_underlying hu]
theorem eq_ptr_nil (d : Nat) {t p : TypeId} (hu : P.underlying t = some (.pointer p)) (b : Addr) : (Op.equalIn (d + 1) t (.pointer (some b)) (.pointer none)).run P w = .ok false w := by
 simp [Op.equalIn, run_underlying hu]
theorem eq_map_nil (d : Nat) {t p q : TypeId} (hu : P.underlying t = some (.map p q)) (b : Nat) : (Op.equalIn (d + 1) t (.map (some b)) (.map none)).run P w = .ok false w := by
 simp [Op.equalIn, run_underlying hu]
theorem eq_nilm_nil (d : Nat) {t p q : TypeId} (hu : P.underlying t = some (.map p q)) : (Op.equalIn (d + 1) t (.map none) (.map none)).run P w = .ok true w := by
 simp [Op.equalIn, run_underlying hu]
theorem nil_run {xt yt : TypeId} {x y : Operand} {xv yv : Value} {b neg : Bool} (ho : o.op = .binOp (if neg then .neq else .eql) xt x y yt) (h1 : a.eval x = xv) (h2 : a.eval y = yv) (hr : HRel M w H)
  (hg : ∀ op, (eqGuard op xt x y xv yv).run P w = .ok () w) (he : binOp .eql xt xv yv = (do pure (.bool (← Op.equal xt xv yv)))) (hn : binOp .neq xt xv yv = (do pure (.bool (!(← Op.equal xt xv yv)))))
  (hq : ∀ d, (Op.equalIn (d + 1) xt xv yv).run P w = .ok b w) : OpOk P o a M H w (.bool (if neg then !b else b)) H := by
 have hq' : (Op.equal xt xv yv).run P w = .ok b w := hq 9999
 refine .plain (rv := .bool (if neg then !b else b)) hr ?_ (by simp only [Enc])
 cases neg
 ·simp only [execOp, ho, h1, h2, Sem.run_bind, Bool.false_eq_true, if_false, hg, Result.andThen_ok, he, hq', Sem.run_pure]
 ·simp only [execOp, ho, h1, h2, Sem.run_bind, if_true, hg, Result.andThen_ok, hn, hq', Sem.run_pure]
theorem nileq_ok {xt yt : TypeId} {x y : Operand} {sx : X} {base k : Nat} {neg : Bool} (ho : o.op = .binOp (if neg then .neq else .eql) xt x y yt) (hx : chkX M.fm x sx = true)
  (hk : nilTy P k xt y = true) (ht : RelT M w e a n) (hr : HRel M w H) (hv : ev1 base e H (.nileq k neg sx) = some (v, H1)) : OpOk P o a M H w v H1 := by
 have hx' := chkX_enc hx ht
 have tt : neg = (if neg = true then !false else false) := by cases neg <;> rfl
 have ff : (!neg) = (if neg = true then !true else true) := by cases neg <;> rfl
 unfold nilTy at hk
 split at hk
 case h_4 => cases hk
 all_goals
  rename_i hu
  simp only [ev1] at hv
  cases hp : sx.ev e <;> rw [hp] at hv hx' <;> simp only [reduceCtorEq, Option.some.injEq, Prod.mk.injEq] at hv
  all_goals
   obtain ⟨rfl, rfl⟩ := hv
   simp only [Enc] at hx'
 ·obtain ⟨xs, hxe, _⟩ := hx'
  rw [tt]
  exact nil_run ho hxe rfl hr (fun op => by unfold eqGuard; cases op <;> simp) rfl rfl (fun d => eq_fn_nil d hu _ _ _)
 ·rw [ff]
  exact nil_run ho hx' rfl hr (fun op => by unfold eqGuard; cases op <;> simp) rfl rfl (fun d => eq_nilf_nil d hu)
 ·rw [ff]
  exact nil_run ho hx' rfl hr (fun op => by unfold eqGuard; cases op <;> simp) rfl rfl (fun d => eq_nilp_nil d hu)
 ·obtain ⟨_, hxe⟩ := hx'
  rw [tt]
  exact nil_run ho hxe rfl hr (fun op => by unfold eqGuard; cases op <;> simp) rfl rfl (fun d => eq_ptr_nil d hu _)
 ·obtain ⟨_, b, off, hxe, _⟩ := hx'
  rw [tt]
  exact nil_run ho hxe rfl hr (fun op => by unfold eqGuard; cases op <;> simp) rfl rfl (fun d => eq_ptr_nil d hu _)
 ·obtain ⟨_, hxe⟩ := hx'
  rw [tt]
  exact nil_run ho hxe rfl hr (fun op => by unfold eqGuard; cases op <;> simp) rfl rfl (fun d => eq_map_nil d hu _)
 ·rw [ff]
  exact nil_run ho hx' rfl hr (fun op => by unfold eqGuard; cases op <;> simp) rfl rfl (fun d => eq_nilm_nil d hu)
theorem mm_fold {mx : Bool} {k : IntKind} : ∀ {xs : List X} {os : List Operand} {p : Int} {u : V}, chkXs M.fm os xs = true → RelT M w e a n → mmGo e mx k p xs = some u →
  ((os.map a.eval).foldlM (if mx then Builtin.max2 else Builtin.min2) (.int k p)).run P w = .ok (valOf u) w ∧ Enc M w u (valOf u)
 | [], [], p, u, _, _, h => by
  simp only [mmGo, Option.some.injEq] at h
  subst h
  exact ⟨by simp [valOf], by simp only [Enc, valOf]⟩
 | [], _ :: _, _, _, hc, _, _ => by simp [chkXs] at hc
 | _ :: _, [], _, _, hc, _, _ => by simp [chkXs] at hc
 | x :: xs, o :: os, p, u, hc, ht, h => by
  simp only [chkXs, Bool.and_eq_true] at hc
  simp only [mmGo] at h
  split at h
  case h_2 => cases h
  rename_i k' b hx
  split at h
  case isFalse => cases h
  rename_i hk
  subst hk
  have hxe := chkX_enc hc.1 ht
  rw [hx] at hxe
  simp only [Enc] at hxe
  obtain ⟨h1, h2⟩ := mm_fold hc.2 ht h
  refine ⟨?_, h2⟩
  rw [List.map_cons, List.foldlM_cons, Sem.run_bind, hxe]
  cases mx
  ·simp only [Bool.false_eq_true, if_false] at h1 ⊢
   simp only [Builtin.min2, Sem.run_pure, Result.andThen_ok]
   simpa [mmI] using h1
  ·simp only [if_true] at h1 ⊢
   simp only [Builtin.max2, Sem.run_pure, Result.andThen_ok]
   simpa [mmI] using h1
theorem mm_ok {mx : Bool} {args : Array Operand} {ts : Array TypeId} {xs : List X} {base : Nat} (ho : o.op = .call { callee := .builtin (if mx then .max else .min), args := args, argTypes := ts }) (hx : chkXs M.fm args.toList xs = true)
  (ht : RelT M w e a n) (hr : HRel M w H) (hv : ev1 base e H (.mm mx xs) = some (v, H1)) : OpOk P o a M H w v H1 := by
 simp only [ev1] at hv
 split at hv
 case h_2 => cases hv
 rename_i x xs
 split at hv
 case h_2 => cases hv
 rename_i k p hp
 rw [Option.map_eq_some_iff] at hv
 obtain ⟨u, hu, hv⟩ := hv
 cases hv
 cases hl : args.toList with
 | nil => rw [hl] at hx; simp [chkXs] at hx
 | cons o1 os =>
  rw [hl] at hx
  simp only [chkXs, Bool.and_eq_true] at hx
  have h1 := chkX_enc hx.1 ht
  rw [hp] at h1
  simp only [Enc] at h1
  obtain ⟨h2, h3⟩ := mm_fold (P := P) hx.2 ht hu
  refine .plain (rv := valOf v) hr ?_ h3
  have hm : List.map a.eval args.toList = .int k p :: os.map a.eval := by rw [hl, List.map_cons, h1]
  cases mx
  ·simp only [Bool.false_eq_true, if_false] at h2 ho
   simp [execOp, ho, resolve, invoke, builtin, Builtin.min_, hm, h2]
  ·simp only [if_true] at h2 ho
   simp [execOp, ho, resolve, invoke, builtin, Builtin.max_, hm, h2]
theorem sidx_ok {t : TypeId} {x y : Operand} {sx sy : X} {base : Nat} (ho : o.op = .index t x y) (hx : chkX M.fm x sx = true) (hy : chkX M.fm y sy = true) (hu : P.underlying t = some .string)
  (ht : RelT M w e a n) (hr : HRel M w H) (hv : ev1 base e H (.sidx sx sy) = some (v, H1)) : OpOk P o a M H w v H1 := by
 have hx' := chkX_enc hx ht
 have hy' := chkX_enc hy ht
 simp only [ev1] at hv
 split at hv
 case h_2 => cases hv
 rename_i s k i hp hq
 split at hv
 case isFalse => cases hv
 rename_i h0
 split at hv
 case h_2 => cases hv
 rename_i b hb
 cases hv
 rw [hp] at hx'
 rw [hq] at hy'
 simp only [Enc] at hx' hy'
 refine .plain (rv := .int .u8 b.toNat) hr ?_ (by simp only [Enc])
 have hlt : i.toNat < s.length := (List.getElem?_eq_some_iff.1 hb).1
 have hi : 0 ≤ i ∧ i < (ByteArray.mk s.toArray).size := by rw [size_mk]; omega
 have hg : (ByteArray.mk s.toArray)[i.toNat]'(by rw [size_mk]; exact hlt) = b := by
  have := (List.getElem?_eq_some_iff.1 hb).2
  rw [← this]; rfl
 have := run_index_string (P := P) w t ⟨s.toArray⟩ k i hu
 rw [dif_pos hi, hg] at this
 simp [execOp, ho, hx', hy', this]
theorem sslc_ok {t : TypeId} {x : Operand} {sx : X} {lo hi : Option Operand} {slo shi : Option X} {base : Nat} (ho : o.op = .slice t x lo hi none) (hx : chkX M.fm x sx = true) (hu : P.underlying t = some .string)
  (hlo : chkXo M.fm lo slo = true) (hhi : chkXo M.fm hi shi = true) (ht : RelT M w e a n) (hr : HRel M w H) (hv : ev1 base e H (.sslc sx slo shi) = some (v, H1)) : OpOk P o a M H w v H1 := by
 have hx' := chkX_enc hx ht
 simp only [ev1] at hv
 split at hv
 case h_2 => cases hv
 rename_i s hp
 split at hv
 case h_2 => cases hv
 rename_i l h m hb
 cases hv
 rw [hp] at hx'
 simp only [Enc] at hx'
 refine .plain (rv := .string ⟨((s.drop l).take (h - l)).toArray⟩) hr ?_ (by simp only [Enc])
 have hrun := run_bounds (P := P) (w := w) (isS := false) (len := s.length) (cap := s.length) hlo hhi (mx := none) (smx := none) rfl ht hb (Nat.le_refl _)
 simp only [Option.map_none] at hrun
 have hext : (ByteArray.mk s.toArray).extract l h = ⟨((s.drop l).take (h - l)).toArray⟩ := by
  apply ByteArray.ext
  simp [ByteArray.data_extract, List.extract_eq_take_drop]
 simp [execOp, ho, hx', Instr.sliceAt, Instr.slice, run_underlying hu, size_mk, hrun.2.2.2, hext]
end Go.Ev
/- Maps, and the signs of a text one by one. -/
namespace Go.Ev
open Go Go.RowKit
set_option linter.unusedSimpArgs false
set_option linter.unusedVariables false
variable {P : Program} {M M' : Mm} {H H1 : Heap} {w w' : World}
variable {e : Env} {a : Act} {n : Nat} {o : Oper} {v : V}
def kyOk (P : Program) (t : TypeId) : Ky → Bool
 | .sc .int => match P.underlying t with | some (.int _) => true | _ => false
 | .sc .bool => match P.underlying t with | some .bool => true | _ => false
 | .sc .str => match P.underlying t with | some .string => true | _ => false
 | .row ks => kdsOf P 20 t == some ks && tyAg P t
def CkOk (P : Program) (d : Nat) (t : TypeId) (ks : List Kd) : Prop :=
 ∀ (em : Bool) (M : Mm) (w w2 : World) (cs : List V) (xs : List Value) (b : Bool), EncL M w cs xs → eqks ks cs cs = some b → (Instr.checkKey em d t (mkR (tyAg P t) xs)).run P w2 = .ok () w2
theorem ckOf : ∀ {k : Nat} {t : TypeId} {ks : List Kd} {d : Nat}, kdsOf P k t = some ks → k ≤ d → CkOk P d t ks
 | 0, t, ks, d, h, _ => by simp [kdsOf] at h
 | k + 1, t, ks, 0, h, hd => by omega
 | k + 1, t, ks, d + 1, h, hd => by
  have sub : ∀ t ks, kdsOf P k t = some ks → tyOk P t ks.length (tyAg P t) = true ∧ CkOk P d t ks := fun t ks h => ⟨kdsOf_ok h, ckOf h (by omega)⟩
  simp only [kdsOf] at h
  split at h
  case h_2 => cases h
  rename_i ks' hks
  split at h
  case isFalse => cases h
  rename_i ht0
  cases h
  clear ht0
  intro em M w w2 cs xs b hx he
  have hxl := encL_length hx
  have plain : (∃ k0, P.underlying t = some (.int k0)) ∨ P.underlying t = some .bool ∨ P.underlying t = some .string → (Instr.checkKey em (d + 1) t (mkR (tyAg P t) xs)).run P w2 = .ok () w2 := by
   intro hu
   unfold Instr.checkKey
   rcases hu with ⟨k0, hu⟩ | hu | hu <;> simp [run_underlying hu]
  split at hks
  ·rename_i k0 hu; exact plain (.inl ⟨k0, hu⟩)
  ·rename_i hu; exact plain (.inr (.inl hu))
  ·rename_i hu; exact plain (.inr (.inr hu))
  ·rename_i fs hu
   have hag : tyAg P t = true := by simp [tyAg, hu, TypeDesc.isRow]
   split at hks
   case isFalse => cases hks
   rw [hag]
   simp only [mkR, if_true]
   rw [Instr.checkKey]
   simp only [Sem.run_bind, run_underlying hu, Result.andThen_ok]
   rw [← Array.forIn_toList]
   obtain ⟨off, hoff⟩ : ∃ off, off = 0 := ⟨0, rfl⟩
   replace he : eqks ks (cs.drop off) (cs.drop off) = some b := by rw [hoff]; simpa using he
   have hof : off ≤ xs.length := by omega
   rw [← hoff] at hks
   clear hoff
   generalize fs.toList = L at hks
   induction L generalizing off ks b with
   | nil => simp
   | cons f L ih =>
    simp only [kdsFs] at hks
    split at hks
    case isFalse => cases hks
    rename_i hf
    obtain ⟨hname, hoff⟩ := hf
    split at hks
    case h_2 => cases hks
    rename_i k1 hk1
    split at hks
    case h_2 => cases hks
    rename_i rs hrs
    cases hks
    obtain ⟨hty, hck⟩ := sub _ _ hk1
    obtain ⟨x, y, h1, h2, rfl⟩ := eqks_append he
    obtain ⟨l1, _⟩ := eqks_len h1
    simp only [List.length_take, List.length_drop] at l1
    have px := run_part_tl (P := P) (w := w2) (off := off) (xs := xs) hty (by omega)
    have pc := hck em M w w2 _ _ x (encL_take (encL_drop hx off) k1.length) h1
    simp only [List.forIn_cons, Sem.run_bind, hname, hoff, ne_eq, not_false_eq_true, if_true, Result.andThen_ok, px, pc, Sem.run_pure]
    have q1 : eqks rs (cs.drop (off + k1.length)) (cs.drop (off + k1.length)) = some y := by simpa [List.drop_drop] using h2
    have q2 : off + k1.length ≤ xs.length := by omega
    exact ih (ks := rs) (b := y) (off := off + k1.length) q1 q2 hrs
  ·rename_i m el hu
   have hag : tyAg P t = true := by simp [tyAg, hu, TypeDesc.isRow]
   split at hks
   case h_2 => cases hks
   rename_i k1 hk1
   simp only [Option.some.injEq] at hks
   rw [hag]
   obtain ⟨hty, hck⟩ := sub _ _ hk1
   have hty' := hty
   unfold tyOk at hty'
   split at hty'
   case h_2 => cases hty'
   rename_i _ i hi0 hi
   simp only [Bool.and_eq_true, beq_iff_eq] at hty'
   have hsz : ∀ w3 : World, (sizeOf el).run P w3 = .ok k1.length w3 := fun w3 => by simp [sizeOf, typeInfo, hi, hty'.1]
   simp only [mkR, if_true]
   rw [Instr.checkKey]
   simp only [Sem.run_bind, run_underlying hu, Result.andThen_ok]
   simp only [Std.Legacy.Range.forIn_eq_forIn_range', Std.Legacy.Range.size, Nat.sub_zero, Nat.add_one_sub_one, Nat.div_one]
   obtain ⟨off, hoff⟩ : ∃ off, off = 0 := ⟨0, rfl⟩
   replace he : eqks (List.replicate m k1).flatten (cs.drop (off * k1.length)) (cs.drop (off * k1.length)) = some b := by rw [hks, hoff]; simpa using he
   have hof : off * k1.length ≤ xs.length := by rw [hoff]; omega
   have hg : List.range' 0 m = List.range' off m := by rw [hoff]
   rw [hg]
   clear hoff hg hks hu
   induction m generalizing off b with
   | zero => simp
   | succ m ih =>
    rw [List.replicate_succ, List.flatten_cons] at he
    obtain ⟨x, y, h1, h2, rfl⟩ := eqks_append he
    obtain ⟨l1, _⟩ := eqks_len h1
    simp only [List.length_take, List.length_drop] at l1
    have px := run_part_tl (P := P) (w := w2) (off := off * k1.length) (xs := xs) hty (by omega)
    have pc := hck em M w w2 _ _ x (encL_take (encL_drop hx _) k1.length) h1
    have hnext : (off + 1) * k1.length = off * k1.length + k1.length := by rw [Nat.add_mul, Nat.one_mul]
    rw [List.range'_succ]
    simp only [List.forIn_cons, Sem.run_bind, hsz, Result.andThen_ok, px, pc, Sem.run_pure]
    have q1 : eqks (List.replicate m k1).flatten (cs.drop ((off + 1) * k1.length)) (cs.drop ((off + 1) * k1.length)) = some y := by rw [hnext]; simpa [List.drop_drop] using h2
    have q2 : (off + 1) * k1.length ≤ xs.length := by omega
    exact ih (b := y) (off := off + 1) q1 q2
  ·cases hks
theorem kyOk_desc {t : TypeId} {ky : Ky} (hk : kyOk P t ky = true) : ∃ d, P.underlying t = some d ∧ (ky.isRow = true → d.isRow = true) := by
 unfold kyOk at hk
 split at hk
 ·split at hk
  ·exact ⟨_, ‹_›, fun h => by cases h⟩
  ·cases hk
 ·split at hk
  ·exact ⟨_, ‹_›, fun h => by cases h⟩
  ·cases hk
 ·split at hk
  ·exact ⟨_, ‹_›, fun h => by cases h⟩
  ·cases hk
 ·simp only [Bool.and_eq_true, beq_iff_eq] at hk
  have h2 := hk.2
  unfold tyAg at h2
  split at h2
  ·rename_i d hd; exact ⟨d, hd, fun _ => h2⟩
  ·cases h2
theorem kyOk_row {t : TypeId} {ks : List Kd} (hk : kyOk P t (.row ks) = true) : kdsOf P 20 t = some ks ∧ tyAg P t = true := by
 simpa [kyOk] using hk
def Found (M : Mm) (w : World) (es : List (V × V)) (ents : List MapEntry) (i : Nat) : Option (Nat × V) → Option (Nat × Value) → Prop
 | none, none => True
 | some (j, u), some (j', x) => j = j' ∧ i ≤ j ∧ (∃ p ent, es[j - i]? = some p ∧ ents[j - i]? = some ent ∧ p.2 = u ∧ ent.val = x) ∧ Enc M w u x
 | _, _ => False
theorem find_ok {t : TypeId} {ky : Ky} {kv : V} {kx : Value} (hk : kyOk P t ky = true) (hsc : ky.isRow = false) (hkv : Enc M w kv kx) : ∀ {es : List (V × V)} {ents : List MapEntry} {i : Nat} {r : Option (Nat × V)},
  EncL M w (es.map (·.1)) (ents.map (·.key)) → EncL M w (es.map (·.2)) (ents.map (·.val)) → mfind ky kv es i = some r →
  ∃ d r', P.underlying t = some d ∧ Instr.findNow d kx ents i = some r' ∧ Found M w es ents i r r'
 | [], ents, i, r, h1, h2, h => by
  have hl := encL_length h1
  simp only [List.map_nil, List.length_map, List.length_nil] at hl
  have : ents = [] := List.eq_nil_of_length_eq_zero hl
  subst this
  simp only [mfind, Option.some.injEq] at h
  subst h
  obtain ⟨d, hd, _⟩ := kyOk_desc hk
  exact ⟨d, none, hd, rfl, trivial⟩
 | p :: es, [], i, r, h1, h2, h => by
  have hl := encL_length h1
  simp at hl
 | p :: es, ent :: ents, i, r, h1, h2, h => by
  simp only [List.map_cons, EncL] at h1 h2
  obtain ⟨x1, xs1, e1, h1, h1'⟩ := h1
  obtain ⟨x2, xs2, e2, h2, h2'⟩ := h2
  cases e1
  cases e2
  have hs : ∀ b, keyEq ky kv p.1 = some b → ∃ d, P.underlying t = some d ∧ Instr.sameNow d kx ent.key = some b := by
   intro b hb
   unfold kyOk at hk
   split at hk
   ·split at hk
    ·rename_i k0 hu
     refine ⟨_, hu, ?_⟩
     unfold keyEq at hb
     cases hc : kv <;> rw [hc] at hb hkv <;> cases hd : p.1 <;> rw [hd] at hb h1 <;> simp only [eqk, reduceCtorEq] at hb
     simp only [Enc] at hkv h1
     rw [hkv, h1]
     split at hb
     ·rename_i hkk
      simp only [Instr.sameNow, hkk, if_true]; exact hb
     ·cases hb
    ·cases hk
   ·split at hk
    ·rename_i hu
     refine ⟨_, hu, ?_⟩
     unfold keyEq at hb
     cases hc : kv <;> rw [hc] at hb hkv <;> cases hd : p.1 <;> rw [hd] at hb h1 <;> simp only [eqk, reduceCtorEq] at hb
     simp only [Enc] at hkv h1
     rw [hkv, h1]
     simp only [Instr.sameNow]; exact hb
    ·cases hk
   ·split at hk
    ·rename_i hu
     refine ⟨_, hu, ?_⟩
     unfold keyEq at hb
     cases hc : kv <;> rw [hc] at hb hkv <;> cases hd : p.1 <;> rw [hd] at hb h1 <;> simp only [eqk, reduceCtorEq] at hb
     simp only [Enc] at hkv h1
     rw [hkv, h1]
     simp only [Instr.sameNow, beq_toListBytes, ByteArray.toList_mk]; exact hb
    ·cases hk
   ·cases hsc
  simp only [mfind] at h
  split at h
  ·rename_i hq
   obtain ⟨d, hd, hsn⟩ := hs true hq
   simp only [Option.some.injEq] at h
   subst h
   refine ⟨d, some (i, ent.val), hd, by simp only [Instr.findNow, hsn], rfl, Nat.le_refl _, ⟨p, ent, by simp, by simp, rfl, rfl⟩, h2⟩
  ·rename_i hq
   obtain ⟨d, hd, hsn⟩ := hs false hq
   obtain ⟨d', r', hd', hf, hr⟩ := find_ok hk hsc hkv h1' h2' h
   rw [hd] at hd'; cases hd'
   refine ⟨d, r', hd, by simp only [Instr.findNow, hsn]; exact hf, ?_⟩
   cases r with
   | none => cases r' <;> simp only [Found] at hr ⊢
   | some q =>
    obtain ⟨j, u⟩ := q
    cases r' with
    | none => simp only [Found] at hr
    | some q' =>
     obtain ⟨j', x⟩ := q'
     simp only [Found] at hr ⊢
     obtain ⟨a1, a2, ⟨p', ent', b1, b2, b3, b4⟩, a4⟩ := hr
     refine ⟨a1, by omega, ⟨p', ent', ?_, ?_, b3, b4⟩, a4⟩
     ·rw [show j - i = (j - (i + 1)) + 1 by omega]; simpa using b1
     ·rw [show j - i = (j - (i + 1)) + 1 by omega]; simpa using b2
  ·cases h
theorem key_is {t : TypeId} {ky : Ky} {kv : V} {kx : Value} (hk : kyOk P t ky = true) (hkv : Enc M w kv kx) (hg : ky.isRow = true → ∃ b, keyEq ky kv kv = some b) (em : Bool) (w2 : World) : (Instr.checkKey em 10000 t kx).run P w2 = .ok () w2 := by
 cases ky with
 | sc kd =>
  unfold kyOk at hk
  split at hk
  case h_4 => rename_i heq; cases heq
  all_goals
   split at hk
   ·rename_i hu
    unfold Instr.checkKey
    simp [run_underlying hu]
   ·cases hk
 | row ks =>
  obtain ⟨h1, h2⟩ := kyOk_row hk
  obtain ⟨b, hb⟩ := hg rfl
  cases kv <;> simp only [keyEq, reduceCtorEq] at hb
  simp only [Enc] at hkv
  obtain ⟨_, xs, rfl, hx⟩ := hkv
  have := ckOf (P := P) (d := 10000) h1 (by omega) em M w w2 _ xs b hx hb
  rw [h2] at this
  simpa only [mkR, if_true] using this
theorem ask_ok {t : TypeId} {ks : List Kd} {cs : List V} {kx : Value} (h1 : kdsOf P 20 t = some ks) (h2 : tyAg P t = true) (hkv : Enc M w (.agg cs) kx) : ∀ {es : List (V × V)} {ents : List MapEntry} {i : Nat} {r : Option (Nat × V)},
  EncL M w (es.map (·.1)) (ents.map (·.key)) → EncL M w (es.map (·.2)) (ents.map (·.val)) → mfind (.row ks) (.agg cs) es i = some r →
  ∃ r', (∀ w2, (Instr.findAsking t kx ents i).run P w2 = .ok r' w2) ∧ Found M w es ents i r r'
 | [], ents, i, r, e1, e2, h => by
  have hl := encL_length e1
  simp only [List.map_nil, List.length_map, List.length_nil] at hl
  have : ents = [] := List.eq_nil_of_length_eq_zero hl
  subst this
  simp only [mfind, Option.some.injEq] at h
  subst h
  exact ⟨none, fun w2 => by simp [Instr.findAsking], trivial⟩
 | p :: es, [], i, r, e1, e2, h => by
  have hl := encL_length e1
  simp at hl
 | p :: es, ent :: ents, i, r, e1, e2, h => by
  simp only [List.map_cons, EncL] at e1 e2
  obtain ⟨x1, xs1, q1, e1, e1'⟩ := e1
  obtain ⟨x2, xs2, q2, e2, e2'⟩ := e2
  cases q1
  cases q2
  have hs : ∀ b, keyEq (.row ks) (.agg cs) p.1 = some b → ∀ w2, (Op.equal t kx ent.key).run P w2 = .ok b w2 := by
   intro b hb w2
   cases hp : p.1 <;> rw [hp] at hb e1 <;> simp only [keyEq, reduceCtorEq] at hb
   simp only [Enc] at hkv e1
   obtain ⟨_, xs, rfl, hx⟩ := hkv
   obtain ⟨_, ys, hy0, hy⟩ := e1
   rw [hy0]
   have he := kdsOf_eq (P := P) (d := 10000) h1 (by omega) M w w2 _ _ xs ys b hx hy hb
   rw [h2] at he
   simp only [mkR, if_true] at he
   exact he
  simp only [mfind] at h
  split at h
  ·rename_i hq
   simp only [Option.some.injEq] at h
   subst h
   exact ⟨some (i, ent.val), fun w2 => by simp [Instr.findAsking, hs true hq w2], rfl, Nat.le_refl _, ⟨p, ent, by simp, by simp, rfl, rfl⟩, e2⟩
  ·rename_i hq
   obtain ⟨r', hf, hr⟩ := ask_ok h1 h2 hkv e1' e2' h
   refine ⟨r', fun w2 => by simp [Instr.findAsking, hs false hq w2, hf w2], ?_⟩
   cases r with
   | none => cases r' <;> simp only [Found] at hr ⊢
   | some q =>
    obtain ⟨j, u⟩ := q
    cases r' with
    | none => simp only [Found] at hr
    | some q' =>
     obtain ⟨j', x⟩ := q'
     simp only [Found] at hr ⊢
     obtain ⟨a1, a2, ⟨p', ent', b1, b2, b3, b4⟩, a4⟩ := hr
     refine ⟨a1, by omega, ⟨p', ent', ?_, ?_, b3, b4⟩, a4⟩
     ·rw [show j - i = (j - (i + 1)) + 1 by omega]; simpa using b1
     ·rw [show j - i = (j - (i + 1)) + 1 by omega]; simpa using b2
  ·cases h
theorem sameNow_row {d : TypeDesc} (h : d.isRow = true) (a b : Value) : Instr.sameNow d a b = none := by
 cases d <;> simp [TypeDesc.isRow] at h <;> rfl
theorem run_findKey_none {t : TypeId} {d : TypeDesc} {kx : Value} {ents : List MapEntry} (hd : P.underlying t = some d) (h : Instr.findNow d kx ents 0 = none) (w2 : World) : (Instr.findKey t kx ents).run P w2 = (Instr.findAsking t kx ents).run P w2 := by
 simp [Instr.findKey, run_underlying hd, h]
theorem findKey_ok {t : TypeId} {ky : Ky} {kv : V} {kx : Value} {es : List (V × V)} {ents : List MapEntry} {r : Option (Nat × V)} (hk : kyOk P t ky = true) (hkv : Enc M w kv kx)
  (hg : ky.isRow = true → ∃ b, keyEq ky kv kv = some b) (h1 : EncL M w (es.map (·.1)) (ents.map (·.key))) (h2 : EncL M w (es.map (·.2)) (ents.map (·.val))) (h : mfind ky kv es 0 = some r) :
  ∃ r', (∀ w, (Instr.findKey t kx ents).run P w = .ok r' w) ∧ Found M w es ents 0 r r' := by
 cases hrow : ky.isRow
 ·obtain ⟨d, r', hd, hf, hr⟩ := find_ok hk hrow hkv h1 h2 h
  exact ⟨r', fun w => MapKept.run_findKey hd hf, hr⟩
 ·obtain ⟨d, hd, hdr⟩ := kyOk_desc hk
  have hdi := hdr hrow
  obtain ⟨b, hb⟩ := hg hrow
  cases ky with
  | sc kd => cases hrow
  | row ks =>
   obtain ⟨k1, k2⟩ := kyOk_row hk
   cases kv <;> simp only [keyEq, reduceCtorEq] at hb
   obtain ⟨r', hf, hr⟩ := ask_ok k1 k2 hkv h1 h2 h
   refine ⟨r', fun w2 => ?_, hr⟩
   cases ents with
   | nil =>
    have hf2 := hf w2
    rw [MapKept.run_findKey (P := P) (w := w2) (l := []) (a := none) hd rfl]
    simpa [Instr.findAsking] using hf2
   | cons ent ents =>
    rw [run_findKey_none hd (by simp only [Instr.findNow, sameNow_row hdi])]
    exact hf w2
def mapOf? (P : Program) (t : TypeId) : Option (TypeId × TypeId) :=
 match P.underlying t with
 | some (.map k el) => some (k, el)
 | _ => none
theorem mapOf?_some {t k el : TypeId} (h : mapOf? P t = some (k, el)) : P.underlying t = some (.map k el) := by
 unfold mapOf? at h
 split at h
 ·rename_i h2; cases h; exact h2
 ·cases h
theorem mkmap_ok {t : TypeId} {base s : Nat} (ho : o.op = .makeMap t none) (hr : HRel M w H) (hv : ev1 base e H (.mkmap s) = some (v, H1)) : OpOk P o a M H w v H1 := by
 simp only [ev1] at hv
 split at hv
 case isFalse => cases hv
 rename_i hf
 cases hv
 obtain ⟨st, ii, r⟩ := stp_alcG (ob := .map #[] 0) (blk0 := .map []) hr hf rfl fun hst hid => by
  simp only [BRel]
  refine ⟨by simp [Mm.alc], #[], ?_, by simp only [List.map_nil, EncL], by simp only [List.map_nil, EncL], fun i x h => by simp at h⟩
  simp only [Mm.alc, if_true]
  exact heap_alloc_new w _
 refine ⟨.value (.map (some w.heap.size)), _, _, ?_, ?_, st, ii, r⟩
 ·simp only [execOp, ho, Option.map_none, Sem.run_bind, run_makeMap, Result.andThen_ok, Sem.run_pure]
 ·simp only [Enc, Mm.alc, decide_true, Bool.true_or, if_true, true_and]
def zeroS (P : Program) (t : TypeId) (z : V) : Bool :=
 match P.info? t with
 | some i => match i.zero with
  | some zv => encS zv z
  | none => false
 | none => false
theorem mget_ok {t kt el : TypeId} {x y : Operand} {sx sy : X} {base : Nat} {ky : Ky} {ok : Bool} {z : V} (ho : o.op = .lookup t x y ok) (hx : chkX M.fm x sx = true) (hy : chkX M.fm y sy = true)
  (hu0 : mapOf? P t = some (kt, el)) (hk : kyOk P kt ky = true) (hz : zeroS P el z = true) (ht : RelT M w e a n) (hr : HRel M w H) (hv : ev1 base e H (.mget ky ok z sx sy) = some (v, H1)) : OpOk P o a M H w v H1 := by
 have hu := mapOf?_some hu0
 have hx' := chkX_enc hx ht
 have hy' := chkX_enc hy ht
 obtain ⟨i, zv, hi, hzv, hez⟩ : ∃ i zv, P.info? el = some i ∧ i.zero = some zv ∧ encS zv z = true := by
  unfold zeroS at hz
  split at hz
  ·rename_i i hi
   split at hz
   ·rename_i zv hzv; exact ⟨i, zv, hi, hzv, hz⟩
   ·cases hz
  ·cases hz
 have hzero : ∀ w, (zeroValue el).run P w = .ok zv w := fun w => by simp [zeroValue, typeInfo, hi, hzv]
 have hze : Enc M w z zv := encS_enc hez
 simp only [ev1] at hv
 split at hv
 case isTrue => cases hv
 rename_i hgd
 have hg : ky.isRow = true → ∃ b, keyEq ky (sy.ev e) (sy.ev e) = some b := fun h => by
  cases hq : keyEq ky (sy.ev e) (sy.ev e) with
  | none => exact absurd ⟨h, hq⟩ hgd
  | some b => exact ⟨b, rfl⟩
 split at hv
 ·rename_i id hp
  split at hv
  case h_2 => cases hv
  rename_i es hb
  rw [hp] at hx'
  simp only [Enc] at hx'
  have hb' := hr.rel id _ hb
  simp only [BRel] at hb'
  obtain ⟨_, ents, hh, hK, hV, hborn⟩ := hb'
  have hget := MapKept.run_getObj_map (P := P) hh
  have hck := fun em => key_is hk hy' hg em w
  split at hv
  ·rename_i q u hf
   obtain ⟨r', hf', hF⟩ := findKey_ok hk hy' hg hK hV hf
   cases r' with
   | none => simp only [Found] at hF
   | some q' =>
    obtain ⟨j', x'⟩ := q'
    simp only [Found] at hF
    cases hv
    refine .plain (rv := if ok then .tuple #[x', .bool true] else x') hr ?_ ?_
    ·simp only [execOp, ho, hx'.2, Instr.lookup, Sem.run_bind, run_underlying hu, Result.andThen_ok, hget, Sem.run_pure, hck, hf']
    ·cases ok
     ·simpa using hF.2.2.2
     ·simp only [if_true, Enc]; exact ⟨[x', .bool true], rfl, by simp only [EncL]; exact ⟨_, _, rfl, hF.2.2.2, _, _, rfl, by simp only [Enc], rfl⟩⟩
  ·rename_i hf
   obtain ⟨r', hf', hF⟩ := findKey_ok hk hy' hg hK hV hf
   cases r' with
   | some q' => simp only [Found] at hF
   | none =>
    cases hv
    refine .plain (rv := if ok then .tuple #[zv, .bool false] else zv) hr ?_ ?_
    ·simp only [execOp, ho, hx'.2, Instr.lookup, Sem.run_bind, run_underlying hu, Result.andThen_ok, hget, Sem.run_pure, hck, hf', hzero]
    ·cases ok
     ·simpa using hze
     ·simp only [if_true, Enc]; exact ⟨[zv, .bool false], rfl, by simp only [EncL]; exact ⟨_, _, rfl, hze, _, _, rfl, by simp only [Enc], rfl⟩⟩
  ·cases hv
 ·rename_i hp
  cases hv
  rw [hp] at hx'
  simp only [Enc] at hx'
  have hck := fun em => key_is hk hy' hg em w
  have hnil : ∀ w, (Instr.findKey kt (a.eval y) []).run P w = .ok none w := fun w => by
   obtain ⟨d, hd, _⟩ := kyOk_desc hk
   exact MapKept.run_findKey hd rfl
  refine .plain (rv := if ok then .tuple #[zv, .bool false] else zv) hr ?_ ?_
  ·simp only [execOp, ho, hx', Instr.lookup, Sem.run_bind, run_underlying hu, Result.andThen_ok, Sem.run_pure, hck, hnil, hzero]
  ·cases ok
   ·simpa using hze
   ·simp only [if_true, Enc]; exact ⟨[zv, .bool false], rfl, by simp only [EncL]; exact ⟨_, _, rfl, hze, _, _, rfl, by simp only [Enc], rfl⟩⟩
 ·cases hv
theorem sameBits_key {kv kv' : V} {x x' : Value} {k : Kd} (h : eqk k kv kv' = some true) (h1 : Enc M w kv x) (h2 : Enc M w kv' x') : Instr.sameBits 10000 x' x = true := by
 cases k <;> cases kv <;> cases kv' <;> simp only [eqk, reduceCtorEq, Option.some.injEq] at h
 ·split at h
  ·rename_i hk
   subst hk
   simp at h; subst h
   simp only [Enc] at h1 h2
   subst h1; subst h2
   simp [Instr.sameBits]
  ·cases h
 ·simp at h; subst h
  simp only [Enc] at h1 h2
  subst h1; subst h2
  simp [Instr.sameBits]
 ·simp at h; subst h
  simp only [Enc] at h1 h2
  subst h1; subst h2
  simp only [Instr.sameBits, beq_toListBytes, beq_self_eq_true]
theorem sameBits_kd {kv kv' : V} {x x' : Value} {k : Kd} (n : Nat) (h : eqk k kv kv' = some true) (h1 : Enc M w kv x) (h2 : Enc M w kv' x') : Instr.sameBits n x' x = true := by
 cases k <;> cases kv <;> cases kv' <;> simp only [eqk, reduceCtorEq, Option.some.injEq] at h
 ·split at h
  ·rename_i hk
   subst hk
   simp at h; subst h
   simp only [Enc] at h1 h2
   subst h1; subst h2
   simp [Instr.sameBits]
  ·cases h
 ·simp at h; subst h
  simp only [Enc] at h1 h2
  subst h1; subst h2
  simp [Instr.sameBits]
 ·simp at h; subst h
  simp only [Enc] at h1 h2
  subst h1; subst h2
  simp only [Instr.sameBits, beq_toListBytes, beq_self_eq_true]
theorem sameBits_row (n : Nat) : ∀ {ks : List Kd} {cs ds : List V} {xs ys : List Value}, eqks ks cs ds = some true → EncL M w cs xs → EncL M w ds ys → ys.length = xs.length ∧ ((ys.zip xs).all fun (p : Value × Value) => Instr.sameBits n p.1 p.2) = true
 | [], [], [], xs, ys, _, hx, hy => by
  simp only [EncL] at hx hy
  subst hx; subst hy
  exact ⟨rfl, rfl⟩
 | [], [], _ :: _, _, _, h, _, _ => by simp [eqks] at h
 | [], _ :: _, _, _, _, h, _, _ => by simp [eqks] at h
 | _ :: _, [], _, _, _, h, _, _ => by simp [eqks] at h
 | _ :: _, _ :: _, [], _, _, h, _, _ => by simp [eqks] at h
 | k :: ks, c :: cs, d :: ds, xs, ys, h, hx, hy => by
  simp only [EncL] at hx hy
  obtain ⟨x, xs', rfl, h1, hx⟩ := hx
  obtain ⟨y, ys', rfl, h2, hy⟩ := hy
  simp only [eqks] at h
  split at h
  case h_2 => cases h
  rename_i u v hu hv
  simp only [Option.some.injEq, Bool.and_eq_true] at h
  obtain ⟨rfl, rfl⟩ := h
  obtain ⟨i1, i2⟩ := sameBits_row n hv hx hy
  exact ⟨by simp [i1], by simp only [List.zip_cons_cons, List.all_cons, Bool.and_eq_true]; exact ⟨sameBits_kd n hu h1 h2, i2⟩⟩
theorem sameBits_ky {ky : Ky} {kv kv' : V} {x x' : Value} (h : keyEq ky kv kv' = some true) (h1 : Enc M w kv x) (h2 : Enc M w kv' x') : Instr.sameBits 10000 x' x = true := by
 cases ky with
 | sc kd => exact sameBits_key (k := kd) h h1 h2
 | row ks =>
  cases kv <;> cases kv' <;> simp only [keyEq, reduceCtorEq] at h
  simp only [Enc] at h1 h2
  obtain ⟨_, xs, rfl, hx⟩ := h1
  obtain ⟨_, ys, rfl, hy⟩ := h2
  obtain ⟨i1, i2⟩ := sameBits_row 9999 h hx hy
  rw [Instr.sameBits]
  simp only [List.size_toArray, i1, beq_self_eq_true, Bool.true_and]
  exact i2
theorem mfind_at {ky : Ky} {kv : V} : ∀ {es : List (V × V)} {i j : Nat} {u : V}, mfind ky kv es i = some (some (j, u)) → i ≤ j ∧ ∃ p, es[j - i]? = some p ∧ p.2 = u ∧ keyEq ky kv p.1 = some true
 | [], i, j, u, h => by simp [mfind] at h
 | p :: es, i, j, u, h => by
  simp only [mfind] at h
  split at h
  ·rename_i hq
   simp only [Option.some.injEq, Prod.mk.injEq] at h
   obtain ⟨rfl, rfl⟩ := h
   exact ⟨Nat.le_refl _, p, by simp, rfl, hq⟩
  ·obtain ⟨h1, q, h2, h3⟩ := mfind_at h
   refine ⟨by omega, q, ?_, h3⟩
   rw [show j - i = (j - (i + 1)) + 1 by omega]; simpa using h2
  ·cases h
theorem stp_map {id : Nat} {es fs : List (V × V)} {ents : Array MapEntry} (hr : HRel M w H) (hb : H[id]? = some (some (.map es)))
  (hK : EncL M w (fs.map (·.1)) (ents.toList.map (·.key))) (hV : EncL M w (fs.map (·.2)) (ents.toList.map (·.val))) (hB : ∀ (i : Nat) (x : MapEntry), ents[i]? = some x → x.born = i) :
  Stp M H w (M.limit (M.j id) 0) (H.set id (some (.map fs))) { w with heap := w.heap.setIfInBounds (M.j id) (.map ents fs.length) } ∧ Ids M (M.limit (M.j id) 0) H.length ∧
   HRel (M.limit (M.j id) 0) { w with heap := w.heap.setIfInBounds (M.j id) (.map ents fs.length) } (H.set id (some (.map fs))) := by
 have hb' := hr.rel id _ hb
 simp only [BRel] at hb'
 obtain ⟨hl0, e0, hh, _⟩ := hb'
 have hs := MapKept.heap_set (o' := .map ents fs.length) hh
 refine stp_put hr hb rfl rfl hl0 0 rfl rfl rfl (by simp) hs.2 fun hst hid => ?_
 simp only [BRel]
 exact ⟨by simp [Mm.limit], ents, hs.1, EncL.step hst hr hid hK, EncL.step hst hr hid hV, hB⟩
theorem encL_set {cs : List V} {xs : List Value} (h : EncL M w cs xs) {i : Nat} {c : V} {x : Value} (hc : Enc M w c x) : EncL M w (cs.set i c) (xs.set i x) := by
 have hl := encL_length h
 refine encL_of (by simp [hl]) fun j d y hd hy => ?_
 rw [List.getElem?_set] at hd hy
 by_cases e : i = j
 ·subst e
  simp only [if_true] at hd hy
  split at hd
  ·rename_i h1
   rw [if_pos (by rw [hl]; exact h1)] at hy
   cases hd; cases hy; exact hc
  ·cases hd
 ·rw [if_neg e] at hd hy
  obtain ⟨y', hy', he⟩ := encL_get h hd
  rw [hy] at hy'; cases hy'; exact he
theorem mput_ok {t kt el : TypeId} {x y z : Operand} {sx sy sz : X} {base : Nat} {ky : Ky} (ho : o.op = .insert t x y z ∨ o.op = .mapUpdate t x y z) (hx : chkX M.fm x sx = true) (hy : chkX M.fm y sy = true) (hz : chkX M.fm z sz = true)
  (hu0 : mapOf? P t = some (kt, el)) (hk : kyOk P kt ky = true) (ht : RelT M w e a n) (hr : HRel M w H) (hv : ev1 base e H (.mput ky sx sy sz) = some (v, H1)) : OpOk P o a M H w v H1 := by
 have hu := mapOf?_some hu0
 have hx' := chkX_enc hx ht
 have hy' := chkX_enc hy ht
 have hz' := chkX_enc hz ht
 simp only [ev1] at hv
 split at hv
 case h_2 => cases hv
 rename_i id hp
 split at hv
 case isTrue => cases hv
 rename_i hkk
 split at hv
 case h_2 => cases hv
 rename_i es hb
 rw [hp] at hx'
 simp only [Enc] at hx'
 have hb' := hr.rel id _ hb
 simp only [BRel] at hb'
 obtain ⟨_, ents, hh, hK, hV, hborn⟩ := hb'
 have hlen : ents.size = es.length := by have := encL_length hK; simpa using this
 have hget := MapKept.run_getObj_map (P := P) hh
 have hg : ky.isRow = true → ∃ b, keyEq ky (sy.ev e) (sy.ev e) = some b := fun _ => by
  cases hq : keyEq ky (sy.ev e) (sy.ev e) with
  | none => exact absurd (.inl hq) hkk
  | some b => exact ⟨b, rfl⟩
 have hck := fun em => key_is hk hy' hg em w
 have hset := fun ob => MapKept.run_setObj_map (P := P) ob hh
 have hex : ∀ w', (Instr.mapUpdate t (a.eval x) (a.eval y) (a.eval z)).run P w = .ok () w' → (execOp a.eval o).run P w = .ok .skip w' := by
  intro w' h
  rcases ho with ho | ho <;> simp only [execOp, ho, Sem.run_bind, h, Result.andThen_ok, Sem.run_pure]
 split at hv
 ·rename_i i u hf
  obtain ⟨r', hf', hF⟩ := findKey_ok hk hy' hg hK hV hf
  cases r' with
  | none => simp only [Found] at hF
  | some q' =>
   obtain ⟨j', x'⟩ := q'
   simp only [Found] at hF
   obtain ⟨rfl, _, ⟨p, ent, hp1, hp2, _, _⟩, _⟩ := hF
   obtain ⟨_, p', hp', _, hkeq⟩ := mfind_at hf
   rw [hp'] at hp1; cases hp1
   simp only [Nat.sub_zero] at hp' hp2
   cases hv
   have hkenc : Enc M w p.1 ent.key := by
    obtain ⟨y2, h2, h3⟩ := encL_get hK (i := i) (c := p.1) (by rw [List.getElem?_map, hp']; rfl)
    rw [List.getElem?_map, hp2] at h2
    cases h2; exact h3
   have hsb := sameBits_ky hkeq hy' hkenc
   have hents : ents[i]? = some ent := by rw [← Array.getElem?_toList]; exact hp2
   have hmod : (ents.modify i fun en => { en with key := a.eval y, val := a.eval z }).toList = ents.toList.set i { ent with key := a.eval y, val := a.eval z } := by
    apply List.ext_getElem?
    intro k
    rw [Array.getElem?_toList, Array.getElem?_modify, List.getElem?_set]
    by_cases hki : i = k
    ·subst hki
     have hlt : i < ents.toList.length := (List.getElem?_eq_some_iff.1 hp2).1
     rw [if_pos rfl, if_pos rfl, if_pos hlt, hents]; rfl
    ·rw [if_neg hki, if_neg hki, Array.getElem?_toList]
   obtain ⟨st, ii, r⟩ := stp_map (fs := es.set i (sy.ev e, sz.ev e)) (ents := ents.modify i fun en => { en with key := a.eval y, val := a.eval z }) hr hb
    (by rw [hmod, List.map_set, List.map_set]; exact encL_set hK hy') (by rw [hmod, List.map_set, List.map_set]; exact encL_set hV hz')
    (fun k x hx => by
     rw [← Array.getElem?_toList, hmod, List.getElem?_set] at hx
     split at hx
     ·rename_i hki
      subst hki
      split at hx
      ·cases hx; exact hborn _ ent hents
      ·cases hx
     ·rw [Array.getElem?_toList] at hx; exact hborn k x hx)
   refine ⟨.skip, _, _, hex _ ?_, rfl, st, ii, r⟩
   simp only [Instr.mapUpdate, hx'.2, Sem.run_bind, run_underlying hu, Result.andThen_ok, hget, hck, hf', Instr.keyThatStays, hents, Option.map_some, Option.getD_some, hsb, if_true, Sem.run_pure, hset, List.length_set]
 ·rename_i hf
  obtain ⟨r', hf', hF⟩ := findKey_ok hk hy' hg hK hV hf
  cases r' with
  | some q' => simp only [Found] at hF
  | none =>
   cases hv
   obtain ⟨st, ii, r⟩ := stp_map (fs := es ++ [(sy.ev e, sz.ev e)]) (ents := ents.push { key := a.eval y, val := a.eval z, born := es.length }) hr hb
    (by rw [List.map_append, Array.toList_push, List.map_append]; exact encL_append hK (by simp only [List.map_cons, List.map_nil, EncL]; exact ⟨_, _, rfl, hy', rfl⟩))
    (by rw [List.map_append, Array.toList_push, List.map_append]; exact encL_append hV (by simp only [List.map_cons, List.map_nil, EncL]; exact ⟨_, _, rfl, hz', rfl⟩))
    (fun k x hx => by
     rw [Array.getElem?_push] at hx
     split at hx
     ·rename_i hk2; cases hx; rw [← hlen]; exact hk2.symm
     ·exact hborn k x hx)
   refine ⟨.skip, _, _, hex _ ?_, rfl, st, ii, r⟩
   simp only [Instr.mapUpdate, hx'.2, Sem.run_bind, run_underlying hu, Result.andThen_ok, hget, hck, hf', hset, List.length_append, List.length_cons, List.length_nil]
 ·cases hv
theorem rng_ok {t : TypeId} {x : Operand} {sx : X} {base s : Nat} (ho : o.op = .range t x) (hx : chkX M.fm x sx = true) (hu : P.underlying t = some .string) (ht : RelT M w e a n) (hr : HRel M w H)
  (hv : ev1 base e H (.rng s sx) = some (v, H1)) : OpOk P o a M H w v H1 := by
 have hx' := chkX_enc hx ht
 simp only [ev1] at hv
 split at hv
 case h_2 => cases hv
 rename_i tx hp
 split at hv
 case isFalse => cases hv
 rename_i hf
 cases hv
 rw [hp] at hx'
 simp only [Enc] at hx'
 obtain ⟨st, ii, r⟩ := stp_alcG (ob := .stringIter ⟨tx.toArray⟩ 0) (blk0 := .siter tx 0) hr hf rfl fun hst hid => by
  simp only [BRel]
  refine ⟨by simp [Mm.alc], ?_⟩
  simp only [Mm.alc, if_true]
  exact heap_alloc_new w _
 refine ⟨.value (.pointer (some ⟨w.heap.size, 0, none⟩)), _, _, ?_, ?_, st, ii, r⟩
 ·simp [execOp, ho, hx', Instr.range, run_underlying hu]
 ·simp only [Enc, Mm.alc, decide_true, Bool.true_or, if_true, true_and]
theorem nxt_ok {x : Operand} {sx : X} {base : Nat} (ho : o.op = .next x true) (hx : chkX M.fm x sx = true) (ht : RelT M w e a n) (hr : HRel M w H)
  (hv : ev1 base e H (.nxt sx) = some (v, H1)) : OpOk P o a M H w v H1 := by
 have hx' := chkX_enc hx ht
 simp only [ev1] at hv
 split at hv
 case h_2 => cases hv
 rename_i id hp
 split at hv
 case h_2 => cases hv
 rename_i tx pos hb
 rw [hp] at hx'
 simp only [Enc] at hx'
 have hb' := hr.rel id _ hb
 simp only [BRel] at hb'
 obtain ⟨hl0, hh⟩ := hb'
 split at hv
 ·rename_i hlt
  cases hv
  have hrun := Lib.run_next_any_at (P := P) w (M.j id) ⟨tx.toArray⟩ pos o.type hh (by rw [size_mk]; exact hlt)
  have hs := MapKept.heap_set (o' := .stringIter ⟨tx.toArray⟩ (pos + (Utf8.decode ⟨tx.toArray⟩ pos).2)) hh
  obtain ⟨st, ii, r⟩ := stp_put (blk1 := .siter tx (pos + (Utf8.decode ⟨tx.toArray⟩ pos).2)) (w' := w.iterAt (M.j id) ⟨tx.toArray⟩ (pos + (Utf8.decode ⟨tx.toArray⟩ pos).2)) hr hb rfl rfl hl0 0 rfl rfl rfl (by simp [World.iterAt]) hs.2 fun hst hid => by
   simp only [BRel]
   exact ⟨by simp [Mm.limit], hs.1⟩
  refine ⟨.value (.tuple #[.bool true, .int .i64 pos, .int .i32 (Utf8.decode ⟨tx.toArray⟩ pos).1]), _, _, ?_, ?_, st, ii, r⟩
  ·simp only [execOp, ho, hx'.2, Sem.run_bind, hrun, Result.andThen_ok, Sem.run_pure]
  ·simp only [Enc]
   exact ⟨[.bool true, .int .i64 pos, .int .i32 (Utf8.decode ⟨tx.toArray⟩ pos).1], rfl, by simp [EncL, Enc]⟩
 ·rename_i hlt
  cases hv
  have hrun := Lib.run_next_end_at (P := P) w (M.j id) ⟨tx.toArray⟩ pos o.type hh (by rw [size_mk]; exact hlt)
  refine .plain (rv := .tuple #[.bool false]) hr ?_ ?_
  ·simp only [execOp, ho, hx'.2, Sem.run_bind, hrun, Result.andThen_ok, Sem.run_pure]
  ·simp only [Enc]
   exact ⟨[.bool false], rfl, by simp [EncL, Enc]⟩
end Go.Ev
/- A map's entry, looked up and stored into: m[k] = append(m[k], v). -/
namespace Go.Ev
open Go Go.RowKit
set_option linter.unusedSimpArgs false
set_option linter.unusedVariables false
variable {P : Program} {M M' : Mm} {H H1 : Heap} {w w' : World} {e : Env} {a : Act} {n : Nat} {o : Oper} {v : V}
theorem modify_list {ents : Array MapEntry} {i : Nat} {f : MapEntry → MapEntry} {ent : MapEntry} (h : ents[i]? = some ent) : (ents.modify i f).toList = ents.toList.set i (f ent) := by
 have hp2 : ents.toList[i]? = some ent := by rw [Array.getElem?_toList]; exact h
 apply List.ext_getElem?
 intro k
 rw [Array.getElem?_toList, Array.getElem?_modify, List.getElem?_set]
 by_cases hki : i = k
 ·subst hki
  have hlt : i < ents.toList.length := (List.getElem?_eq_some_iff.1 hp2).1
  rw [if_pos rfl, if_pos rfl, if_pos hlt, h]; rfl
 ·rw [if_neg hki, if_neg hki, Array.getElem?_toList]
theorem born_set {ents : Array MapEntry} {i : Nat} {ent ent' : MapEntry} {es' : Array MapEntry} (hm : es'.toList = ents.toList.set i ent') (hents : ents[i]? = some ent) (hb : ent'.born = ent.born) (hborn : ∀ (i : Nat) (x : MapEntry), ents[i]? = some x → x.born = i) :
  ∀ (k : Nat) (x : MapEntry), es'[k]? = some x → x.born = k := fun k x hx => by
 rw [← Array.getElem?_toList, hm, List.getElem?_set] at hx
 split at hx
 ·rename_i hki
  subst hki
  split at hx
  ·cases hx; rw [hb]; exact hborn _ ent hents
  ·cases hx
 ·rw [Array.getElem?_toList] at hx; exact hborn k x hx
theorem ment_ok {t kt el : TypeId} {x y : Operand} {sx sy : X} {base : Nat} {ky : Ky} {z : V} (ho : o.op = .mapEntry t x y) (hx : chkX M.fm x sx = true) (hy : chkX M.fm y sy = true)
  (hu0 : mapOf? P t = some (kt, el)) (hk : kyOk P kt ky = true) (hz : zeroS P el z = true) (ht : RelT M w e a n) (hr : HRel M w H) (hv : ev1 base e H (.ment ky z sx sy) = some (v, H1)) : OpOk P o a M H w v H1 := by
 have hu := mapOf?_some hu0
 have hx' := chkX_enc hx ht
 have hy' := chkX_enc hy ht
 obtain ⟨i, zv, hi, hzv, hez⟩ : ∃ i zv, P.info? el = some i ∧ i.zero = some zv ∧ encS zv z = true := by
  unfold zeroS at hz
  split at hz
  ·rename_i i hi
   split at hz
   ·rename_i zv hzv; exact ⟨i, zv, hi, hzv, hz⟩
   ·cases hz
  ·cases hz
 have hzero : ∀ w, (zeroValue el).run P w = .ok zv w := fun w => by simp [zeroValue, typeInfo, hi, hzv]
 have hze : Enc M w z zv := encS_enc hez
 simp only [ev1] at hv
 split at hv
 case h_2 => cases hv
 rename_i id hp
 split at hv
 case isTrue => cases hv
 rename_i hkk
 split at hv
 case h_2 => cases hv
 rename_i es hb
 rw [hp] at hx'
 simp only [Enc] at hx'
 have hb' := hr.rel id _ hb
 simp only [BRel] at hb'
 obtain ⟨_, ents, hh, hK, hV, hborn⟩ := hb'
 have hlen : ents.size = es.length := by have := encL_length hK; simpa using this
 have hget := MapKept.run_getObj_map (P := P) hh
 have hg : ky.isRow = true → ∃ b, keyEq ky (sy.ev e) (sy.ev e) = some b := fun _ => by
  cases hq : keyEq ky (sy.ev e) (sy.ev e) with
  | none => exact absurd hq hkk
  | some b => exact ⟨b, rfl⟩
 have hck := fun em => key_is hk hy' hg em w
 have hset := fun ob => MapKept.run_setObj_map (P := P) ob hh
 have hex : ∀ r w', (Instr.mapEntry t (a.eval x) (a.eval y)).run P w = .ok r w' → (execOp a.eval o).run P w = .ok (.value r) w' := by
  intro r w' h
  simp only [execOp, ho, Sem.run_bind, h, Result.andThen_ok, Sem.run_pure]
 split at hv
 ·rename_i i u hf
  obtain ⟨r', hf', hF⟩ := findKey_ok hk hy' hg hK hV hf
  cases r' with
  | none => simp only [Found] at hF
  | some q' =>
   obtain ⟨j', x'⟩ := q'
   simp only [Found] at hF
   obtain ⟨rfl, _, ⟨p, ent, hp1, hp2, _, _⟩, hxu⟩ := hF
   obtain ⟨_, p', hp', hpu, hkeq⟩ := mfind_at hf
   rw [hp'] at hp1; cases hp1
   simp only [Nat.sub_zero] at hp' hp2
   cases hv
   have hkenc : Enc M w p.1 ent.key := by
    obtain ⟨y2, h2, h3⟩ := encL_get hK (i := i) (c := p.1) (by rw [List.getElem?_map, hp']; rfl)
    rw [List.getElem?_map, hp2] at h2
    cases h2; exact h3
   have hvenc : Enc M w p.2 ent.val := by
    obtain ⟨y2, h2, h3⟩ := encL_get hV (i := i) (c := p.2) (by rw [List.getElem?_map, hp']; rfl)
    rw [List.getElem?_map, hp2] at h2
    cases h2; exact h3
   have hsb := sameBits_ky hkeq hy' hkenc
   have hents : ents[i]? = some ent := by rw [← Array.getElem?_toList]; exact hp2
   have hmod := modify_list (f := fun en => { en with key := a.eval y }) hents
   have hVs : (ents.toList.set i { ent with key := a.eval y }).map (·.val) = (ents.toList.map (·.val)).set i ent.val := by rw [List.map_set]
   obtain ⟨st, ii, r⟩ := stp_map (fs := es.set i (sy.ev e, u)) (ents := ents.modify i fun en => { en with key := a.eval y }) hr hb
    (by rw [hmod, List.map_set, List.map_set]; exact encL_set hK hy') (by rw [hmod, hVs, List.map_set, ← hpu]; exact encL_set hV hvenc)
    (born_set hmod hents rfl hborn)
   have hbi := hborn i ent hents
   refine ⟨.value (.tuple #[x', .int .i64 (i : Int)]), _, _, hex _ _ ?_, ?_, st, ii, r⟩
   ·simp only [Instr.mapEntry, hx'.2, Sem.run_bind, run_underlying hu, Result.andThen_ok, hget, hck, hf', Instr.keyThatStays, hents, Option.map_some, Option.getD_some, hsb, if_true, Sem.run_pure, hset, List.length_set, hbi, goInt]
   ·simp only [Enc]
    refine ⟨[x', .int .i64 (i : Int)], rfl, ?_⟩
    simp only [EncL]
    exact ⟨_, _, rfl, Enc.step st hr ii hxu, _, _, rfl, by simp only [Enc], rfl⟩
 ·rename_i hf
  obtain ⟨r', hf', hF⟩ := findKey_ok hk hy' hg hK hV hf
  cases r' with
  | some q' => simp only [Found] at hF
  | none =>
   cases hv
   obtain ⟨st, ii, r⟩ := stp_map (fs := es ++ [(sy.ev e, z)]) (ents := ents.push { key := a.eval y, val := zv, born := es.length }) hr hb
    (by rw [List.map_append, Array.toList_push, List.map_append]; exact encL_append hK (by simp only [List.map_cons, List.map_nil, EncL]; exact ⟨_, _, rfl, hy', rfl⟩))
    (by rw [List.map_append, Array.toList_push, List.map_append]; exact encL_append hV (by simp only [List.map_cons, List.map_nil, EncL]; exact ⟨_, _, rfl, hze, rfl⟩))
    (fun k x hx => by
     rw [Array.getElem?_push] at hx
     split at hx
     ·rename_i hk2; cases hx; rw [← hlen]; exact hk2.symm
     ·exact hborn k x hx)
   refine ⟨.value (.tuple #[zv, .int .i64 (es.length : Int)]), _, _, hex _ _ ?_, ?_, st, ii, r⟩
   ·simp only [Instr.mapEntry, hx'.2, Sem.run_bind, run_underlying hu, Result.andThen_ok, hget, hck, hf', hzero, hset, List.length_append, List.length_cons, List.length_nil, Sem.run_pure, goInt]
   ·simp only [Enc]
    refine ⟨[zv, .int .i64 (es.length : Int)], rfl, ?_⟩
    simp only [EncL]
    exact ⟨_, _, rfl, Enc.step st hr ii hze, _, _, rfl, by simp only [Enc], rfl⟩
 ·cases hv
theorem find_born_at {ents : Array MapEntry} {i : Nat} (hi : i < ents.size) (hborn : ∀ (i : Nat) (x : MapEntry), ents[i]? = some x → x.born = i) : ents.findIdx? (fun en => (en.born : Int) == (i : Int)) = some i := by
 rw [Array.findIdx?_eq_some_iff_getElem]
 refine ⟨hi, by simp [hborn i _ (Array.getElem?_eq_getElem hi)], fun j hj => ?_⟩
 have := hborn j _ (Array.getElem?_eq_getElem (show j < ents.size by omega))
 simp [this]; omega
theorem mst_ok {t : TypeId} {x y z : Operand} {sx sy sz : X} {base : Nat} (ho : o.op = .entryStore t x y z) (hx : chkX M.fm x sx = true) (hy : chkX M.fm y sy = true) (hz : chkX M.fm z sz = true)
  (ht : RelT M w e a n) (hr : HRel M w H) (hv : ev1 base e H (.mst sx sy sz) = some (v, H1)) : OpOk P o a M H w v H1 := by
 have hx' := chkX_enc hx ht
 have hy' := chkX_enc hy ht
 have hz' := chkX_enc hz ht
 simp only [ev1] at hv
 split at hv
 case h_2 => cases hv
 rename_i id k i hp hq
 split at hv
 case h_2 => cases hv
 rename_i es hb
 split at hv
 case isFalse => cases hv
 rename_i h0
 split at hv
 case h_2 => cases hv
 rename_i p hpi
 cases hv
 obtain ⟨i, rfl⟩ := Int.eq_ofNat_of_zero_le h0
 simp only [Int.toNat_natCast] at hpi ⊢
 rw [hp] at hx'
 rw [hq] at hy'
 simp only [Enc] at hx' hy'
 have hb' := hr.rel id _ hb
 simp only [BRel] at hb'
 obtain ⟨_, ents, hh, hK, hV, hborn⟩ := hb'
 have hlen : ents.size = es.length := by have := encL_length hK; simpa using this
 have hil : i < ents.size := by rw [hlen]; exact (List.getElem?_eq_some_iff.1 hpi).1
 obtain ⟨ent, hents⟩ : ∃ ent, ents[i]? = some ent := ⟨_, Array.getElem?_eq_getElem hil⟩
 have hp2 : ents.toList[i]? = some ent := by rw [Array.getElem?_toList]; exact hents
 have hget := MapKept.run_getObj_map (P := P) hh
 have hset := fun ob => MapKept.run_setObj_map (P := P) ob hh
 have hkenc : Enc M w p.1 ent.key := by
  obtain ⟨y2, h2, h3⟩ := encL_get hK (i := i) (c := p.1) (by rw [List.getElem?_map, hpi]; rfl)
  rw [List.getElem?_map, hp2] at h2
  cases h2; exact h3
 have hmod := modify_list (f := fun en => { en with val := a.eval z }) hents
 have hKs : (ents.toList.set i { ent with val := a.eval z }).map (·.key) = (ents.toList.map (·.key)).set i ent.key := by rw [List.map_set]
 obtain ⟨st, ii, r⟩ := stp_map (fs := es.set i (p.1, sz.ev e)) (ents := ents.modify i fun en => { en with val := a.eval z }) hr hb
  (by rw [hmod, hKs, List.map_set]; exact encL_set hK hkenc) (by rw [hmod, List.map_set, List.map_set]; exact encL_set hV hz')
  (born_set hmod hents rfl hborn)
 refine ⟨.skip, _, _, ?_, rfl, st, ii, r⟩
 have hf := find_born_at hil hborn
 simp only [execOp, ho, Instr.entryStore, hx'.2, hy', Sem.run_bind, hget, Result.andThen_ok, asInt, asIntOf, Sem.run_pure, hf, hset, List.length_set]
theorem Enc.nf1 {c : V} {x : Value} (h : Enc M w c x) : Enc M w c.nf1 x := by
 cases c <;> first | exact h | skip
 simp only [V.nf1, Enc] at h ⊢
 obtain ⟨p, a, cap, hv, hc, hs, _⟩ := h
 exact ⟨p, a, cap, hv, hc, hs, trivial⟩
theorem EncL.map_of {g : V → V} (hg : ∀ {c : V} {x : Value}, Enc M w c x → Enc M w (g c) x) : ∀ {cs : List V} {xs : List Value}, EncL M w cs xs → EncL M w (cs.map g) xs
 | [], _, h => by simpa only [EncL, List.map_nil] using h
 | c :: cs, _, h => by
  simp only [EncL, List.map_cons] at h ⊢
  obtain ⟨x, xs', rfl, h1, h2⟩ := h
  exact ⟨x, xs', rfl, hg h1, EncL.map_of hg h2⟩
theorem V.nf1_scal (c : V) : c.nf1.scal = c.scal := by cases c <;> rfl
theorem Enc.nf2 {c : V} {x : Value} (h : Enc M w c x) : Enc M w c.nf2 x := by
 cases c <;> first | exact h | exact Enc.nf1 h | skip
 simp only [V.nf2, Enc] at h ⊢
 obtain ⟨p, xs, hv, he⟩ := h
 refine ⟨?_, xs, hv, EncL.map_of Enc.nf1 he⟩
 intro c hc
 obtain ⟨d, hd, rfl⟩ := List.mem_map.1 hc
 rw [V.nf1_scal]; exact p d hd
theorem loadN_ok {t : TypeId} {x : Operand} {sx : X} {base sz : Nat} (ho : o.op = .load t x) (hx : chkX M.fm x sx = true) (hty : tyOk P t sz true = true) (ht : RelT M w e a n) (hr : HRel M w H)
  (hv : ev1 base e H (.loadN sz sx) = some (v, H1)) : OpOk P o a M H w v H1 := by
 have hx' := chkX_enc hx ht
 simp only [ev1] at hv
 split at hv
 ·rename_i id off hp
  split at hv
  ·rename_i cs hb
   split at hv
   ·rename_i hle
    cases hv
    rw [hp] at hx'
    simp only [Enc] at hx'
    have hb' := hr.rel id _ hb
    simp only [BRel] at hb'
    obtain ⟨hs, _, xs, te, hh, he⟩ := hb'
    have hlen := encL_length he
    refine .plain (rv := mkR true (((xs.toList.take cs.length).drop off).take sz)) hr ?_ (Enc.nf2 (mk_enc rfl (encL_take (encL_drop he off) sz) (fun c hc => hs c (List.mem_of_mem_drop (List.mem_of_mem_take hc)))))
    have := run_load_mk (P := P) (w := w) (b := M.j id) (off := off) (xs := ((xs.toList.take cs.length).drop off).take sz) hty (by rw [List.length_take, List.length_drop, hlen]; omega) (fun j u hu => by
     rw [List.getElem?_take] at hu
     split at hu
     ·rw [List.getElem?_drop, List.getElem?_take] at hu
      split at hu
      ·rw [cell_of_row w (M.j id) (off + j) xs te (0, 0) hh]
       simpa using hu
      ·cases hu
     ·cases hu)
    simp [execOp, ho, hx'.2, this]
   ·cases hv
  ·cases hv
 ·cases hv
end Go.Ev
/- One operation, as checked; calls by contracts. -/
namespace Go.Ev
open Go Go.RowKit
variable {P : Program} {M M' : Mm} {H H1 : Heap} {w w' : World}
def chkZero (P : Program) (t : TypeId) (z : List V) : Bool :=
 match P.info? t with
 | some i => match i.zero with
  | some zv => encSs zv.cells.toList z
  | none => false
 | none => false
theorem chkZero_spec {t : TypeId} {z : List V} (h : chkZero P t z = true) : ∃ i zv, P.info? t = some i ∧ i.zero = some zv ∧ encSs zv.cells.toList z = true := by
 unfold chkZero at h
 split at h
 ·rename_i i hi
  split at h
  ·rename_i zv hz; exact ⟨i, zv, hi, hz, h⟩
  ·cases h
 ·cases h
def sizeIs (P : Program) (t : TypeId) (sz : Nat) : Bool := match P.info? t with | some i => i.size == sz | none => false
theorem sizeIs_spec {t : TypeId} {sz : Nat} (h : sizeIs P t sz = true) : ∃ i, P.info? t = some i ∧ i.size = sz := by
 unfold sizeIs at h
 split at h
 ·rename_i i hi; exact ⟨i, hi, by simpa using h⟩
 ·cases h
def chk1 (P : Program) (fm : Fm) (o : Op) (s : SOp) : Bool :=
 match s with
 | .mv sx => match o with
  | .move x => chkX fm x sx
  | .assign x => chkX fm x sx
  | _ => false
 | .pick sc sa sb => match o with
  | .pick c a b => chkX fm c sc && chkX fm a sa && chkX fm b sb
  | _ => false
 | .box _ sx => match o with
  | .box _ x => chkX fm x sx
  | _ => false
 | .alloc _ z => match o with
  | .alloc t => chkZero P t z
  | _ => false
 | .build z qs => match o with
  | .build t ps => chkZero P t z && typed P t && chkParts fm (placesOf P t) ps.toList qs
  | _ => false
 | .bslice k z qs => match o with
  | .buildSlice t k' ps => match elemOf? P t with
   | some el => k == k' && chkZero P el z && sizeIs P el z.length && decide (0 < z.length) && decide (k * z.length ≤ 16777216) &&
     chkParts fm (fun j => some (j * z.length, z.length)) ps.toList (qs.map fun q => (q.1 * z.length, z.length, q.2))
   | none => false
  | _ => false
 | .bsliceG _ k z qs => match o with
  | .buildSlice t k' ps => match elemOf? P t with
   | some el => k == k' && chkZero P el z && sizeIs P el z.length && decide (0 < z.length) && decide (k * z.length ≤ 16777216) &&
     chkParts fm (fun j => some (j * z.length, z.length)) ps.toList (qs.map fun q => (q.1 * z.length, z.length, q.2))
   | none => false
  | _ => false
 | .mark sx => match o with
  | .convert st dt x => st == dt && (match P.underlying st with | some (.slice el) => isInt P el .u8 | _ => false) && chkX fm x sx
  | _ => false
 | .load sz ag _ sx => match o with
  | .load t x => chkX fm x sx && tyOk P t sz ag
  | _ => false
 | .store sz sx sy => match o with
  | .store t x y => chkX fm x sx && chkX fm y sy && sizeIs P t sz
  | _ => false
 | .faddr off sx => match o with
  | .fieldAddr t x f => match chkField P t f off with
   | some ft => chkX fm x sx && (match P.info? ft with | some i => i.size != 0 | none => false)
   | none => false
  | _ => false
 | .fld off sz ag sx => match o with
  | .field t x f => match chkField P t f off with
   | some ft => chkX fm x sx && tyOk P ft sz ag
   | none => false
  | _ => false
 | .iaddr sz sx sy => match o with
  | .indexAddr t x y => match elemOf? P t with
   | some el => chkX fm x sx && chkX fm y sy && sizeIs P el sz
   | none => false
  | _ => false
 | .iaddrA len sz sx sy => match o with
  | .indexAddr t x y => match arrOf? P t with
   | some (k, el) => k == len && chkX fm x sx && chkX fm y sy && sizeIs P el sz
   | none => false
  | _ => false
 | .idx len sz ag sx sy => match o with
  | .index t x y => match arrOf? P t with
   | some (k, el) => k == len && chkX fm x sx && chkX fm y sy && tyOk P el sz ag
   | none => false
  | _ => false
 | .bin op sx sy => match o with
  | .binOp op' _ x y _ => op == op' && chkX fm x sx && chkX fm y sy
  | _ => false
 | .beq neg sx sy => match o with
  | .binOp op' xt x y _ => op' == (if neg then .neq else .eql) && isBool P xt && chkX fm x sx && chkX fm y sy
  | _ => false
 | .un op sx => match o with
  | .unOp op' _ x => op == op' && chkX fm x sx
  | _ => false
 | .conv k sx => match o with
  | .convert st dt x => (P.underlying st).isSome && isInt P dt k && chkX fm x sx
  | _ => false
 | .mkfn f cap => match o with
  | .makeFunc (.func f') first cap' => f' == fm f && first.isEmpty && chkXs fm cap'.toList cap
  | _ => false
 | .ext i sx => match o with
  | .extract x i' => i == i' && chkX fm x sx
  | _ => false
 | .len st sx => match o with
  | .call { callee := .builtin .len, args, argTypes } => match args.toList, argTypes.toList with
   | [x], [t] => chkX fm x sx && (if st then isStr P t else (elemOf? P t).isSome)
   | _, _ => false
  | _ => false
 | .app _ sz bytes sx sy => match o with
  | .call { callee := .builtin .append, args, argTypes } => match args.toList, argTypes.toList with
   | [x, y], [t, t'] => chkX fm x sx && chkX fm y sy && appOk P t t' sz bytes
   | _, _ => false
  | _ => false
 | .appG _ _ sz bytes sx sy => match o with
  | .call { callee := .builtin .append, args, argTypes } => match args.toList, argTypes.toList with
   | [x, y], [t, t'] => chkX fm x sx && chkX fm y sy && appOk P t t' sz bytes
   | _, _ => false
  | _ => false
 | .slc sz sx slo shi smx => match o with
  | .slice t x lo hi mx => match elemOf? P t with
   | some el => chkX fm x sx && sizeIs P el sz && chkXo fm lo slo && chkXo fm hi shi && chkXo fm mx smx
   | none => false
  | _ => false
 | .nilck sx => match o with
  | .nilCheck x => chkX fm x sx
  | _ => false
 | .mksl _ bytes z sx => match o with
  | .makeSlice t l c => match elemOf? P t with
   | some el => chkX fm l sx && chkX fm c sx && chkZero P el z && sizeIs P el z.length && decide (0 < z.length) && (match P.info? el with | some i => i.bytes == bytes && decide (0 < bytes) | none => false)
   | none => false
  | _ => false
 | .aeq ks neg sx sy => match o with
  | .binOp op' xt x y _ => op' == (if neg then .neq else .eql) && kdsOf P 20 xt == some ks && !P.eqGuardType P.depth xt && tyAg P xt && chkX fm x sx && chkX fm y sy
  | _ => false
 | .nileq k neg sx => match o with
  | .binOp op' xt x y _ => op' == (if neg then .neq else .eql) && nilTy P k xt y && chkX fm x sx
  | _ => false
 | .mm mx xs => match o with
  | .call { callee := .builtin b, args, argTypes := _ } => (match b, mx with | .max, true => true | .min, false => true | _, _ => false) && chkXs fm args.toList xs
  | _ => false
 | .sidx sx sy => match o with
  | .index t x y => isStr P t && chkX fm x sx && chkX fm y sy
  | _ => false
 | .sslc sx slo shi => match o with
  | .slice t x lo hi none => isStr P t && chkX fm x sx && chkXo fm lo slo && chkXo fm hi shi
  | _ => false
 | .mkmap _ => match o with
  | .makeMap _ none => true
  | _ => false
 | .mget ky ok z sx sy => match o with
  | .lookup t x y ok' => match mapOf? P t with
   | some (kt, el) => ok == ok' && kyOk P kt ky && zeroS P el z && chkX fm x sx && chkX fm y sy
   | none => false
  | _ => false
 | .ment ky z sx sy => match o with
  | .mapEntry t x y => match mapOf? P t with
   | some (kt, el) => kyOk P kt ky && zeroS P el z && chkX fm x sx && chkX fm y sy
   | none => false
  | _ => false
 | .mst sx sy sz => match o with
  | .entryStore _ x y z => chkX fm x sx && chkX fm y sy && chkX fm z sz
  | _ => false
 | .mput ky sx sy sz => match o with
  | .insert t x y z => match mapOf? P t with
   | some (kt, _) => kyOk P kt ky && chkX fm x sx && chkX fm y sy && chkX fm z sz
   | none => false
  | .mapUpdate t x y z => match mapOf? P t with
   | some (kt, _) => kyOk P kt ky && chkX fm x sx && chkX fm y sy && chkX fm z sz
   | none => false
  | _ => false
 | .rng _ sx => match o with
  | .range t x => isStr P t && chkX fm x sx
  | _ => false
 | .nxt sx => match o with
  | .next x true => chkX fm x sx
  | _ => false
 | .loadR sz ag _ sx => match o with
  | .load t x => chkX fm x sx && tyOk P t sz ag
  | _ => false
 | .storeA sz _ sx sy => match o with
  | .store t x y => chkX fm x sx && chkX fm y sy && sizeIs P t sz
  | _ => false
 | .loadN sz sx => match o with
  | .load t x => chkX fm x sx && tyOk P t sz true
  | _ => false
 | .loadA sz ag _ sx => match o with
  | .load t x => chkX fm x sx && tyOk P t sz ag
  | _ => false
 | .storeT sz _ sx sy => match o with
  | .store t x y => chkX fm x sx && chkX fm y sy && sizeIs P t sz
  | _ => false
 | .loadC sz ag sx => match o with
  | .load t x => chkX fm x sx && tyOk P t sz ag
  | _ => false
 | .storeN _ sz sx sy => match o with
  | .store t x y => chkX fm x sx && chkX fm y sy && sizeIs P t sz
  | _ => false
 | .bsliceR _ k z qs => match o with
  | .buildSlice t k' ps => match elemOf? P t with
   | some el => k == k' && chkZero P el z && sizeIs P el z.length && decide (0 < z.length) && decide (k * z.length ≤ 16777216) &&
     chkParts fm (fun j => some (j * z.length, z.length)) ps.toList (qs.map fun q => (q.1 * z.length, z.length, q.2))
   | none => false
  | _ => false
 | .slcA len sz sx slo shi => match o with
  | .slice t x lo hi none => match arrOf? P t with
   | some (k, el) => k == len && chkX fm x sx && sizeIs P el sz && chkXo fm lo slo && chkXo fm hi shi
   | none => false
  | _ => false
 | .cpy sz sx sy => match o with
  | .call { callee := .builtin .copy, args, argTypes } => match args.toList, argTypes.toList with
   | [x, y], [t, _] => match elemOf? P t with
    | some el => chkX fm x sx && chkX fm y sy && sizeIs P el sz
    | none => false
   | _, _ => false
  | _ => false
 | .b2s sx => match o with
  | .convert st dt x => (match P.underlying st with | some (.slice el) => isInt P el .u8 | _ => false) && isStr P dt && chkX fm x sx
  | _ => false
 | .i2s sx => match o with
  | .convert st dt x => (match P.underlying st with | some (.int _) => true | _ => false) && isStr P dt && chkX fm x sx
  | _ => false
 | .s2b _ _ => false
 | .pcall _ _ | .scall _ _ | .kcall _ _ _ | .vcall _ _ _ | .scallA _ _ _ | .scallE _ _ => false
section
variable {a : Act} {n : Nat} {e : Env} {H1 : Heap} {o : Oper} {v : V}
theorem bytesOf_some : ∀ {es : List (List V)} {s : List UInt8}, bytesOf es = some s → ∃ ns : List Int, es = ns.map (fun n => [V.int .u8 n]) ∧ s = ns.map fun n => UInt8.ofNat n.toNat
 | [], s, h => by simp only [bytesOf, Option.some.injEq] at h; exact ⟨[], rfl, by rw [← h]; rfl⟩
 | e :: es, s, h => by
  unfold bytesOf at h
  split at h
  ·rename_i h0; cases h0
  ·rename_i m es' he
   cases he
   split at h
   case h_2 => cases h
   rename_i bs hb
   cases h
   obtain ⟨ns, h1, h2⟩ := bytesOf_some hb
   exact ⟨m :: ns, by rw [h1]; rfl, by rw [h2]; rfl⟩
  ·cases h
theorem push_bytes : ∀ (ns : List Int) (r : ByteArray), ns.foldl (fun r n => r.push (UInt8.ofNat n.toNat)) r = ⟨(r.data.toList ++ ns.map fun n => UInt8.ofNat n.toNat).toArray⟩
 | [], r => by simp
 | n :: ns, r => by
  rw [List.foldl_cons, push_bytes ns]
  simp [ByteArray.push]
theorem encL_ints : ∀ {ns : List Int} {xs : List Value}, EncL M w (ns.map fun n => V.int .u8 n) xs → xs = ns.map (Value.int .u8)
 | [], xs, h => by simpa [EncL] using h
 | n :: ns, xs, h => by
  simp only [List.map_cons, EncL, Enc] at h
  obtain ⟨x, xs', rfl, rfl, h⟩ := h
  rw [encL_ints h]; rfl
theorem i2s_ok {st dt : TypeId} {k : IntKind} {x : Operand} {sx : X} {base : Nat} (ho : o.op = .convert st dt x) (hx : chkX M.fm x sx = true) (hs : P.underlying st = some (.int k)) (hd : P.underlying dt = some .string)
  (ht : RelT M w e a n) (hr : HRel M w H) (hv : ev1 base e H (.i2s sx) = some (v, H1)) : OpOk P o a M H w v H1 := by
 have hx' := chkX_enc hx ht
 simp only [ev1] at hv
 split at hv
 case h_2 => cases hv
 rename_i k' n' hp
 cases hv
 rw [hp] at hx'
 simp only [Enc] at hx'
 refine .plain (rv := .string (Utf8.encode n')) hr ?_ (by simp only [Enc])
 have hcv := run_convert_int_string (P := P) w st dt k' n' (by rw [hs]; rfl) hd
 simp [execOp, ho, hx', hcv]
theorem b2s_ok {st dt el : TypeId} {x : Operand} {sx : X} {base : Nat} (ho : o.op = .convert st dt x) (hx : chkX M.fm x sx = true) (hs : P.underlying st = some (.slice el)) (hel : P.underlying el = some (.int .u8)) (hd : P.underlying dt = some .string)
  (ht : RelT M w e a n) (hr : HRel M w H) (hv : ev1 base e H (.b2s sx) = some (v, H1)) : OpOk P o a M H w v H1 := by
 have hx' := chkX_enc hx ht
 simp only [ev1] at hv
 split at hv
 case h_2 => cases hv
 rename_i es tk hp
 split at hv
 case h_2 => cases hv
 rename_i s hb
 cases hv
 rw [hp] at hx'
 obtain ⟨ns, he, hsn⟩ := bytesOf_some hb
 simp only [Enc] at hx'
 obtain ⟨_, ad, cap, hxe, hcap, hrows, _⟩ := hx'
 refine .plain (rv := .string ⟨s.toArray⟩) hr ?_ (by simp only [Enc])
 have hcv := run_convert_bytes_string (P := P) w st dt el ad es.length cap hs hel hd
 have hrun : (Conv.bytesToString (.slice ad es.length cap)).run P w = .ok (.string ⟨s.toArray⟩) w := by
  cases ad with
  | none =>
   obtain ⟨rfl, rfl⟩ := hrows
   have : ns = [] := by simpa using he.symm
   subst this
   rw [hsn]
   simp [Conv.bytesToString]
   rfl
  | some ad =>
   obtain ⟨b, off, sp⟩ := ad
   obtain ⟨hsp, _, hrows⟩ := hrows
   have hl : es.length = ns.length := by rw [he]; simp
   rw [run_bytesToString w ⟨b, off, sp⟩ es.length cap ns ?_, push_bytes, hsn]
   ·rfl
   ·rw [hl, ← List.length_map (f := Value.int .u8) (as := ns)]
    by_cases hn : es = []
    ·have : ns = [] := by rw [hn] at he; simpa using he.symm
     subst this
     exact run_loadCells_list w _ _ (fun j v h => by simp at h)
    have hsp := hsp.resolve_left hn
    simp only at hsp hrows
    subst hsp
    obtain ⟨xs, h1, h2⟩ := encRows_vals hrows
    have hf : es.flatten = ns.map fun n => V.int .u8 n := by rw [he]; clear h1 hl hn he hp hsn hb hrows hcap hxe; induction ns with
     | nil => rfl
     | cons n ns ih => simp only [List.map_cons, List.flatten_cons, ih]; rfl
    rw [hf] at h1
    rw [← encL_ints h1]
    refine run_loadCells_list w _ _ fun j u hu => ?_
    rw [Addr.add_mid]
    exact h2 j u hu
 simp [execOp, ho, hxe, hcv, hrun]
end
theorem arr1 {α : Type} {xs : Array α} {x : α} (h : xs.toList = [x]) : xs = #[x] := by apply Array.ext'; simpa using h
theorem arr2 {α : Type} {xs : Array α} {x y : α} (h : xs.toList = [x, y]) : xs = #[x, y] := by apply Array.ext'; simpa using h
theorem ev1_sound {e : Env} {a : Act} {n base : Nat} {o : Oper} {v : V} {s : SOp} (hc : chk1 P M.fm o.op s = true) (ht : RelT M w e a n) (hr : HRel M w H) (hv : ev1 base e H s = some (v, H1)) :
  OpOk P o a M H w v H1 := by
 cases s with
 | mv sx =>
  simp only [chk1] at hc
  simp only [ev1, Option.some.injEq, Prod.mk.injEq] at hv
  obtain ⟨rfl, rfl⟩ := hv
  split at hc
  ·rename_i x ho; exact mv_ok (.inl ho) hc ht hr
  ·rename_i x ho; exact mv_ok (.inr ho) hc ht hr
  ·cases hc
 | pick sc sa sb =>
  simp only [chk1] at hc
  simp only [ev1] at hv
  split at hc
  case h_2 => cases hc
  rename_i c x y ho
  simp only [Bool.and_eq_true] at hc
  split at hv
  case h_2 => cases hv
  rename_i b hb
  cases hv
  exact pick_ok ho hc.1.1 hc.1.2 hc.2 ht hr hb
 | box sl sx =>
  simp only [chk1] at hc
  simp only [ev1] at hv
  split at hc
  case h_2 => cases hc
  rename_i t x ho
  split at hv
  case h_2 => cases hv
  rename_i cs hcs
  split at hv
  case isFalse => cases hv
  rename_i hf
  cases hv
  exact box_ok ho hc ht hr hcs hf
 | alloc sl z =>
  simp only [chk1] at hc
  simp only [ev1] at hv
  split at hc
  case h_2 => cases hc
  rename_i t ho
  split at hv
  case isFalse => cases hv
  rename_i hf
  cases hv
  obtain ⟨i, zv, h1, h2, h3⟩ := chkZero_spec hc
  exact alloc_ok ho h1 h2 h3 hr hf
 | build z qs =>
  simp only [chk1] at hc
  split at hc
  case h_2 => cases hc
  rename_i t ps ho
  simp only [Bool.and_eq_true] at hc
  obtain ⟨i, zv, h1, h2, h3⟩ := chkZero_spec hc.1.1
  exact build_ok ho h1 h2 h3 hc.1.2 hc.2 ht hr hv
 | bslice k z qs =>
  simp only [chk1] at hc
  split at hc
  case h_2 => cases hc
  rename_i t k' ps ho
  split at hc
  case h_2 => cases hc
  rename_i el hel
  simp only [Bool.and_eq_true, beq_iff_eq, decide_eq_true_eq] at hc
  obtain ⟨⟨⟨⟨⟨rfl, hz⟩, hsz⟩, h0⟩, hk⟩, hp⟩ := hc
  obtain ⟨i, zv, h1, h2, h3⟩ := chkZero_spec hz
  obtain ⟨i', h1', h2'⟩ := sizeIs_spec hsz
  rw [h1] at h1'; cases h1'
  exact bslice_ok ho hel h1 h2' h0 hk h2 h3 hp ht hr hv
 | bsliceG sl k z qs =>
  simp only [chk1] at hc
  split at hc
  case h_2 => cases hc
  rename_i t k' ps ho
  split at hc
  case h_2 => cases hc
  rename_i el hel
  simp only [Bool.and_eq_true, beq_iff_eq, decide_eq_true_eq] at hc
  obtain ⟨⟨⟨⟨⟨rfl, hz⟩, hsz⟩, h0⟩, hk⟩, hp⟩ := hc
  obtain ⟨i, zv, h1, h2, h3⟩ := chkZero_spec hz
  obtain ⟨i', h1', h2'⟩ := sizeIs_spec hsz
  rw [h1] at h1'; cases h1'
  exact bsliceG_ok ho hel h1 h2' h0 hk h2 h3 hp ht hr hv
 | mark sx =>
  simp only [chk1] at hc
  split at hc
  case h_2 => cases hc
  rename_i st dt x ho
  simp only [Bool.and_eq_true, beq_iff_eq] at hc
  obtain ⟨⟨rfl, h2⟩, h3⟩ := hc
  split at h2
  case h_2 => cases h2
  rename_i el hel
  exact mark_ok ho h3 hel (isInt_spec h2) ht hr hv
 | load sz ag old sx =>
  simp only [chk1] at hc
  split at hc
  case h_2 => cases hc
  rename_i t x ho
  simp only [Bool.and_eq_true] at hc
  exact load_ok ho hc.1 hc.2 ht hr hv
 | store sz sx sy =>
  simp only [chk1] at hc
  split at hc
  case h_2 => cases hc
  rename_i t x y ho
  simp only [Bool.and_eq_true] at hc
  obtain ⟨i, h1, h2⟩ := sizeIs_spec hc.2
  exact store_ok ho hc.1.1 hc.1.2 (by rw [h1]; simp [h2]) ht hr hv
 | faddr off sx =>
  simp only [chk1] at hc
  split at hc
  case h_2 => cases hc
  rename_i t x f ho
  split at hc
  case h_2 => cases hc
  rename_i ft hft
  simp only [Bool.and_eq_true] at hc
  obtain ⟨h1, h2⟩ := hc
  split at h2
  ·rename_i i hi
   exact faddr_ok ho h1 hft hi (by simpa using h2) ht hr hv
  ·cases h2
 | fld off sz ag sx =>
  simp only [chk1] at hc
  split at hc
  case h_2 => cases hc
  rename_i t x f ho
  split at hc
  case h_2 => cases hc
  rename_i ft hft
  simp only [Bool.and_eq_true] at hc
  exact fld_ok ho hc.1 hft hc.2 ht hr hv
 | iaddr sz sx sy =>
  simp only [chk1] at hc
  split at hc
  case h_2 => cases hc
  rename_i t x y ho
  split at hc
  case h_2 => cases hc
  rename_i el hel
  simp only [Bool.and_eq_true] at hc
  obtain ⟨i, h1, h2⟩ := sizeIs_spec hc.2
  exact iaddr_ok ho hc.1.1 hc.1.2 hel h1 h2 ht hr hv
 | iaddrA len sz sx sy =>
  simp only [chk1] at hc
  split at hc
  case h_2 => cases hc
  rename_i t x y ho
  split at hc
  case h_2 => cases hc
  rename_i k el hel
  simp only [Bool.and_eq_true, beq_iff_eq] at hc
  obtain ⟨⟨⟨rfl, h3⟩, h4⟩, h5⟩ := hc
  obtain ⟨i, h1, h2⟩ := sizeIs_spec h5
  exact iaddrA_ok ho h3 h4 hel h1 h2 ht hr hv
 | idx len sz ag sx sy =>
  simp only [chk1] at hc
  split at hc
  case h_2 => cases hc
  rename_i t x y ho
  split at hc
  case h_2 => cases hc
  rename_i k el hel
  simp only [Bool.and_eq_true, beq_iff_eq] at hc
  obtain ⟨⟨⟨rfl, h3⟩, h4⟩, h5⟩ := hc
  exact idx_ok ho h3 h4 hel h5 ht hr hv
 | bin op sx sy =>
  simp only [chk1] at hc
  split at hc
  case h_2 => cases hc
  rename_i op' xt x y yt ho
  simp only [Bool.and_eq_true, beq_iff_eq] at hc
  obtain ⟨⟨rfl, h3⟩, h4⟩ := hc
  exact bin_ok ho h3 h4 ht hr hv
 | beq neg sx sy =>
  simp only [chk1] at hc
  split at hc
  case h_2 => cases hc
  rename_i op' xt x y yt ho
  simp only [Bool.and_eq_true, beq_iff_eq] at hc
  obtain ⟨⟨⟨rfl, h2⟩, h3⟩, h4⟩ := hc
  exact beq_ok ho h3 h4 (isBool_spec h2) ht hr hv
 | un op sx =>
  simp only [chk1] at hc
  split at hc
  case h_2 => cases hc
  rename_i op' xt x ho
  simp only [Bool.and_eq_true, beq_iff_eq] at hc
  obtain ⟨rfl, h3⟩ := hc
  exact un_ok ho h3 ht hr hv
 | conv k sx =>
  simp only [chk1] at hc
  split at hc
  case h_2 => cases hc
  rename_i st dt x ho
  simp only [Bool.and_eq_true] at hc
  obtain ⟨sd, hsd⟩ := Option.isSome_iff_exists.1 hc.1.1
  exact conv_ok ho hc.2 hsd (isInt_spec hc.1.2) ht hr hv
 | mkfn f cap =>
  simp only [chk1] at hc
  simp only [ev1, Option.some.injEq, Prod.mk.injEq] at hv
  obtain ⟨rfl, rfl⟩ := hv
  split at hc
  case h_2 => cases hc
  rename_i f' first cap' ho
  simp only [Bool.and_eq_true, beq_iff_eq, Array.isEmpty_iff] at hc
  obtain ⟨⟨h1, rfl⟩, h3⟩ := hc
  exact mkfn_ok ho h1 h3 ht hr
 | ext i sx =>
  simp only [chk1] at hc
  split at hc
  case h_2 => cases hc
  rename_i x i' ho
  simp only [Bool.and_eq_true, beq_iff_eq] at hc
  obtain ⟨rfl, h3⟩ := hc
  exact ext_ok ho h3 ht hr hv
 | len st sx =>
  simp only [chk1] at hc
  split at hc
  case h_2 => cases hc
  rename_i args argTypes ho
  split at hc
  case h_2 => cases hc
  rename_i x t h1 h2
  rw [arr1 h1, arr1 h2] at ho
  simp only [Bool.and_eq_true] at hc
  refine len_ok ho hc.1 ?_ ht hr hv
  cases st with
  | true => simpa using isStr_spec (by simpa using hc.2)
  | false => simp only [Bool.false_eq_true, if_false] at hc ⊢; exact Option.isSome_iff_exists.1 hc.2
 | app sl sz bytes sx sy =>
  simp only [chk1] at hc
  split at hc
  case h_2 => cases hc
  rename_i args argTypes ho
  split at hc
  case h_2 => cases hc
  rename_i x y t t' h1 h2
  rw [arr2 h1, arr2 h2] at ho
  simp only [Bool.and_eq_true] at hc
  exact app_ok ho hc.1.1 hc.1.2 hc.2 ht hr hv
 | appG last sl sz bytes sx sy =>
  simp only [chk1] at hc
  split at hc
  case h_2 => cases hc
  rename_i args argTypes ho
  split at hc
  case h_2 => cases hc
  rename_i x y t t' h1 h2
  rw [arr2 h1, arr2 h2] at ho
  simp only [Bool.and_eq_true] at hc
  exact appG_ok ho hc.1.1 hc.1.2 hc.2 ht hr hv
 | slc sz sx slo shi smx =>
  simp only [chk1] at hc
  split at hc
  case h_2 => cases hc
  rename_i t x lo hi mx ho
  split at hc
  case h_2 => cases hc
  rename_i el hel
  simp only [Bool.and_eq_true] at hc
  obtain ⟨⟨⟨⟨h1, h2⟩, h3⟩, h4⟩, h5⟩ := hc
  obtain ⟨i, h6, h7⟩ := sizeIs_spec h2
  exact slc_ok ho h1 hel h6 h7 h3 h4 h5 ht hr hv
 | nilck sx =>
  simp only [chk1] at hc
  split at hc
  case h_2 => cases hc
  rename_i x ho
  exact nilck_ok ho hc ht hr hv
 | mksl s bytes z sx =>
  simp only [chk1] at hc
  split at hc
  case h_2 => cases hc
  rename_i t l c ho
  split at hc
  case h_2 => cases hc
  rename_i el hel
  simp only [Bool.and_eq_true, decide_eq_true_eq] at hc
  obtain ⟨⟨⟨⟨⟨h1, h2⟩, h3⟩, h4⟩, h5⟩, h6⟩ := hc
  obtain ⟨i, zv, h7, h8, h9⟩ := chkZero_spec h3
  obtain ⟨i', h1', h2'⟩ := sizeIs_spec h4
  rw [h7] at h1'; cases h1'
  rw [h7] at h6
  simp only [Bool.and_eq_true, beq_iff_eq, decide_eq_true_eq] at h6
  exact mksl_ok ho h1 h2 hel h7 h2' h6.1 h6.2 h5 h8 h9 ht hr hv
 | aeq ks neg sx sy =>
  simp only [chk1] at hc
  split at hc
  case h_2 => cases hc
  rename_i op' xt x y yt ho
  simp only [Bool.and_eq_true, beq_iff_eq, Bool.not_eq_true'] at hc
  obtain ⟨⟨⟨⟨⟨rfl, h1⟩, h2⟩, h3⟩, h4⟩, h5⟩ := hc
  exact aeq_ok ho h4 h5 h1 h2 h3 ht hr hv
 | nileq k neg sx =>
  simp only [chk1] at hc
  split at hc
  case h_2 => cases hc
  rename_i op' xt x y yt ho
  simp only [Bool.and_eq_true, beq_iff_eq] at hc
  obtain ⟨⟨rfl, h1⟩, h2⟩ := hc
  exact nileq_ok ho h2 h1 ht hr hv
 | mm mx xs =>
  simp only [chk1] at hc
  split at hc
  case h_2 => cases hc
  rename_i b args ts ho
  simp only [Bool.and_eq_true] at hc
  have hb : b = (if mx then .max else .min) := by
   have := hc.1
   split at this <;> first | rfl | cases this
  subst hb
  exact mm_ok ho hc.2 ht hr hv
 | sidx sx sy =>
  simp only [chk1] at hc
  split at hc
  case h_2 => cases hc
  rename_i t x y ho
  simp only [Bool.and_eq_true] at hc
  exact sidx_ok ho hc.1.2 hc.2 (isStr_spec hc.1.1) ht hr hv
 | sslc sx slo shi =>
  simp only [chk1] at hc
  split at hc
  case h_2 => cases hc
  rename_i t x lo hi ho
  simp only [Bool.and_eq_true] at hc
  exact sslc_ok ho hc.1.1.2 (isStr_spec hc.1.1.1) hc.1.2 hc.2 ht hr hv
 | mkmap s =>
  simp only [chk1] at hc
  split at hc
  case h_2 => cases hc
  rename_i t ho
  exact mkmap_ok ho hr hv
 | mget ky ok z sx sy =>
  simp only [chk1] at hc
  split at hc
  case h_2 => cases hc
  rename_i t x y ok' ho
  split at hc
  case h_2 => cases hc
  rename_i kt el hm
  simp only [Bool.and_eq_true, beq_iff_eq] at hc
  obtain ⟨⟨⟨⟨rfl, h1⟩, h2⟩, h3⟩, h4⟩ := hc
  exact mget_ok ho h3 h4 hm h1 h2 ht hr hv
 | mput ky sx sy sz =>
  simp only [chk1] at hc
  split at hc
  ·rename_i t x y z ho
   split at hc
   case h_2 => cases hc
   rename_i kt el hm
   simp only [Bool.and_eq_true] at hc
   exact mput_ok (.inl ho) hc.1.1.2 hc.1.2 hc.2 hm hc.1.1.1 ht hr hv
  ·rename_i t x y z ho
   split at hc
   case h_2 => cases hc
   rename_i kt el hm
   simp only [Bool.and_eq_true] at hc
   exact mput_ok (.inr ho) hc.1.1.2 hc.1.2 hc.2 hm hc.1.1.1 ht hr hv
  ·cases hc
 | rng s sx =>
  simp only [chk1] at hc
  split at hc
  case h_2 => cases hc
  rename_i t x ho
  simp only [Bool.and_eq_true] at hc
  exact rng_ok ho hc.2 (isStr_spec hc.1) ht hr hv
 | nxt sx =>
  simp only [chk1] at hc
  split at hc
  case h_2 => cases hc
  rename_i x ho
  exact nxt_ok ho hc ht hr hv
 | loadR sz ag r sx =>
  simp only [chk1] at hc
  split at hc
  case h_2 => cases hc
  rename_i t x ho
  simp only [Bool.and_eq_true] at hc
  refine load_ok (base := base) (old := false) ho hc.1 hc.2 ht hr ?_
  simp only [ev1] at hv ⊢
  split at hv
  case h_2 => cases hv
  rename_i id off hp
  split at hv
  case isFalse => cases hv
  rw [hp]
  simpa [loadAt] using hv
 | storeA sz rs sx sy =>
  simp only [chk1] at hc
  split at hc
  case h_2 => cases hc
  rename_i t x y ho
  simp only [Bool.and_eq_true] at hc
  obtain ⟨i, h1, h2⟩ := sizeIs_spec hc.2
  refine store_ok (base := base) (sz := sz) ho hc.1.1 hc.1.2 (by rw [h1]; simp [h2]) ht hr ?_
  simp only [ev1] at hv ⊢
  split at hv
  case h_2 => cases hv
  rename_i id off hp
  split at hv
  case isFalse => cases hv
  rw [hp]
  unfold storeAt at hv
  split at hv
  ·rename_i ds cs hds hcs
   rw [hds]
   simp only [hcs]
   exact hv
  ·cases hv
 | loadA sz ag rs sx =>
  simp only [chk1] at hc
  split at hc
  case h_2 => cases hc
  rename_i t x ho
  simp only [Bool.and_eq_true] at hc
  refine load_ok (base := base) (old := false) ho hc.1 hc.2 ht hr ?_
  simp only [ev1] at hv ⊢
  split at hv
  case h_2 => cases hv
  rename_i id off hp
  split at hv
  case isFalse => cases hv
  rw [hp]
  simpa [loadAt] using hv
 | storeT sz r sx sy =>
  simp only [chk1] at hc
  split at hc
  case h_2 => cases hc
  rename_i t x y ho
  simp only [Bool.and_eq_true] at hc
  obtain ⟨i, h1, h2⟩ := sizeIs_spec hc.2
  refine store_ok (base := base) (sz := sz) ho hc.1.1 hc.1.2 (by rw [h1]; simp [h2]) ht hr ?_
  simp only [ev1] at hv ⊢
  split at hv
  case h_2 => cases hv
  rename_i id off hp
  split at hv
  case isFalse => cases hv
  rw [hp]
  unfold storeAt at hv
  split at hv
  ·rename_i ds cs hds hcs
   rw [hds]
   simp only [hcs]
   exact hv
  ·cases hv
 | loadN sz sx =>
  simp only [chk1] at hc
  split at hc
  case h_2 => cases hc
  rename_i t x' ho
  simp only [Bool.and_eq_true] at hc
  exact loadN_ok ho hc.1 hc.2 ht hr hv
 | loadC sz ag sx =>
  simp only [chk1] at hc
  split at hc
  case h_2 => cases hc
  rename_i t x ho
  simp only [Bool.and_eq_true] at hc
  refine load_ok (base := base) (old := false) ho hc.1 hc.2 ht hr ?_
  simp only [ev1] at hv ⊢
  split at hv
  case h_2 => cases hv
  rename_i cs hp
  rw [hp]
  exact hv
 | storeN s sz sx sy =>
  simp only [chk1] at hc
  split at hc
  case h_2 => cases hc
  rename_i t x y ho
  simp only [Bool.and_eq_true] at hc
  obtain ⟨i, h1, h2⟩ := sizeIs_spec hc.2
  refine store_ok (base := base) (sz := sz) ho hc.1.1 hc.1.2 (by rw [h1]; simp [h2]) ht hr ?_
  simp only [ev1] at hv ⊢
  split at hv
  case h_2 => cases hv
  rename_i id off hp
  split at hv
  case isFalse => cases hv
  rw [hp]
  unfold storeAt at hv
  split at hv
  ·rename_i ds cs hds hcs
   rw [hds]
   simp only [hcs]
   exact hv
  ·cases hv
 | b2s sx =>
  simp only [chk1] at hc
  split at hc
  case h_2 => cases hc
  rename_i st dt x ho
  simp only [Bool.and_eq_true] at hc
  obtain ⟨⟨h1, h2⟩, h3⟩ := hc
  split at h1
  case h_2 => cases h1
  rename_i el hs
  exact b2s_ok ho h3 hs (isInt_spec h1) (isStr_spec h2) ht hr hv
 | i2s sx =>
  simp only [chk1] at hc
  split at hc
  case h_2 => cases hc
  rename_i st dt x ho
  simp only [Bool.and_eq_true] at hc
  obtain ⟨⟨h1, h2⟩, h3⟩ := hc
  split at h1
  case h_2 => cases h1
  rename_i k hs
  exact i2s_ok ho h3 hs (isStr_spec h2) ht hr hv
 | s2b s x => simp [chk1] at hc
 | ment ks z x k =>
  simp only [chk1] at hc
  split at hc
  case h_2 => cases hc
  rename_i t x' y' ho
  split at hc
  case h_2 => cases hc
  rename_i kt el hm
  simp only [Bool.and_eq_true] at hc
  exact ment_ok ho hc.1.2 hc.2 hm hc.1.1.1 hc.1.1.2 ht hr hv
 | mst x i v =>
  simp only [chk1] at hc
  split at hc
  case h_2 => cases hc
  rename_i t x' y' z' ho
  simp only [Bool.and_eq_true] at hc
  exact mst_ok ho hc.1.1 hc.1.2 hc.2 ht hr hv
 | bsliceR sp k z qs =>
  simp only [chk1] at hc
  split at hc
  case h_2 => cases hc
  rename_i t k' ps ho
  split at hc
  case h_2 => cases hc
  rename_i el hel
  simp only [Bool.and_eq_true, beq_iff_eq, decide_eq_true_eq] at hc
  obtain ⟨⟨⟨⟨⟨rfl, hz⟩, hsz⟩, h0⟩, hk⟩, hp⟩ := hc
  obtain ⟨i, zv, h1, h2, h3⟩ := chkZero_spec hz
  obtain ⟨i', h1', h2'⟩ := sizeIs_spec hsz
  rw [h1] at h1'; cases h1'
  exact bsliceR_ok ho hel h1 h2' h0 hk h2 h3 hp ht hr hv
 | slcA len sz sx slo shi =>
  simp only [chk1] at hc
  split at hc
  case h_2 => cases hc
  rename_i t x lo hi ho
  split at hc
  case h_2 => cases hc
  rename_i k el hel
  simp only [Bool.and_eq_true, beq_iff_eq] at hc
  obtain ⟨⟨⟨⟨rfl, h1⟩, h2⟩, h3⟩, h4⟩ := hc
  obtain ⟨i, h5, h6⟩ := sizeIs_spec h2
  exact slcA_ok ho h1 hel h5 h6 h3 h4 ht hr hv
 | cpy sz sx sy =>
  simp only [chk1] at hc
  split at hc
  case h_2 => cases hc
  rename_i args argTypes ho
  split at hc
  case h_2 => cases hc
  rename_i x y t t' hargs htypes
  split at hc
  case h_2 => cases hc
  rename_i el hel
  simp only [Bool.and_eq_true] at hc
  obtain ⟨i, h5, h6⟩ := sizeIs_spec hc.2
  rw [arr2 hargs, arr2 htypes] at ho
  exact cpy_ok ho hc.1.1 hc.1.2 hel h5 h6 ht hr hv
 | kcall ro f xs => simp [chk1] at hc
 | pcall f xs => simp [chk1] at hc
 | scall f xs => simp [chk1] at hc
 | scallA rs f xs => simp [chk1] at hc
 | scallE f xs => simp [chk1] at hc
 | vcall ro f xs => simp [chk1] at hc
def FOK (P : Program) (fm : Fm) (f : Nat) (args : List V) (H : Heap) (r : V) (H' : Heap) : Prop :=
 H.length ≤ H'.length ∧ ∀ (M : Mm) (w : World) (vargs : List Value), M.fm = fm → HRel M w H → EncL M w args vargs →
  ((∃ F, P.funcs[fm f]? = some F ∧ F.body.isSome = true ∧ F.name ≠ "runtime.NumGoroutine") ∧
  Calls P (fm f) vargs.toArray w fun en w' => ∃ rv M', en = .returned rv ∧ Enc M' w' r rv ∧ Stp M H w M' H' w' ∧ Ids M M' H.length ∧ HRel M' w' H')
abbrev FR (ro : Option Nat) : Fence := { Fence.wide with round := ro }
def exOf : Ex → Exit
 | .nx => .normal
 | .exit id => .exit id
 | .ret => .ret
def Mk (s : Nat) (a a' : Act) : Prop := ∀ d ∈ a'.defers, d ∈ a.defers ∨ ∃ D, d.target = .collected D ∧ s ≤ D
theorem Mk.refl (s : Nat) (a : Act) : Mk s a a := fun d h => .inl h
theorem Mk.of_eq {s : Nat} {a a' : Act} (h : a'.defers = a.defers) : Mk s a a' := fun d hd => .inl (h ▸ hd)
theorem Mk.trans {s s' : Nat} {a a' a'' : Act} (h : Mk s a a') (k : Mk s' a' a'') (hs : s ≤ s') : Mk s a a'' := fun d hd => by
 rcases k d hd with h1 | ⟨D, h1, h2⟩
 ·exact h d h1
 ·exact .inr ⟨D, h1, by omega⟩
def Post (M : Mm) (H : Heap) (w : World) (a : Act) (n : Nat) (k : Nat) (x : Ex) (e' : Env) (H' : Heap) (Q : Exit → Act → World → Prop) : Prop :=
 ∀ a' w' M', RelT M' w' e' a' n → HRel M' w' H' → Stp M H w M' H' w' → Ids M M' k → Mk w.heap.size a a' → Q (exOf x) a' w'
def COKy (P : Program) (fm : Fm) (s : SCode) (e : Env) (H : Heap) (x : Ex) (e' : Env) (H' : Heap) : Prop :=
 H.length ≤ H'.length ∧ ∀ (l n : Nat) (c : Code) (M : Mm) (w : World) (a : Act) (Q : Exit → Act → World → Prop), fm.chk n s c → RelT M w e a n → HRel M w H → M.fm = fm →
  Post M H w a n H.length x e' H' Q → c.wpIn (FR (some l)) 0 P Q a w
inductive SS (P : Program) (fm : Fm) (base : Nat) (o : SOper) : Env → Heap → Env → Heap → Prop
 | ev {e H v H1} : wanted e o = some true → ev1 base e H o.op = some (v, H1) → SS P fm base o e H (e.put o.dst v) H1
 | skip {e H} : wanted e o = some false → SS P fm base o e H (e.put o.dst .skp) H
 | pcall {e H f xs r H1} : wanted e o = some true → o.op = .pcall f xs → FOK P fm f (outL (xs.map (X.ev e))) [] r H1 → SS P fm base o e H (e.put o.dst (frz H1 r).out) H
 | scall {e H f xs r H1} : wanted e o = some true → o.op = .scall f xs → FOK P fm f (xs.map (X.ev e)) H r H1 → SS P fm base o e H (e.put o.dst (r.cl H.length)) (trunc H.length H1)
 | scallA {e H rs f xs r H1} : wanted e o = some true → o.op = .scallA rs f xs → FOK P fm f (xs.map (X.ev e)) H r H1 → Leaves e rs H (trunc H.length H1) → SS P fm base o e H (e.put o.dst (r.cl H.length)) (trunc H.length H1)
 | scallE {e H f xs r H1} : wanted e o = some true → o.op = .scallE f xs → FOK P fm f (xs.map (X.ev e)) H r H1 → Elder base (xs.map (X.ev e)) H (trunc H.length H1) → SS P fm base o e H (e.put o.dst (r.cl H.length)) (trunc H.length H1)
 | kcall {e H ro f xs r H1} : wanted e o = some true → o.op = .kcall ro f xs → FOK P fm f (xs.map (X.ev e)) H r H1 → (ro = true → base ≤ H.length ∧ H1.take H.length = H) → SS P fm base o e H (e.put o.dst r) H1
 | vcall {e H ro fx xs f cap r H1} : wanted e o = some true → o.op = .vcall ro fx xs → fx.ev e = .fn f cap → FOK P fm f (xs.map (X.ev e) ++ cap) H r H1 → (ro = true → trunc H.length H1 = H) →
   SS P fm base o e H (e.put o.dst (r.cl H.length)) (trunc H.length H1)
 | ycall {e H fx xs id e0 ps as bo e1 H1 f0 fps fas fbo x e2 H2 g0 gps gas gbo} : wanted e o = some true → o.op = .vcall false fx xs → fx.ev e = .yld id → H[id]? = some (some (.loop e0 ps as bo .ready)) → xs.length = ps.length →
   COKy P fm as (putP ps (xs.map (X.ev e)) (mkE e0)) H .nx e1 H1 → H1[id]? = some (some (.loop f0 fps fas fbo .ready)) → COKy P fm bo e1 (H1.set id (some (.loop f0 fps fas fbo .busy))) x e2 H2 →
   H2[id]? = some (some (.loop g0 gps gas gbo .busy)) →
   SS P fm base o e H (e.put o.dst (.bool (decide (x = .nx)))) (trunc H.length (H2.set id (some (.loop g0 gps gas gbo (if x = .nx then .ready else .done x)))))
def chkCall (fm : Fm) (o : Op) (s : SOp) : Bool :=
 match s with
 | .pcall f xs => match o with
  | .call { callee := .value (.func f'), args, argTypes := _ } => f' == fm f && chkXs fm args.toList xs
  | _ => false
 | .scall f xs => match o with
  | .call { callee := .value (.func f'), args, argTypes := _ } => f' == fm f && chkXs fm args.toList xs
  | _ => false
 | .scallA _ f xs => match o with
  | .call { callee := .value (.func f'), args, argTypes := _ } => f' == fm f && chkXs fm args.toList xs
  | _ => false
 | .scallE f xs => match o with
  | .call { callee := .value (.func f'), args, argTypes := _ } => f' == fm f && chkXs fm args.toList xs
  | _ => false
 | .kcall _ f xs => match o with
  | .call { callee := .value (.func f'), args, argTypes := _ } => f' == fm f && chkXs fm args.toList xs
  | _ => false
 | .vcall _ fx xs => match o with
  | .call { callee := .value fo, args, argTypes := _ } => chkX fm fo fx && chkXs fm args.toList xs
  | _ => false
 | _ => false
def chkGuard (ops : Array Oper) (g : Option (Nat × Bool)) (s : Option (Nat × Bool)) : Bool :=
 match g, s with
 | none, none => true
 | some (j, want), some (t, want') => want == want' && (match (ops[j]?).bind (·.dst) with | some d => d == t | none => false)
 | _, _ => false
def chkOper (P : Program) (fm : Fm) (n : Nat) (ops : Array Oper) (o : Oper) (s : SOper) : Bool :=
 (match o.dst, s.dst with | none, none => true | some d, some d' => d == d' && decide (d < n) | _, _ => false) && chkGuard ops o.guard s.guard &&
  (chk1 P fm o.op s.op || chkCall fm o.op s.op)
theorem wanted_ok {e : Env} {a : Act} {n : Nat} {ops : Array Oper} {o : Oper} {s : SOper} {b : Bool} (hg : chkGuard ops o.guard s.guard = true) (ht : RelT M w e a n) (hw : wanted e s = some b) :
  Region.wanted o (yielded ops a.tmps) = b := by
 unfold chkGuard at hg
 unfold wanted at hw
 unfold Region.wanted
 split at hg
 ·rename_i h1 h2
  simp only [h2, Option.some.injEq] at hw
  simp only [h1]
  exact hw
 ·rename_i j want t want' h1 h2
  simp only [h2] at hw
  simp only [h1]
  simp only [Bool.and_eq_true, beq_iff_eq] at hg
  obtain ⟨rfl, hg⟩ := hg
  split at hg
  case h_2 => cases hg
  rename_i d hd
  simp only [beq_iff_eq] at hg
  subst hg
  split at hw
  case h_3 => cases hw
  case h_2 =>
   rename_i hc
   simp only [Option.some.injEq] at hw
   subst hw
   have := ht.rel d
   rw [hc] at this
   simp only [Enc] at this
   have hy : yielded ops a.tmps j = none := by
    unfold yielded
    simp only [hd, Option.bind_some]
    rw [Array.getD_eq_getD_getElem?] at this
    cases hq : a.tmps[d]? with
    | none => rfl
    | some x => rw [hq] at this; simp only [Option.getD_some] at this; subst this; rfl
   rw [hy]; rfl
  rename_i c hc
  simp only [Option.some.injEq] at hw
  subst hw
  have := ht.rel d
  rw [hc] at this
  simp only [Enc] at this
  have hget : a.tmps[d]? = some (.bool c) := by
   rw [Array.getD_eq_getD_getElem?] at this
   cases hq : a.tmps[d]? with
   | none => rw [hq] at this; simp [undef] at this
   | some x => rw [hq] at this; simp at this; rw [this]
  simp [yielded, hd, hget]
 ·cases hg
theorem relT_put {e : Env} {a : Act} {n : Nat} {d : Option Nat} {v : V} {rv : Value} (ht : RelT M w e a n) (hd : ∀ k, d = some k → k < n) (he : d.isSome = true → Enc M w v rv) : RelT M w (e.put d v) (a.put d rv) n := by
 cases d with
 | none => exact ht
 | some k =>
  have hk := hd k rfl
  refine ⟨by simp [Act.put, ht.size], by simpa [Act.put] using ht.defers, fun i => ?_, ht.glo⟩
  simp only [Env.put_some, Act.put]
  have hs := ht.size
  by_cases hi : i = k
  ·subst hi
   rw [if_pos rfl]
   rw [Array.getD_eq_getD_getElem?, Array.getElem?_setIfInBounds_self_of_lt (by omega)]
   exact he rfl
  ·rw [if_neg hi, Array.getD_eq_getD_getElem?, Array.getElem?_setIfInBounds_ne (by omega), ← Array.getD_eq_getD_getElem?]
   exact ht.rel i
theorem not_owned_deferred (hr : HRel M w H) {D : Nat} {o : Option (List Deferred)} (hD : w.heap[D]? = some (.deferred o)) : ¬ Owned M H D := by
 rintro ⟨id, hid⟩
 unfold blOf at hid
 split at hid
 ·rename_i n hb
  have := hr.rel id _ hb
  simp only [BRel, hid] at this
  obtain ⟨_, _, _, _, _, xs, e, hc, _⟩ := this
  rw [hD] at hc; cases hc
 ·rename_i blk hn hb
  have := hr.rel id _ hb
  simp only [Option.some.injEq] at hid
  subst hid
  cases blk with
  | zone n => exact absurd rfl (hn n)
  | cells cs => simp only [BRel] at this; obtain ⟨_, _, xs, e, hc, _⟩ := this; rw [hD] at hc; cases hc
  | froz cs => simp only [BRel] at this; obtain ⟨_, _, xs, e, hc, _⟩ := this; rw [hD] at hc; cases hc
  | map es => simp only [BRel] at this; obtain ⟨_, ents, hc, _⟩ := this; rw [hD] at hc; cases hc
  | siter t pos => simp only [BRel] at this; rw [hD] at this; cases this.2
  | loop e0 ps as bo st => simp only [BRel] at this; obtain ⟨_, r, hc, _⟩ := this; rw [hD] at hc; cases hc
  | grow cs sz fu => simp only [BRel] at this; obtain ⟨_, _, _, _, xs, e, hc, _⟩ := this; rw [hD] at hc; cases hc
 ·cases hid
theorem defers_step {a : Act} {H' : Heap} (h : Stp M H w M' H' w') (hr : HRel M w H) (hd : a.defers.Nodup ∧ ∀ d ∈ a.defers, ∃ D, d = { target := .collected D, args := #[] } ∧ w.heap[D]? = some (.deferred (some []))) :
  a.defers.Nodup ∧ ∀ d ∈ a.defers, ∃ D, d = { target := .collected D, args := #[] } ∧ w'.heap[D]? = some (.deferred (some [])) :=
 ⟨hd.1, fun d hm => by
  obtain ⟨D, h1, h2⟩ := hd.2 d hm
  exact ⟨D, h1, (h.same D (Array.getElem?_eq_some_iff.1 h2).1 (not_owned_deferred hr h2)).trans h2⟩⟩
theorem RelT.step {e : Env} {a : Act} {n : Nat} {H' : Heap} (h : Stp M H w M' H' w') (hr : HRel M w H) (hi : Ids M M' H.length) (ht : RelT M w e a n) : RelT M' w' e a n :=
 ⟨ht.size, defers_step h hr ht.defers, fun i => Enc.step h hr hi (ht.rel i), ht.glo.step h hr hi⟩
end Go.Ev
