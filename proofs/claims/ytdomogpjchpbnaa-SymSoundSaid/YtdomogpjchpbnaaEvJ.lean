/- More operations: what is alike, texts, maps. -/
import Derived.Test.YtdomogpjchpbnaaEvH
import Derived.Laws.StructEq
import Derived.Laws.RangeAny
import Derived.ChangeKeysEq
import Derived.MapKept
import Derived.Lib.OthersKept
namespace Go.Ev
open Go Go.RowKit
set_option linter.unusedSimpArgs false
set_option linter.unusedVariables false

variable {P : Program} {M M' : Mm} {H H1 : Heap} {w w' : World}
variable {e : Env} {a : Act} {n : Nat} {o : Oper} {v : V}

def tyAg (P : Program) (t : TypeId) : Bool := match P.underlying t with | some d => d.isRow | none => false
def kdsFs (p : TypeId → Option (List Kd)) : Nat → List Field → Option (List Kd)
  | _, [] => some []
  | off, f :: fs => if f.name ≠ "_" ∧ f.offset = off then
      match p f.type with
      | some ks => match kdsFs p (off + ks.length) fs with
        | some rs => some (ks ++ rs)
        | none => none
      | none => none
    else none
/-- The kinds of a type's cells, where its values are alike if all cells are. -/
def kdsOf (P : Program) : Nat → TypeId → Option (List Kd)
  | 0, _ => none
  | k + 1, t =>
    match (match P.underlying t with
      | some (.int _) => some [Kd.int]
      | some .bool => some [Kd.bool]
      | some .string => some [Kd.str]
      | some (.struct fs) => if P.stoodInHeld t = false then kdsFs (kdsOf P k) 0 fs.toList else none
      | some (.array m el) => match kdsOf P k el with
        | some ks => some (List.replicate m ks).flatten
        | none => none
      | _ => none) with
    | some ks => if tyOk P t ks.length (tyAg P t) = true then some ks else none
    | none => none

theorem kdsOf_ok {k : Nat} {t : TypeId} {ks : List Kd} (h : kdsOf P k t = some ks) : tyOk P t ks.length (tyAg P t) = true := by
  cases k with
  | zero => simp [kdsOf] at h
  | succ k =>
    simp only [kdsOf] at h
    split at h
    · split at h
      · rename_i h2; cases h; exact h2
      · cases h
    · cases h

theorem eqks_len : ∀ {ks : List Kd} {cs ds : List V} {b : Bool}, eqks ks cs ds = some b → cs.length = ks.length ∧ ds.length = ks.length
  | [], [], [], _, _ => ⟨rfl, rfl⟩
  | [], [], _ :: _, _, h => by simp [eqks] at h
  | [], _ :: _, _, _, h => by simp [eqks] at h
  | _ :: _, [], _, _, h => by simp [eqks] at h
  | _ :: _, _ :: _, [], _, h => by simp [eqks] at h
  | k :: ks, c :: cs, d :: ds, b, h => by
    simp only [eqks] at h
    split at h
    · rename_i x y hx hy
      have := eqks_len hy
      simp [this.1, this.2]
    · cases h

theorem eqks_append : ∀ {ks rs : List Kd} {cs ds : List V} {b : Bool}, eqks (ks ++ rs) cs ds = some b →
    ∃ x y, eqks ks (cs.take ks.length) (ds.take ks.length) = some x ∧ eqks rs (cs.drop ks.length) (ds.drop ks.length) = some y ∧ b = (x && y)
  | [], rs, cs, ds, b, h => ⟨true, b, by simp [eqks], by simpa using h, by simp⟩
  | k :: ks, rs, [], _, b, h => by simp [eqks] at h
  | k :: ks, rs, _ :: _, [], b, h => by simp [eqks] at h
  | k :: ks, rs, c :: cs, d :: ds, b, h => by
    simp only [List.cons_append, eqks] at h
    split at h
    · rename_i x y hx hy
      obtain ⟨x', y', h1, h2, rfl⟩ := eqks_append hy
      simp only [Option.some.injEq] at h
      refine ⟨x && x', y', ?_, by simpa using h2, by rw [← h, Bool.and_assoc]⟩
      simp only [List.length_cons, List.take_succ_cons, eqks, hx, h1]
    · cases h

/-- Values of a type, alike or not. -/
def EqOk (P : Program) (d : Nat) (t : TypeId) (ks : List Kd) : Prop :=
  ∀ (M : Mm) (w w2 : World) (cs ds : List V) (xs ys : List Value) (b : Bool), EncL M w cs xs → EncL M w ds ys → eqks ks cs ds = some b →
    (Op.equalIn d t (mkR (tyAg P t) xs) (mkR (tyAg P t) ys)).run P w2 = .ok b w2

theorem run_part_tl {t : TypeId} {sz off : Nat} {ag : Bool} {xs : List Value} (hty : tyOk P t sz ag = true) (hl : off + sz ≤ xs.length) :
    (part t xs.toArray off).run P w = .ok (mkR ag ((xs.drop off).take sz)) w := by
  have := run_part_mk (P := P) (w := w) (xs := xs.toArray) hty (by simpa using hl)
  simpa using this

theorem eqFields_ok {d : Nat} {p : TypeId → Option (List Kd)} (hp : ∀ t ks, p t = some ks → tyOk P t ks.length (tyAg P t) = true ∧ EqOk P d t ks) : ∀ {fs : List Field} {off : Nat} {ks : List Kd} {cs ds : List V} {xs ys : List Value} {b : Bool} {M : Mm} {w w2 : World},
    kdsFs p off fs = some ks → EncL M w cs xs → EncL M w ds ys → off ≤ xs.length → off ≤ ys.length → eqks ks (cs.drop off) (ds.drop off) = some b → (Op.eqFields d xs.toArray ys.toArray fs).run P w2 = .ok b w2
  | [], off, ks, cs, ds, xs, ys, b, M, w, w2, hk, hx, hy, hxl, hyl, h => by
    simp only [kdsFs, Option.some.injEq] at hk
    subst hk
    have : b = true := by
      cases hc : cs.drop off <;> cases hd : ds.drop off <;> rw [hc, hd] at h <;> simp [eqks] at h
      exact h
    subst this
    simp [Op.eqFields]
  | f :: fs, off, ks, cs, ds, xs, ys, b, M, w, w2, hk, hx, hy, hxl, hyl, h => by
    simp only [kdsFs] at hk
    split at hk
    case isFalse => cases hk
    rename_i hf
    obtain ⟨hname, hoff⟩ := hf
    split at hk
    case h_2 => cases hk
    rename_i k1 hk1
    split at hk
    case h_2 => cases hk
    rename_i rs hrs
    cases hk
    obtain ⟨hty, heq⟩ := hp _ _ hk1
    obtain ⟨x, y, h1, h2, rfl⟩ := eqks_append h
    have hcl := encL_length hx
    have hdl := encL_length hy
    obtain ⟨l1, l2⟩ := eqks_len h1
    simp only [List.length_take, List.length_drop] at l1 l2
    have px := run_part_tl (P := P) (w := w2) (off := off) (xs := xs) hty (by omega)
    have py := run_part_tl (P := P) (w := w2) (off := off) (xs := ys) hty (by omega)
    have pe := heq M w w2 _ _ _ _ x (encL_take (encL_drop hx off) k1.length) (encL_take (encL_drop hy off) k1.length) h1
    have ih := eqFields_ok (w2 := w2) hp hrs hx hy (by omega) (by omega) (by simpa [List.drop_drop] using h2)
    simp only [Op.eqFields, hoff]
    rw [if_pos hname]
    simp only [Sem.run_bind, px, py, pe, Result.andThen_ok]
    cases x
    · simp
    · simpa using ih

theorem eqItems_ok {d : Nat} {el : TypeId} {ks : List Kd} (hty : tyOk P el ks.length (tyAg P el) = true) (heq : EqOk P d el ks) : ∀ {m off : Nat} {cs ds : List V} {xs ys : List Value} {b : Bool} {M : Mm} {w w2 : World},
    EncL M w cs xs → EncL M w ds ys → off * ks.length ≤ xs.length → off * ks.length ≤ ys.length → eqks (List.replicate m ks).flatten (cs.drop (off * ks.length)) (ds.drop (off * ks.length)) = some b →
    (Op.eqItems d el ks.length xs.toArray ys.toArray (List.range' off m)).run P w2 = .ok b w2
  | 0, off, cs, ds, xs, ys, b, M, w, w2, hx, hy, hxl, hyl, h => by
    simp only [List.replicate_zero, List.flatten_nil] at h
    have : b = true := by
      cases hc : cs.drop (off * ks.length) <;> cases hd : ds.drop (off * ks.length) <;> rw [hc, hd] at h <;> simp [eqks] at h
      exact h
    subst this
    simp [Op.eqItems]
  | m + 1, off, cs, ds, xs, ys, b, M, w, w2, hx, hy, hxl, hyl, h => by
    rw [List.replicate_succ, List.flatten_cons] at h
    obtain ⟨x, y, h1, h2, rfl⟩ := eqks_append h
    have hcl := encL_length hx
    have hdl := encL_length hy
    obtain ⟨l1, l2⟩ := eqks_len h1
    simp only [List.length_take, List.length_drop] at l1 l2
    have px := run_part_tl (P := P) (w := w2) (off := off * ks.length) (xs := xs) hty (by omega)
    have py := run_part_tl (P := P) (w := w2) (off := off * ks.length) (xs := ys) hty (by omega)
    have pe := heq M w w2 _ _ _ _ x (encL_take (encL_drop hx _) ks.length) (encL_take (encL_drop hy _) ks.length) h1
    have hnext : (off + 1) * ks.length = off * ks.length + ks.length := by rw [Nat.add_mul, Nat.one_mul]
    have ih := eqItems_ok (w2 := w2) (m := m) (off := off + 1) hty heq hx hy (by omega) (by omega) (by rw [hnext]; simpa [List.drop_drop] using h2)
    rw [List.range'_succ]
    simp only [Op.eqItems, Sem.run_bind, px, py, pe, Result.andThen_ok]
    cases x
    · simp
    · simpa using ih

theorem mkR_false {xs : List Value} {x : Value} (h : xs = [x]) : mkR false xs = x := by subst h; rfl

theorem kdsOf_eq : ∀ {k : Nat} {t : TypeId} {ks : List Kd} {d : Nat}, kdsOf P k t = some ks → k ≤ d → EqOk P d t ks
  | 0, t, ks, d, h, _ => by simp [kdsOf] at h
  | k + 1, t, ks, 0, h, hd => by omega
  | k + 1, t, ks, d + 1, h, hd => by
    have hok := kdsOf_ok h
    have sub : ∀ t ks, kdsOf P k t = some ks → tyOk P t ks.length (tyAg P t) = true ∧ EqOk P d t ks := fun t ks h => ⟨kdsOf_ok h, kdsOf_eq h (by omega)⟩
    simp only [kdsOf] at h
    split at h
    case h_2 => cases h
    rename_i ks' hks
    split at h
    case isFalse => cases h
    cases h
    intro M w w2 cs ds xs ys b hx hy he
    obtain ⟨lc, ld⟩ := eqks_len he
    have hxl := encL_length hx
    have hyl := encL_length hy
    have one : ∀ {kd : Kd}, ks = [kd] → ∃ c d x y, cs = [c] ∧ ds = [d] ∧ xs = [x] ∧ ys = [y] ∧ Enc M w c x ∧ Enc M w d y ∧ eqk kd c d = some b := by
      intro kd hkd
      subst hkd
      obtain ⟨c, rfl⟩ := List.length_eq_one_iff.1 lc
      obtain ⟨d', rfl⟩ := List.length_eq_one_iff.1 ld
      simp only [EncL] at hx hy
      obtain ⟨x, _, rfl, h1, rfl⟩ := hx
      obtain ⟨y, _, rfl, h2, rfl⟩ := hy
      refine ⟨c, d', x, y, rfl, rfl, rfl, rfl, h1, h2, ?_⟩
      simp only [eqks] at he
      split at he
      · rename_i u v hu hv
        simp only [Option.some.injEq] at hv he
        subst hv
        rw [hu, ← he, Bool.and_true]
      · cases he
    split at hks
    · rename_i k0 hu
      have hag : tyAg P t = false := by simp [tyAg, hu, TypeDesc.isRow]
      simp only [Option.some.injEq] at hks
      obtain ⟨c, d', x, y, rfl, rfl, rfl, rfl, h1, h2, h3⟩ := one hks.symm
      rw [hag]
      cases c <;> cases d' <;> simp only [eqk, reduceCtorEq] at h3
      split at h3
      · rename_i hk; subst hk
        simp only [Option.some.injEq] at h3
        subst h3
        simp only [Enc] at h1 h2
        subst h1; subst h2
        exact run_equalIn_int w2 d t _ _ _ _ hu
      · cases h3
    · rename_i hu
      have hag : tyAg P t = false := by simp [tyAg, hu, TypeDesc.isRow]
      simp only [Option.some.injEq] at hks
      obtain ⟨c, d', x, y, rfl, rfl, rfl, rfl, h1, h2, h3⟩ := one hks.symm
      rw [hag]
      cases c <;> cases d' <;> simp only [eqk, reduceCtorEq, Option.some.injEq] at h3
      subst h3
      simp only [Enc] at h1 h2
      subst h1; subst h2
      exact run_equalIn_bool w2 d t _ _ hu
    · rename_i hu
      have hag : tyAg P t = false := by simp [tyAg, hu, TypeDesc.isRow]
      simp only [Option.some.injEq] at hks
      obtain ⟨c, d', x, y, rfl, rfl, rfl, rfl, h1, h2, h3⟩ := one hks.symm
      rw [hag]
      cases c <;> cases d' <;> simp only [eqk, reduceCtorEq, Option.some.injEq] at h3
      subst h3
      simp only [Enc] at h1 h2
      subst h1; subst h2
      show (Op.equalIn (d + 1) t (.string _) (.string _)).run P w2 = _
      rw [run_equalIn_string w2 d t _ _ hu]
      simp
    · rename_i fs hu
      have hag : tyAg P t = true := by simp [tyAg, hu, TypeDesc.isRow]
      split at hks
      case isFalse => cases hks
      rename_i hst
      rw [hag]
      have hfs : P.fieldsOf t = fs := by simp [Program.fieldsOf, hu]
      have := run_equalIn_struct (P := P) w2 d t xs.toArray ys.toArray (by rw [hfs]; exact hu) hst
      simp only [mkR, if_true]
      rw [this, hfs]
      exact eqFields_ok sub hks hx hy (Nat.zero_le _) (Nat.zero_le _) (by simpa using he)
    · rename_i m el hu
      have hag : tyAg P t = true := by simp [tyAg, hu, TypeDesc.isRow]
      split at hks
      case h_2 => cases hks
      rename_i k1 hk1
      simp only [Option.some.injEq] at hks
      rw [hag]
      obtain ⟨hty, heq⟩ := sub _ _ hk1
      have hty' := hty
      unfold tyOk at hty'
      split at hty'
      case h_2 => cases hty'
      rename_i _ i hi0 hi
      simp only [Bool.and_eq_true, beq_iff_eq] at hty'
      have hcell : P.cellsOf el = k1.length := by
        have := run_sizeOf (P := P) w hi
        have h2 : (sizeOf el).run P w = .ok i.size w := by simp [sizeOf, typeInfo, hi]
        rw [h2] at this
        simp only [Result.ok.injEq, and_true] at this
        rw [← this]; exact hty'.1
      have := run_equalIn_array (P := P) w2 d xs.toArray ys.toArray hu hi
      simp only [mkR, if_true]
      rw [this, hcell, List.range_eq_range']
      exact eqItems_ok hty heq hx hy (by simp) (by simp) (by rw [hks]; simpa using he)
    · cases hks

theorem aeq_ok {xt yt : TypeId} {x y : Operand} {sx sy : X} {base : Nat} {neg : Bool} {ks : List Kd} (ho : o.op = .binOp (if neg then .neq else .eql) xt x y yt) (hx : chkX M.fm x sx = true) (hy : chkX M.fm y sy = true)
    (hk : kdsOf P 20 xt = some ks) (hg : P.eqGuardType P.depth xt = false) (hag : tyAg P xt = true) (ht : RelT M w e a n) (hr : HRel M w H) (hv : ev1 base e H (.aeq ks neg sx sy) = some (v, H1)) : OpOk P o a M H w v H1 := by
  have hx' := chkX_enc hx ht
  have hy' := chkX_enc hy ht
  simp only [ev1] at hv
  split at hv
  case h_2 => cases hv
  rename_i cs ds hp hq
  split at hv
  case h_2 => cases hv
  rename_i b hb
  cases hv
  rw [hp] at hx'
  rw [hq] at hy'
  simp only [Enc] at hx' hy'
  obtain ⟨_, xs, hxe, hxs⟩ := hx'
  obtain ⟨_, ys, hye, hys⟩ := hy'
  have he := kdsOf_eq (P := P) (d := 10000) hk (by omega) M w w cs ds xs ys b hxs hys hb
  rw [hag] at he
  simp only [mkR, if_true] at he
  refine .plain (rv := .bool (if neg then !b else b)) hr ?_ (by simp only [Enc])
  cases neg
  · simp only [execOp, ho, hxe, hye, Sem.run_bind, Bool.false_eq_true, if_false, run_eqGuard_agg w _ xt x y _ _ hg, Result.andThen_ok, run_eql_struct, he]; rfl
  · simp only [execOp, ho, hxe, hye, Sem.run_bind, if_true, run_eqGuard_agg w _ xt x y _ _ hg, Result.andThen_ok, run_neq_struct, he]; rfl

/-- Held against nothing. -/
def nilTy (P : Program) (k : Nat) (t : TypeId) (y : Operand) : Bool :=
  match k, P.underlying t, y with
  | 0, some (.func _ _ _), .const .nilFunc => true
  | 1, some (.pointer _), .const (.pointer none) => true
  | 2, some (.map _ _), .const (.map none) => true
  | _, _, _ => false
theorem eq_fn_nil (d : Nat) {t : TypeId} {p q : Array TypeId} {r : Bool} (hu : P.underlying t = some (.func p q r)) (f : Fn) (g h : Array Value) : (Op.equalIn (d + 1) t (.func f g h) .nilFunc).run P w = .ok false w := by
  simp [Op.equalIn, run_underlying hu]
theorem eq_nilf_nil (d : Nat) {t : TypeId} {p q : Array TypeId} {r : Bool} (hu : P.underlying t = some (.func p q r)) : (Op.equalIn (d + 1) t .nilFunc .nilFunc).run P w = .ok true w := by
  simp [Op.equalIn, run_underlying hu]
theorem eq_nilp_nil (d : Nat) {t p : TypeId} (hu : P.underlying t = some (.pointer p)) : (Op.equalIn (d + 1) t (.pointer none) (.pointer none)).run P w = .ok true w := by
  simp [Op.equalIn, run_underlying hu]
theorem eq_ptr_nil (d : Nat) {t p : TypeId} (hu : P.underlying t = some (.pointer p)) (b : Addr) : (Op.equalIn (d + 1) t (.pointer (some b)) (.pointer none)).run P w = .ok false w := by
  simp [Op.equalIn, run_underlying hu]
theorem eq_map_nil (d : Nat) {t p q : TypeId} (hu : P.underlying t = some (.map p q)) (b : Nat) : (Op.equalIn (d + 1) t (.map (some b)) (.map none)).run P w = .ok false w := by
  simp [Op.equalIn, run_underlying hu]
theorem eq_nilm_nil (d : Nat) {t p q : TypeId} (hu : P.underlying t = some (.map p q)) : (Op.equalIn (d + 1) t (.map none) (.map none)).run P w = .ok true w := by
  simp [Op.equalIn, run_underlying hu]
theorem nil_run {xt yt : TypeId} {x y : Operand} {xv yv : Value} {b neg : Bool} (ho : o.op = .binOp (if neg then .neq else .eql) xt x y yt) (h1 : a.eval x = xv) (h2 : a.eval y = yv) (hr : HRel M w H)
    (hg : ∀ op, (eqGuard op xt x y xv yv).run P w = .ok () w) (he : binOp .eql xt xv yv = (do pure (.bool (← Op.equal xt xv yv)))) (hn : binOp .neq xt xv yv = (do pure (.bool (!(← Op.equal xt xv yv)))))
    (hq : ∀ d, (Op.equalIn (d + 1) xt xv yv).run P w = .ok b w) : OpOk P o a M H w (.bool (if neg then !b else b)) H := by
  have hq' : (Op.equal xt xv yv).run P w = .ok b w := hq 9999
  refine .plain (rv := .bool (if neg then !b else b)) hr ?_ (by simp only [Enc])
  cases neg
  · simp only [execOp, ho, h1, h2, Sem.run_bind, Bool.false_eq_true, if_false, hg, Result.andThen_ok, he, hq', Sem.run_pure]
  · simp only [execOp, ho, h1, h2, Sem.run_bind, if_true, hg, Result.andThen_ok, hn, hq', Sem.run_pure]
theorem nileq_ok {xt yt : TypeId} {x y : Operand} {sx : X} {base k : Nat} {neg : Bool} (ho : o.op = .binOp (if neg then .neq else .eql) xt x y yt) (hx : chkX M.fm x sx = true)
    (hk : nilTy P k xt y = true) (ht : RelT M w e a n) (hr : HRel M w H) (hv : ev1 base e H (.nileq k neg sx) = some (v, H1)) : OpOk P o a M H w v H1 := by
  have hx' := chkX_enc hx ht
  have tt : neg = (if neg = true then !false else false) := by cases neg <;> rfl
  have ff : (!neg) = (if neg = true then !true else true) := by cases neg <;> rfl
  unfold nilTy at hk
  split at hk
  case h_4 => cases hk
  all_goals
    rename_i hu
    simp only [ev1] at hv
    cases hp : sx.ev e <;> rw [hp] at hv hx' <;> simp only [reduceCtorEq, Option.some.injEq, Prod.mk.injEq] at hv
    all_goals
      obtain ⟨rfl, rfl⟩ := hv
      simp only [Enc] at hx'
  · obtain ⟨xs, hxe, _⟩ := hx'
    rw [tt]
    exact nil_run ho hxe rfl hr (fun op => by unfold eqGuard; cases op <;> simp) rfl rfl (fun d => eq_fn_nil d hu _ _ _)
  · rw [ff]
    exact nil_run ho hx' rfl hr (fun op => by unfold eqGuard; cases op <;> simp) rfl rfl (fun d => eq_nilf_nil d hu)
  · rw [ff]
    exact nil_run ho hx' rfl hr (fun op => by unfold eqGuard; cases op <;> simp) rfl rfl (fun d => eq_nilp_nil d hu)
  · obtain ⟨_, hxe⟩ := hx'
    rw [tt]
    exact nil_run ho hxe rfl hr (fun op => by unfold eqGuard; cases op <;> simp) rfl rfl (fun d => eq_ptr_nil d hu _)
  · obtain ⟨_, b, off, hxe, _⟩ := hx'
    rw [tt]
    exact nil_run ho hxe rfl hr (fun op => by unfold eqGuard; cases op <;> simp) rfl rfl (fun d => eq_ptr_nil d hu _)
  · obtain ⟨_, hxe⟩ := hx'
    rw [tt]
    exact nil_run ho hxe rfl hr (fun op => by unfold eqGuard; cases op <;> simp) rfl rfl (fun d => eq_map_nil d hu _)
  · rw [ff]
    exact nil_run ho hx' rfl hr (fun op => by unfold eqGuard; cases op <;> simp) rfl rfl (fun d => eq_nilm_nil d hu)

/-- The least, the greatest. -/
theorem mm_fold {mx : Bool} {k : IntKind} : ∀ {xs : List X} {os : List Operand} {p : Int} {u : V}, chkXs M.fm os xs = true → RelT M w e a n → mmGo e mx k p xs = some u →
    ((os.map a.eval).foldlM (if mx then Builtin.max2 else Builtin.min2) (.int k p)).run P w = .ok (valOf u) w ∧ Enc M w u (valOf u)
  | [], [], p, u, _, _, h => by
    simp only [mmGo, Option.some.injEq] at h
    subst h
    exact ⟨by simp [valOf], by simp only [Enc, valOf]⟩
  | [], _ :: _, _, _, hc, _, _ => by simp [chkXs] at hc
  | _ :: _, [], _, _, hc, _, _ => by simp [chkXs] at hc
  | x :: xs, o :: os, p, u, hc, ht, h => by
    simp only [chkXs, Bool.and_eq_true] at hc
    simp only [mmGo] at h
    split at h
    case h_2 => cases h
    rename_i k' b hx
    split at h
    case isFalse => cases h
    rename_i hk
    subst hk
    have hxe := chkX_enc hc.1 ht
    rw [hx] at hxe
    simp only [Enc] at hxe
    obtain ⟨h1, h2⟩ := mm_fold hc.2 ht h
    refine ⟨?_, h2⟩
    rw [List.map_cons, List.foldlM_cons, Sem.run_bind, hxe]
    cases mx
    · simp only [Bool.false_eq_true, if_false] at h1 ⊢
      simp only [Builtin.min2, Sem.run_pure, Result.andThen_ok]
      simpa [mmI] using h1
    · simp only [if_true] at h1 ⊢
      simp only [Builtin.max2, Sem.run_pure, Result.andThen_ok]
      simpa [mmI] using h1
theorem mm_ok {mx : Bool} {args : Array Operand} {ts : Array TypeId} {xs : List X} {base : Nat} (ho : o.op = .call { callee := .builtin (if mx then .max else .min), args := args, argTypes := ts }) (hx : chkXs M.fm args.toList xs = true)
    (ht : RelT M w e a n) (hr : HRel M w H) (hv : ev1 base e H (.mm mx xs) = some (v, H1)) : OpOk P o a M H w v H1 := by
  simp only [ev1] at hv
  split at hv
  case h_2 => cases hv
  rename_i x xs
  split at hv
  case h_2 => cases hv
  rename_i k p hp
  rw [Option.map_eq_some_iff] at hv
  obtain ⟨u, hu, hv⟩ := hv
  cases hv
  cases hl : args.toList with
  | nil => rw [hl] at hx; simp [chkXs] at hx
  | cons o1 os =>
    rw [hl] at hx
    simp only [chkXs, Bool.and_eq_true] at hx
    have h1 := chkX_enc hx.1 ht
    rw [hp] at h1
    simp only [Enc] at h1
    obtain ⟨h2, h3⟩ := mm_fold (P := P) hx.2 ht hu
    refine .plain (rv := valOf v) hr ?_ h3
    have hm : List.map a.eval args.toList = .int k p :: os.map a.eval := by rw [hl, List.map_cons, h1]
    cases mx
    · simp only [Bool.false_eq_true, if_false] at h2 ho
      simp [execOp, ho, resolve, invoke, builtin, Builtin.min_, hm, h2]
    · simp only [if_true] at h2 ho
      simp [execOp, ho, resolve, invoke, builtin, Builtin.max_, hm, h2]

/-- A text's byte. -/
theorem sidx_ok {t : TypeId} {x y : Operand} {sx sy : X} {base : Nat} (ho : o.op = .index t x y) (hx : chkX M.fm x sx = true) (hy : chkX M.fm y sy = true) (hu : P.underlying t = some .string)
    (ht : RelT M w e a n) (hr : HRel M w H) (hv : ev1 base e H (.sidx sx sy) = some (v, H1)) : OpOk P o a M H w v H1 := by
  have hx' := chkX_enc hx ht
  have hy' := chkX_enc hy ht
  simp only [ev1] at hv
  split at hv
  case h_2 => cases hv
  rename_i s k i hp hq
  split at hv
  case isFalse => cases hv
  rename_i h0
  split at hv
  case h_2 => cases hv
  rename_i b hb
  cases hv
  rw [hp] at hx'
  rw [hq] at hy'
  simp only [Enc] at hx' hy'
  refine .plain (rv := .int .u8 b.toNat) hr ?_ (by simp only [Enc])
  have hlt : i.toNat < s.length := (List.getElem?_eq_some_iff.1 hb).1
  have hi : 0 ≤ i ∧ i < (ByteArray.mk s.toArray).size := by rw [size_mk]; omega
  have hg : (ByteArray.mk s.toArray)[i.toNat]'(by rw [size_mk]; exact hlt) = b := by
    have := (List.getElem?_eq_some_iff.1 hb).2
    rw [← this]; rfl
  have := run_index_string (P := P) w t ⟨s.toArray⟩ k i hu
  rw [dif_pos hi, hg] at this
  simp [execOp, ho, hx', hy', this]

/-- A part of a text. -/
theorem sslc_ok {t : TypeId} {x : Operand} {sx : X} {lo hi : Option Operand} {slo shi : Option X} {base : Nat} (ho : o.op = .slice t x lo hi none) (hx : chkX M.fm x sx = true) (hu : P.underlying t = some .string)
    (hlo : chkXo M.fm lo slo = true) (hhi : chkXo M.fm hi shi = true) (ht : RelT M w e a n) (hr : HRel M w H) (hv : ev1 base e H (.sslc sx slo shi) = some (v, H1)) : OpOk P o a M H w v H1 := by
  have hx' := chkX_enc hx ht
  simp only [ev1] at hv
  split at hv
  case h_2 => cases hv
  rename_i s hp
  split at hv
  case h_2 => cases hv
  rename_i l h m hb
  cases hv
  rw [hp] at hx'
  simp only [Enc] at hx'
  refine .plain (rv := .string ⟨((s.drop l).take (h - l)).toArray⟩) hr ?_ (by simp only [Enc])
  have hrun := run_bounds (P := P) (w := w) (isS := false) (len := s.length) (cap := s.length) hlo hhi (mx := none) (smx := none) rfl ht hb (Nat.le_refl _)
  simp only [Option.map_none] at hrun
  have hext : (ByteArray.mk s.toArray).extract l h = ⟨((s.drop l).take (h - l)).toArray⟩ := by
    apply ByteArray.ext
    simp [ByteArray.data_extract, List.extract_eq_take_drop]
  simp [execOp, ho, hx', Instr.sliceAt, Instr.slice, run_underlying hu, size_mk, hrun.2.2.2, hext]

end Go.Ev
