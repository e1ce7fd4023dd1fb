/- A law's row: arguments that read as data are canonical, and read behind the call as they read before. -/
import Derived.Test.YtdomogpjchpbnaaEvT
import Derived.OpenShut
import Derived.ChangeShapes
import Derived.WideShapes
import Derived.Carry
import Derived.LaidMore
import Derived.Stop.Joined
namespace Go.Ev
open Go Go.RowKit Go.ChangeShapes Go.WideShapes
variable {P : Program} {fm : Fm} {w : World} {Hh : Type} {enc : TypeId × Value → Hh}

/-- A canonical argument of a shape. -/
def ArgIs : Ty → V → Prop
  | .agg fs, v => ∃ cs, v = .agg cs ∧ HasTy (.agg fs) cs
  | .arr n e, v => ∃ cs, v = .agg cs ∧ HasTy (.arr n e) cs
  | t, v => HasTy t [v]
def ArgsAre : List Ty → List V → Prop
  | [], vs => vs = []
  | t :: ts, vs => ∃ v r, vs = v :: r ∧ ArgIs t v ∧ ArgsAre ts r

theorem one_cell {v : Value} {c : V} (h : EncL (M0 fm) w [c] v.cells.toList) (hv : ∀ cs, v ≠ .agg cs) (ht : ∀ cs, v ≠ .tuple cs) : Enc (M0 fm) w c v := by
  simp only [EncL] at h
  obtain ⟨x, xs', hx, h1, h2⟩ := h
  subst h2
  have : v.cells = #[v] := by cases v <;> first | rfl | (exact absurd rfl (hv _)) | (exact absurd rfl (ht _))
  rw [this] at hx
  simp at hx
  subst hx
  exact h1

theorem open_arg {b0 : Nat} {ty : Ty} {t : TypeId} {v : Value} {d : DataW Hh} {ps : List MemPlace} (ht : tyIs P t ty = true) (hv : Value.okWide P w .any b0 t v) (hd : DataW.Trod enc P w 0 (fun _ => true) true t v d ps) :
    ∃ c, ArgIs ty c ∧ Enc (M0 fm) w c v := by
  obtain ⟨fuel, hd⟩ := hd
  obtain ⟨cs, hc, he⟩ := open_ty (fm := fm) ht hd
  cases ty with
  | int k =>
    obtain ⟨n, rfl⟩ := okWide_int (isInt_spec (by simpa only [tyIs] using ht)) hv
    simp only [HasTy] at hc
    obtain ⟨m, rfl, hw⟩ := hc
    exact ⟨_, ⟨m, rfl, hw⟩, one_cell he (by simp) (by simp)⟩
  | bool =>
    obtain ⟨n, rfl⟩ := okWide_bool (isBool_spec (by simpa only [tyIs] using ht)) hv
    simp only [HasTy] at hc
    obtain ⟨m, rfl⟩ := hc
    exact ⟨_, ⟨m, rfl⟩, one_cell he (by simp) (by simp)⟩
  | str =>
    obtain ⟨n, rfl⟩ := okWide_string (isStr_spec (by simpa only [tyIs] using ht)) hv
    simp only [HasTy] at hc
    obtain ⟨m, rfl, hw⟩ := hc
    exact ⟨_, ⟨m, rfl, hw⟩, one_cell he (by simp) (by simp)⟩
  | sl e =>
    simp only [tyIs] at ht
    split at ht
    case h_2 => cases ht
    rename_i el hu
    obtain ⟨a, len, cap, rfl⟩ := okWide_slice hu hv
    simp only [HasTy] at hc
    obtain ⟨es, rfl, h1, h2⟩ := hc
    exact ⟨_, ⟨es, rfl, h1, h2⟩, one_cell he (by simp) (by simp)⟩
  | agg fs =>
    have hp : ∀ c ∈ cs, c.scal = true := fun c hx => V.scal_of_pure (HasTy.pure hc c hx)
    simp only [tyIs] at ht
    split at ht
    case h_2 => cases ht
    rename_i gs hu
    unfold Value.okWide at hv
    rw [hu] at hv
    obtain ⟨xs, rfl, _, _⟩ := hv
    refine ⟨.agg cs, ⟨cs, rfl, hc⟩, ?_⟩
    simp only [Enc]
    exact ⟨hp, xs.toList, by simp, he⟩
  | arr n e =>
    have hp : ∀ c ∈ cs, c.scal = true := fun c hx => V.scal_of_pure (HasTy.pure hc c hx)
    simp only [tyIs] at ht
    split at ht
    case h_2 => cases ht
    rename_i m el hu
    unfold Value.okWide at hv
    rw [hu] at hv
    obtain ⟨xs, rfl, _, _⟩ := hv
    refine ⟨.agg cs, ⟨cs, rfl, hc⟩, ?_⟩
    simp only [Enc]
    exact ⟨hp, xs.toList, by simp, he⟩

/-- All arguments. -/
theorem open_args {b0 : Nat} : ∀ {tys : List Ty} {ts : List TypeId} {vs : List Value} {ds : List (DataW Hh)} {ps : List MemPlace}, (∀ (i : Nat) (ty : Ty) (t : TypeId), tys[i]? = some ty → ts[i]? = some t → tyIs P t ty = true) → tys.length = ts.length →
    (∀ (j : Nat) t v, ts[j]? = some t → vs[j]? = some v → Value.okWide P w .any b0 t v) → DataW.TrodAll enc P w 0 (fun _ => true) true ts vs ds ps →
    ∃ cs, ArgsAre tys cs ∧ EncL (M0 fm) w cs vs
  | [], [], vs, ds, ps, _, _, _, h => by
    obtain ⟨rfl, rfl, rfl⟩ := trodAll_nil h
    exact ⟨[], by simp only [ArgsAre], by simp only [EncL]⟩
  | ty :: tys, t :: ts, vs, ds, ps, ht, hl, hv, h => by
    obtain ⟨v, vs', d, ds', p, q, rfl, rfl, rfl, h1, h2⟩ := trodAll_cons h
    obtain ⟨c, hc, he⟩ := open_arg (fm := fm) (ht 0 ty t rfl rfl) (hv 0 t v rfl rfl) h1
    obtain ⟨cs, hcs, hes⟩ := open_args (tys := tys) (fun i a b h3 h4 => ht (i + 1) a b (by simpa using h3) (by simpa using h4)) (by simpa using hl) (fun j a b h3 h4 => hv (j + 1) a b (by simpa using h3) (by simpa using h4)) h2
    refine ⟨c :: cs, ?_, ?_⟩
    · simp only [ArgsAre]; exact ⟨c, cs, rfl, hc, hcs⟩
    · simp only [EncL]; exact ⟨v, vs', rfl, he, hes⟩
  | [], _ :: _, _, _, _, _, hl, _, _ => by simp at hl
  | _ :: _, [], _, _, _, _, hl, _, _ => by simp at hl

/-- They read as before. -/
theorem shut_args (hl : laidOutB P = true) : ∀ {ts : List TypeId} {vs : List Value} {ds : List (DataW Hh)} {ps : List MemPlace} {W' : World}, (ts.all fun t => P.readableRec t && decide (t < P.types.size)) = true → Below w.heap.size w W' →
    DataW.TrodAll enc P w 0 (fun _ => true) true ts vs ds ps → ∃ ps', DataW.TrodAll enc P W' 0 (fun b => decide (b < w.heap.size)) true ts vs ds ps'
  | [], vs, ds, ps, W', _, _, h => by
    obtain ⟨rfl, rfl, rfl⟩ := trodAll_nil h
    exact ⟨[], trodAll_mk0⟩
  | t :: ts, vs, ds, ps, W', hr, hb, h => by
    obtain ⟨v, vs', d, ds', p, q, rfl, rfl, rfl, h1, h2⟩ := trodAll_cons h
    simp only [List.all_cons, Bool.and_eq_true, decide_eq_true_eq] at hr
    obtain ⟨q', h3⟩ := shut_args hl hr.2 hb h2
    have lt : ∀ x ∈ p, x.block < w.heap.size := by obtain ⟨m, hm⟩ := h1; exact DataW.trod_lt m _ _ _ hm
    exact ⟨_, trodAll_cons_mk (Below.trod hl hr.1.1 hr.1.2 h1 hb lt) h3⟩

theorem out_bool {v : V} {b : Bool} (h : v.out = .bool b) : v = .bool b := by
  unfold V.out at h
  cases v <;> simp only [V.cl] at h
  case bool => exact h
  case ptr id off => rw [if_neg (by omega)] at h; cases h
  case rs id off n sz => rw [if_neg (by omega)] at h; cases h
  all_goals cases h
theorem out_true {H' : Heap} {r : V} (h : (frz H' r).out = .bool true) : r = .bool true := by
  have h := out_bool h
  cases r <;> simp only [frz, frz1] at h <;> first | exact h | (cases h; done) | skip
  split at h
  · split at h <;> cases h
  · cases h

/-- A law that holds of canonical arguments: the model's run. -/
theorem law_calls (g : GOk (M0 fm) w) {G : Tbl} (hG : ∀ f fn, G f = some fn → chkFn P fm (fm f) fn = true) {f : Nat} {args : List V} (h : FP G f args (.bool true)) {vargs : List Value} (he : EncL (M0 fm) w args vargs) :
    Calls P (fm f) vargs.toArray w fun e w' => e = .returned (.bool true) ∧ Below w.heap.size w w' := by
  obtain ⟨r', H', hb, hr⟩ := h
  have hr := out_true hr
  subst hr
  have := (sound hG hb).2 (M0 fm) w vargs rfl (hrel0 fm w g) he
  refine this.2.mono ?_
  rintro e w' ⟨rv, M', rfl, hrv, hs, _, _⟩
  simp only [Enc] at hrv
  subst hrv
  refine ⟨rfl, hs.os, hs.tape, hs.output, hs.size, fun k hk => hs.same k hk ?_⟩
  rintro ⟨id, hid⟩
  simp [blOf] at hid
end Go.Ev

/- Canonical data of some shapes, as lists of numbers. -/
namespace Go.Ev
open Go Go.RowKit

theorem ints_of {k : IntKind} : ∀ {es : List (List V)}, (∀ x ∈ es, HasTy (.int k) x) → ∃ l, es = ints k l ∧ ∀ n ∈ l, (Lit.int k n).wf = true
  | [], _ => ⟨[], rfl, by simp⟩
  | e :: es, h => by
    obtain ⟨l, rfl, hl⟩ := ints_of (es := es) fun x hx => h x (by simp [hx])
    have := h e (by simp)
    simp only [HasTy] at this
    obtain ⟨n, rfl, hn⟩ := this
    exact ⟨n :: l, rfl, by simpa using ⟨hn, hl⟩⟩
theorem u32_wf {n : Int} (h : (Lit.int .u32 n).wf = true) : 0 ≤ n ∧ n < 4294967296 := by
  simp [Lit.wf, IntKind.min, IntKind.max, IntKind.signed, IntKind.bits] at h
  omega
theorem nats_of32 : ∀ {l : List Int}, (∀ n ∈ l, (Lit.int .u32 n).wf = true) → ∃ t : List Nat, l = t.map (fun (x : Nat) => (x : Int)) ∧ ∀ x ∈ t, x < 4294967296
  | [], _ => ⟨[], rfl, by simp⟩
  | n :: l, h => by
    obtain ⟨t, rfl, ht⟩ := nats_of32 (l := l) fun x hx => h x (by simp [hx])
    have := u32_wf (h n (by simp))
    refine ⟨n.toNat :: t, ?_, ?_⟩
    · simp only [List.map_cons, List.cons.injEq, and_true]; omega
    · intro x hx
      rcases List.mem_cons.1 hx with rfl | hx
      · omega
      · exact ht x hx
theorem sl_ints {k : IntKind} {cs : List V} (h : HasTy (.sl (.int k)) cs) : ∃ l, cs = [.vs (ints k l) .no] ∧ l.length ≤ maxLen ∧ ∀ n ∈ l, (Lit.int k n).wf = true := by
  simp only [HasTy] at h
  obtain ⟨es, rfl, hl, he⟩ := h
  obtain ⟨l, rfl, hw⟩ := ints_of (k := k) (fun x hx => by simpa only [HasTy] using he x hx)
  exact ⟨l, rfl, by simpa using hl, hw⟩
theorem sl_nats {cs : List V} (h : HasTy (.sl (.int .u32)) cs) : ∃ t : List Nat, cs = [.vs (nats .u32 t) .no] ∧ t.length ≤ maxLen ∧ ∀ x ∈ t, x < 4294967296 := by
  obtain ⟨l, rfl, hl, hw⟩ := sl_ints h
  obtain ⟨t, rfl, ht⟩ := nats_of32 hw
  exact ⟨t, by simp [ints, nats, Function.comp_def], by simpa using hl, ht⟩
theorem flat_nats : ∀ t : List Nat, (ints .u32 (t.map fun (x : Nat) => (x : Int))).flatten = cnats .u32 t
  | [] => rfl
  | x :: t => by
    have := flat_nats t
    simp only [ints, cnats, List.map_cons, List.flatten_cons] at this ⊢
    rw [this]; rfl
theorem arr_nats {n : Nat} {cs : List V} (h : HasTy (.arr n (.int .u32)) cs) : ∃ t : List Nat, cs = cnats .u32 t ∧ t.length = n ∧ ∀ x ∈ t, x < 4294967296 := by
  simp only [HasTy] at h
  obtain ⟨es, rfl, hl, he⟩ := h
  obtain ⟨l, rfl, hw⟩ := ints_of (k := .u32) (fun x hx => by simpa only [HasTy] using he x hx)
  obtain ⟨t, rfl, ht⟩ := nats_of32 hw
  refine ⟨t, ?_, by simpa using hl, ht⟩
  exact flat_nats t

/-- A form of bits, as an argument. -/
theorem form_arg {v : V} (h : ArgIs (.agg [.sl (.int .i64), .sl (.int .u32)]) v) : ∃ fv ft, v = .agg [.vs (ints .i64 fv) .no, .vs (nats .u32 ft) .no] ∧ fv.length ≤ maxLen ∧ ft.length ≤ maxLen ∧ (∀ n ∈ fv, (Lit.int .i64 n).wf = true) ∧ ∀ x ∈ ft, x < 4294967296 := by
  simp only [ArgIs, HasTy, HasTys] at h
  obtain ⟨cs, rfl, a, b, rfl, h1, a2, b2, rfl, h2, rfl⟩ := h
  obtain ⟨fv, rfl, l1, w1⟩ := sl_ints (k := .i64) (by simp only [HasTy]; exact h1)
  obtain ⟨ft, rfl, l2, w2⟩ := sl_nats (by simp only [HasTy]; exact h2)
  exact ⟨fv, ft, by simp, l1, l2, w1, w2⟩
theorem arr_arg {n : Nat} {v : V} (h : ArgIs (.arr n (.int .u32)) v) : ∃ t : List Nat, v = .agg (cnats .u32 t) ∧ t.length = n ∧ ∀ x ∈ t, x < 4294967296 := by
  simp only [ArgIs] at h
  obtain ⟨cs, rfl, h⟩ := h
  obtain ⟨t, rfl, h2⟩ := arr_nats h
  exact ⟨t, rfl, h2⟩
theorem int_arg {k : IntKind} {v : V} (h : ArgIs (.int k) v) : ∃ n, v = .int k n ∧ (Lit.int k n).wf = true := by
  simp only [ArgIs, HasTy] at h
  obtain ⟨n, hn, hw⟩ := h
  simp at hn
  exact ⟨n, hn, hw⟩
theorem u32_arg {v : V} (h : ArgIs (.int .u32) v) : ∃ n : Nat, v = .int .u32 n ∧ n < 4294967296 := by
  obtain ⟨n, rfl, hw⟩ := int_arg h
  have := u32_wf hw
  exact ⟨n.toNat, by rw [Int.toNat_of_nonneg this.1], by omega⟩

theorem zip_all {P : Program} {tys : List Ty} {ts : List TypeId} (h : (tys.zip ts).all (fun x => tyIs P x.2 x.1) = true) : ∀ (i : Nat) (ty : Ty) (t : TypeId), tys[i]? = some ty → ts[i]? = some t → tyIs P t ty = true := by
  intro i ty t h1 h2
  have hm : (ty, t) ∈ tys.zip ts := List.mem_of_getElem? (i := i) (by rw [List.getElem?_zip_eq_some]; exact ⟨h1, h2⟩)
  exact (List.all_eq_true.1 h) _ hm
end Go.Ev

/- A global variable whose reading is known: its cells. -/
namespace Go.Ev
open Go Go.RowKit
set_option linter.unusedSimpArgs false
set_option linter.unusedVariables false

variable {P : Program} {w : World} {fm : Fm}

/-- The canonical cells of a datum of scalars. -/
def canD {H : Type} : Nat → DataW H → Option (List V)
  | _, .lit (.int k n) => some [.int k n]
  | _, .lit (.bool b) => some [.bool b]
  | _, .lit (.string s) => some [.str s]
  | k + 1, .agg ds => (ds.mapM (canD k)).map List.flatten
  | _, _ => none

section
variable {H : Type} {enc : TypeId × Value → H} {sp : Nat → Bool} {hd : Bool}

mutual
theorem open_can : ∀ {ty : Ty} {fuel k : Nat} {t : TypeId} {cs : List Value} {d : DataW H} {ps : List MemPlace} {vs : List V}, tyIs P t ty = true → DataW.trod enc P w 0 sp hd fuel t cs = some (d, ps) → canD k d = some vs →
    EncL (M0 fm) w vs cs
  | ty, 0, k, t, cs, d, ps, vs, _, h, _ => by simp [DataW.trod] at h
  | .int kd, fuel + 1, k, t, cs, d, ps, vs, ht, h, hc => by
    simp only [tyIs] at ht
    have hu := isInt_spec ht
    unfold DataW.trod at h
    rw [hu] at h
    split at h <;> try (simp_all; done)
    rename_i k0 k' n hk
    cases hk
    split at h
    case isFalse => cases h
    rename_i hw
    obtain ⟨rfl, hw⟩ := hw
    cases h
    simp only [canD, Option.some.injEq] at hc
    subst hc
    simp [EncL, Enc]
  | .bool, fuel + 1, k, t, cs, d, ps, vs, ht, h, hc => by
    simp only [tyIs] at ht
    have hu := isBool_spec ht
    unfold DataW.trod at h
    rw [hu] at h
    split at h <;> simp_all
    rename_i b
    obtain ⟨rfl, _⟩ := h
    simp only [canD, Option.some.injEq] at hc
    subst hc
    simp [EncL, Enc]
  | .str, fuel + 1, k, t, cs, d, ps, vs, ht, h, hc => by
    simp only [tyIs] at ht
    have hu := isStr_spec ht
    unfold DataW.trod at h
    rw [hu] at h
    split at h <;> simp_all
    rename_i s
    obtain ⟨_, rfl, _⟩ := h
    simp only [canD, Option.some.injEq] at hc
    subst hc
    simp [EncL, Enc]
  | .sl e, fuel + 1, k, t, cs, d, ps, vs, ht, h, hc => by
    simp only [tyIs] at ht
    split at ht
    case h_2 => cases ht
    rename_i el hu
    unfold DataW.trod at h
    rw [hu] at h
    split at h <;> try (simp_all; done)
    · cases h; cases k <;> simp [canD] at hc
    · rename_i el' a len cap hx
      cases hx
      simp only at h
      split at h
      case isFalse => cases h
      rw [Option.bind_eq_some_iff] at h
      obtain ⟨elems, hel, h⟩ := h
      rw [Option.map_eq_some_iff] at h
      obtain ⟨r, _, h⟩ := h
      cases h; cases k <;> simp [canD] at hc
  | .agg fs, fuel + 1, k, t, cs, d, ps, vs, ht, h, hc => by
    simp only [tyIs] at ht
    split at ht
    case h_2 => cases ht
    rename_i gs hu
    unfold DataW.trod at h
    rw [hu] at h
    simp only at h
    split at h
    case isFalse => cases h
    rename_i hlen
    rw [Option.map_eq_some_iff] at h
    obtain ⟨xs, hxs, h⟩ := h
    cases h
    cases k with
    | zero => simp [canD] at hc
    | succ k =>
      simp only [canD] at hc
      rw [Option.map_eq_some_iff] at hc
      obtain ⟨es, hes, rfl⟩ := hc
      simpa using open_cans (off := 0) ht hxs hlen hes
  | .arr n e, fuel + 1, k, t, cs, d, ps, vs, ht, h, hc => by
    simp only [tyIs] at ht
    split at ht
    case h_2 => cases ht
    rename_i m el hu
    simp only [Bool.and_eq_true, beq_iff_eq] at ht
    obtain ⟨⟨rfl, hsz⟩, ht⟩ := ht
    unfold DataW.trod at h
    rw [hu] at h
    simp only at h
    split at h
    case isFalse => cases h
    rename_i hlen
    rw [Option.map_eq_some_iff] at h
    obtain ⟨xs, hxs, h⟩ := h
    cases h
    cases k with
    | zero => simp [canD] at hc
    | succ k =>
      simp only [canD] at hc
      rw [Option.map_eq_some_iff] at hc
      obtain ⟨es, hes, rfl⟩ := hc
      have hl1 := mapM_some_length hxs
      have hl2 := mapM_some_length hes
      simp only [List.length_range, List.length_map] at hl1 hl2
      refine encL_chunks (c := P.cellsOf el) (by rw [hlen, hsz]; congr 1; omega) fun i x hx => ?_
      have hi : i < m := by have := (List.getElem?_eq_some_iff.1 hx).1; omega
      have h1 := mapM_some_get hxs i i (by rw [List.getElem?_range hi])
      cases he : xs[i]? with
      | none => rw [List.getElem?_eq_none_iff] at he; omega
      | some p =>
        rw [he] at h1
        obtain ⟨d', p'⟩ := p
        have h2 := mapM_some_get hes i d' (by rw [List.getElem?_map, he]; rfl)
        rw [hx] at h2
        exact open_can ht h1 h2
theorem open_cans : ∀ {fs : List Ty} {gs : List Field} {all off fuel k : Nat} {cs : List Value} {xs : List (DataW H × List MemPlace)} {es : List (List V)}, fieldsAre P all off gs fs = true →
    (gs.mapM fun f => DataW.trod enc P w 0 sp hd fuel f.type ((cs.drop f.offset).take (P.cellsOf f.type))) = some xs → cs.length = all → (xs.map (·.1)).mapM (canD k) = some es →
    EncL (M0 fm) w es.flatten (cs.drop off)
  | [], [], all, off, fuel, k, cs, xs, es, hf, h, hl, hc => by
    simp only [fieldsAre, beq_iff_eq] at hf
    simp at h; subst h
    simp at hc; subst hc
    simp only [List.flatten_nil, EncL]; rw [List.drop_eq_nil_iff]; omega
  | [], _ :: _, _, _, _, _, _, _, _, hf, _, _, _ => by simp [fieldsAre] at hf
  | _ :: _, [], _, _, _, _, _, _, _, hf, _, _, _ => by simp [fieldsAre] at hf
  | t :: ts, g :: gs, all, off, fuel, k, cs, xs, es, hf, h, hl, hc => by
    simp only [fieldsAre, Bool.and_eq_true, beq_iff_eq] at hf
    obtain ⟨⟨hoff, hty⟩, hf⟩ := hf
    rw [List.mapM_cons] at h
    simp only [Option.bind_eq_bind, Option.bind_eq_some_iff] at h
    obtain ⟨x, hx, ys, hys, h⟩ := h
    simp only [Option.pure_def, Option.some.injEq] at h
    subst h
    rw [List.map_cons, List.mapM_cons] at hc
    simp only [Option.bind_eq_bind, Option.bind_eq_some_iff] at hc
    obtain ⟨a, ha, bs, hbs, hc⟩ := hc
    simp only [Option.pure_def, Option.some.injEq] at hc
    subst hc
    obtain ⟨d, p⟩ := x
    have h1 := open_can hty hx ha
    have h2 := open_cans hf hys hl hbs
    rw [hoff] at h1
    rw [← List.drop_drop] at h2
    rw [List.flatten_cons]
    exact encL_take_drop (k := P.cellsOf g.type) h1 h2
end
end

/-- One laid variable. -/
theorem gok_one {n : String} {d : DataW Unit} {g0 : Nat} {t0 : TypeId} {ty : Ty} {cs : List V} (h : laidMetH P [(n, d)] w) (hp : ([(n, d)].all fun x => x.2.handleName?.isNone) = true) (hg0 : P.globalNamed n = some g0) (ht0 : (P.globals[g0]?).map (·.type) = some t0)
    (hty : tyIs P t0 ty = true) {k : Nat} (hc : canD k d = some cs) (hpu : ∀ c ∈ cs, c.pure = true) (hfm : ∀ g c, fm.gl g = some c → g = g0 ∧ c = cs) : GOk (M0 fm) w := by
  rw [MakeChecks.laidMetH_plain _ _ _ hp] at h
  obtain ⟨ps, ⟨g, t, cs0, fuel, p, q, hg, ht, hv, hd, _, _⟩, _, _⟩ := h
  obtain rfl := Option.some.inj (hg0.symm.trans hg)
  obtain rfl := Option.some.inj (ht0.symm.trans ht)
  have he := open_can (fm := fm) hty hd hc
  intro g1 c hgc
  obtain ⟨e1, rfl⟩ := hfm g1 c hgc
  rw [e1]
  simp only [Enc]
  refine ⟨hpu, _, 0, rfl, encRow_of fun i c' hc' => ?_⟩
  obtain ⟨x, hx, hex⟩ := encL_get he hc'
  have hcell := World.var?_cell hg0 hv i
  refine ⟨x, ?_, fun l hl => by simp [M0] at hl, hex⟩
  rw [Nat.zero_add, hcell]
  simpa using hx

end Go.Ev
