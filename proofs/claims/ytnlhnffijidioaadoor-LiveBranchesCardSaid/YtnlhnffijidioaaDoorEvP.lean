/- A law's row: arguments that read as data are canonical, and read behind the call as they read before. -/
import Derived.Test.YtnlhnffijidioaaDoorEvT
import Derived.OpenShut
import Derived.ChangeShapes
import Derived.WideShapes
import Derived.Carry
namespace Go.Ev
open Go Go.RowKit Go.ChangeShapes Go.WideShapes
variable {P : Program} {fm : Fm} {w : World} {Hh : Type} {enc : TypeId × Value → Hh}

/-- A canonical argument of a shape. -/
def ArgIs : Ty → V → Prop
  | .agg fs, v => ∃ cs, v = .agg cs ∧ HasTy (.agg fs) cs
  | .arr n e, v => ∃ cs, v = .agg cs ∧ HasTy (.arr n e) cs
  | t, v => HasTy t [v]
def ArgsAre : List Ty → List V → Prop
  | [], vs => vs = []
  | t :: ts, vs => ∃ v r, vs = v :: r ∧ ArgIs t v ∧ ArgsAre ts r

theorem one_cell {v : Value} {c : V} (h : EncL (M0 fm) w [c] v.cells.toList) (hv : ∀ cs, v ≠ .agg cs) (ht : ∀ cs, v ≠ .tuple cs) : Enc (M0 fm) w c v := by
  simp only [EncL] at h
  obtain ⟨x, xs', hx, h1, h2⟩ := h
  subst h2
  have : v.cells = #[v] := by cases v <;> first | rfl | (exact absurd rfl (hv _)) | (exact absurd rfl (ht _))
  rw [this] at hx
  simp at hx
  subst hx
  exact h1

theorem open_arg {b0 : Nat} {ty : Ty} {t : TypeId} {v : Value} {d : DataW Hh} {ps : List MemPlace} (ht : tyIs P t ty = true) (hv : Value.okWide P w .any b0 t v) (hd : DataW.Trod enc P w 0 (fun _ => true) true t v d ps) :
    ∃ c, ArgIs ty c ∧ Enc (M0 fm) w c v := by
  obtain ⟨fuel, hd⟩ := hd
  obtain ⟨cs, hc, he⟩ := open_ty (fm := fm) ht hd
  cases ty with
  | int k =>
    obtain ⟨n, rfl⟩ := okWide_int (isInt_spec (by simpa only [tyIs] using ht)) hv
    simp only [HasTy] at hc
    obtain ⟨m, rfl, hw⟩ := hc
    exact ⟨_, ⟨m, rfl, hw⟩, one_cell he (by simp) (by simp)⟩
  | bool =>
    obtain ⟨n, rfl⟩ := okWide_bool (isBool_spec (by simpa only [tyIs] using ht)) hv
    simp only [HasTy] at hc
    obtain ⟨m, rfl⟩ := hc
    exact ⟨_, ⟨m, rfl⟩, one_cell he (by simp) (by simp)⟩
  | str =>
    obtain ⟨n, rfl⟩ := okWide_string (isStr_spec (by simpa only [tyIs] using ht)) hv
    simp only [HasTy] at hc
    obtain ⟨m, rfl, hw⟩ := hc
    exact ⟨_, ⟨m, rfl, hw⟩, one_cell he (by simp) (by simp)⟩
  | sl e =>
    simp only [tyIs] at ht
    split at ht
    case h_2 => cases ht
    rename_i el hu
    obtain ⟨a, len, cap, rfl⟩ := okWide_slice hu hv
    simp only [HasTy] at hc
    obtain ⟨es, rfl, h1, h2⟩ := hc
    exact ⟨_, ⟨es, rfl, h1, h2⟩, one_cell he (by simp) (by simp)⟩
  | agg fs =>
    have hp : ∀ c ∈ cs, c.scal = true := fun c hx => V.scal_of_pure (HasTy.pure hc c hx)
    simp only [tyIs] at ht
    split at ht
    case h_2 => cases ht
    rename_i gs hu
    unfold Value.okWide at hv
    rw [hu] at hv
    obtain ⟨xs, rfl, _, _⟩ := hv
    refine ⟨.agg cs, ⟨cs, rfl, hc⟩, ?_⟩
    simp only [Enc]
    exact ⟨hp, xs.toList, by simp, he⟩
  | arr n e =>
    have hp : ∀ c ∈ cs, c.scal = true := fun c hx => V.scal_of_pure (HasTy.pure hc c hx)
    simp only [tyIs] at ht
    split at ht
    case h_2 => cases ht
    rename_i m el hu
    unfold Value.okWide at hv
    rw [hu] at hv
    obtain ⟨xs, rfl, _, _⟩ := hv
    refine ⟨.agg cs, ⟨cs, rfl, hc⟩, ?_⟩
    simp only [Enc]
    exact ⟨hp, xs.toList, by simp, he⟩

/-- All arguments. -/
theorem open_args {b0 : Nat} : ∀ {tys : List Ty} {ts : List TypeId} {vs : List Value} {ds : List (DataW Hh)} {ps : List MemPlace}, (∀ (i : Nat) (ty : Ty) (t : TypeId), tys[i]? = some ty → ts[i]? = some t → tyIs P t ty = true) → tys.length = ts.length →
    (∀ (j : Nat) t v, ts[j]? = some t → vs[j]? = some v → Value.okWide P w .any b0 t v) → DataW.TrodAll enc P w 0 (fun _ => true) true ts vs ds ps →
    ∃ cs, ArgsAre tys cs ∧ EncL (M0 fm) w cs vs
  | [], [], vs, ds, ps, _, _, _, h => by
    obtain ⟨rfl, rfl, rfl⟩ := trodAll_nil h
    exact ⟨[], by simp only [ArgsAre], by simp only [EncL]⟩
  | ty :: tys, t :: ts, vs, ds, ps, ht, hl, hv, h => by
    obtain ⟨v, vs', d, ds', p, q, rfl, rfl, rfl, h1, h2⟩ := trodAll_cons h
    obtain ⟨c, hc, he⟩ := open_arg (fm := fm) (ht 0 ty t rfl rfl) (hv 0 t v rfl rfl) h1
    obtain ⟨cs, hcs, hes⟩ := open_args (tys := tys) (fun i a b h3 h4 => ht (i + 1) a b (by simpa using h3) (by simpa using h4)) (by simpa using hl) (fun j a b h3 h4 => hv (j + 1) a b (by simpa using h3) (by simpa using h4)) h2
    refine ⟨c :: cs, ?_, ?_⟩
    · simp only [ArgsAre]; exact ⟨c, cs, rfl, hc, hcs⟩
    · simp only [EncL]; exact ⟨v, vs', rfl, he, hes⟩
  | [], _ :: _, _, _, _, _, hl, _, _ => by simp at hl
  | _ :: _, [], _, _, _, _, hl, _, _ => by simp at hl

/-- They read as before. -/
theorem shut_args (hl : laidOutB P = true) : ∀ {ts : List TypeId} {vs : List Value} {ds : List (DataW Hh)} {ps : List MemPlace} {W' : World}, (ts.all fun t => P.readableRec t && decide (t < P.types.size)) = true → Below w.heap.size w W' →
    DataW.TrodAll enc P w 0 (fun _ => true) true ts vs ds ps → ∃ ps', DataW.TrodAll enc P W' 0 (fun b => decide (b < w.heap.size)) true ts vs ds ps'
  | [], vs, ds, ps, W', _, _, h => by
    obtain ⟨rfl, rfl, rfl⟩ := trodAll_nil h
    exact ⟨[], trodAll_mk0⟩
  | t :: ts, vs, ds, ps, W', hr, hb, h => by
    obtain ⟨v, vs', d, ds', p, q, rfl, rfl, rfl, h1, h2⟩ := trodAll_cons h
    simp only [List.all_cons, Bool.and_eq_true, decide_eq_true_eq] at hr
    obtain ⟨q', h3⟩ := shut_args hl hr.2 hb h2
    have lt : ∀ x ∈ p, x.block < w.heap.size := by obtain ⟨m, hm⟩ := h1; exact DataW.trod_lt m _ _ _ hm
    exact ⟨_, trodAll_cons_mk (Below.trod hl hr.1.1 hr.1.2 h1 hb lt) h3⟩

theorem out_bool {v : V} {b : Bool} (h : v.out = .bool b) : v = .bool b := by
  unfold V.out at h
  cases v <;> simp only [V.cl] at h
  case bool => exact h
  case ptr id off => rw [if_neg (by omega)] at h; cases h
  case rs id off n sz => rw [if_neg (by omega)] at h; cases h
  all_goals cases h
theorem out_true {H' : Heap} {r : V} (h : (frz H' r).out = .bool true) : r = .bool true := by
  have h := out_bool h
  cases r <;> simp only [frz, frz1] at h <;> first | exact h | (cases h; done) | skip
  split at h
  · split at h <;> cases h
  · cases h

/-- A law that holds of canonical arguments: the model's run. -/
theorem law_calls (g : GOk (M0 fm) w) {G : Tbl} (hG : ∀ f fn, G f = some fn → chkFn P fm (fm f) fn = true) {f : Nat} {args : List V} (h : FP G f args (.bool true)) {vargs : List Value} (he : EncL (M0 fm) w args vargs) :
    Calls P (fm f) vargs.toArray w fun e w' => e = .returned (.bool true) ∧ Below w.heap.size w w' := by
  obtain ⟨r', H', hb, hr⟩ := h
  have hr := out_true hr
  subst hr
  have := (sound hG hb).2 (M0 fm) w vargs rfl (hrel0 fm w g) he
  refine this.2.mono ?_
  rintro e w' ⟨rv, M', rfl, hrv, hs, _, _⟩
  simp only [Enc] at hrv
  subst hrv
  refine ⟨rfl, hs.os, hs.tape, hs.output, hs.size, fun k hk => hs.same k hk ?_⟩
  rintro ⟨id, hid⟩
  simp [blOf] at hid
end Go.Ev
