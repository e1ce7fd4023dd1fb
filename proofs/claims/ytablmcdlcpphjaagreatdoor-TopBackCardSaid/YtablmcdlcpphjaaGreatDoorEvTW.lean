/- Counting loops, and small words. -/
import Derived.Test.YtablmcdlcpphjaaGreatDoorEvSrcCW
import Derived.OpenShut
import Derived.ChangeShapes
import Derived.WideShapes
import Derived.Carry
set_option linter.unusedVariables false
set_option linter.unusedSimpArgs false
namespace Go.Ev
open Go Go.RowKit
set_option linter.unusedVariables false
set_option linter.unusedSimpArgs false
variable {G : Tbl} {K : List Kt} {e : Env} {H : Heap} {Q : Ex → Env → Heap → Prop}
def QU (G : Tbl) (K : List Kt) (Q : Ex → Env → Heap → Prop) (l : List Nat) (k N : Nat) (E : Nat → List (Nat × V)) (B : Nat → Heap) (P : Nat → Prop) (n : Nat) (x : Ex) (e1 : Env) (H1 : Heap) : Prop :=
 match x with
 | .nx => n < N ∧ P (n + 1) ∧ (keepE l e1).cl k = mkE (E (n + 1)) ∧ trunc k H1 = B (n + 1)
 | x => Wr G x K e1 H1 Q
section
variable {l : List Nat} {k N : Nat} {E : Nat → List (Nat × V)} {B : Nat → Heap} {P : Nat → Prop} {n : Nat}
@[simp] theorem QU_nx : QU G K Q l k N E B P n .nx e H = (n < N ∧ P (n + 1) ∧ (keepE l e).cl k = mkE (E (n + 1)) ∧ trunc k H = B (n + 1)) := rfl
@[simp] theorem QU_exit (i : Nat) : QU G K Q l k N E B P n (.exit i) e H = Wr G (.exit i) K e H Q := rfl
@[simp] theorem QU_ret : QU G K Q l k N E B P n .ret e H = Wr G .ret K e H Q := rfl
end
theorem W_up {l : List Nat} {c : SCode} (N : Nat) (E : Nat → List (Nat × V)) (B : Nat → Heap) (P : Nat → Prop)
  (h0 : P 0 ∧ (keepE l e).cl H.length = mkE (E 0) ∧ trunc H.length H = B 0)
  (hr : ∀ n, n ≤ N → P n → W G c [] (mkE (E n)) (B n) (QU G K Q l H.length N E B P n)) : W G (.loop l c) K e H Q := by
 refine W_loop (fun k e H => ∃ n, n ≤ N ∧ k = N - n ∧ P n ∧ e = mkE (E n) ∧ H = B n) N ⟨0, by omega, by omega, h0.1, h0.2.1, h0.2.2⟩ ?_
 rintro k e' H' ⟨n, hn, rfl, hp, rfl, rfl⟩
 obtain ⟨x, e1, H1, hb, hq⟩ := hr n hn hp
 refine ⟨x, e1, H1, hb, ?_⟩
 cases x with
 | nx => obtain ⟨h1, h2, h3, h4⟩ := hq; exact ⟨N - (n + 1), by omega, n + 1, h1, rfl, h2, h3, h4⟩
 | exit id => exact hq
 | ret => exact hq
def Nx {S : Type} (m : S → Nat) (E : S → List (Nat × V)) (B : S → Heap) (P : S → Prop) (l : List Nat) (k : Nat) (s : S) (e1 : Env) (H1 : Heap) : Prop :=
 ∃ s', m s' < m s ∧ P s' ∧ (keepE l e1).cl k = mkE (E s') ∧ trunc k H1 = B s'
def QS {S : Type} (G : Tbl) (K : List Kt) (Q : Ex → Env → Heap → Prop) (l : List Nat) (k : Nat) (m : S → Nat) (E : S → List (Nat × V)) (B : S → Heap) (P : S → Prop) (s : S) (x : Ex) (e1 : Env) (H1 : Heap) : Prop :=
 match x with
 | .nx => Nx m E B P l k s e1 H1
 | x => Wr G x K e1 H1 Q
section
variable {l : List Nat} {k : Nat} {S : Type} {m : S → Nat} {E : S → List (Nat × V)} {B : S → Heap} {P : S → Prop} {s : S}
@[simp] theorem QS_nx : QS G K Q l k m E B P s .nx e H = Nx m E B P l k s e H := rfl
@[simp] theorem QS_exit (i : Nat) : QS G K Q l k m E B P s (.exit i) e H = Wr G (.exit i) K e H Q := rfl
@[simp] theorem QS_ret : QS G K Q l k m E B P s .ret e H = Wr G .ret K e H Q := rfl
end
theorem W_state {l : List Nat} {c : SCode} {S : Type} (m : S → Nat) (E : S → List (Nat × V)) (B : S → Heap) (P : S → Prop) (s0 : S)
  (h0 : P s0 ∧ (keepE l e).cl H.length = mkE (E s0) ∧ trunc H.length H = B s0)
  (hr : ∀ s, P s → W G c [] (mkE (E s)) (B s) (QS G K Q l H.length m E B P s)) : W G (.loop l c) K e H Q := by
 refine W_loop (fun k e H => ∃ s, k = m s ∧ P s ∧ e = mkE (E s) ∧ H = B s) (m s0) ⟨s0, rfl, h0.1, h0.2.1, h0.2.2⟩ ?_
 rintro k e' H' ⟨s, rfl, hp, rfl, rfl⟩
 obtain ⟨x, e1, H1, hb, hq⟩ := hr s hp
 refine ⟨x, e1, H1, hb, ?_⟩
 cases x with
 | nx => obtain ⟨s', h1, h2, h3, h4⟩ := hq; exact ⟨m s', h1, s', rfl, h2, h3, h4⟩
 | exit id => exact hq
 | ret => exact hq
theorem FPx_of {f nt : Nat} {body : SCode} {res : List ResV} {args : List V} {R : V → Prop} (hg : G f = some ⟨nt, body, res⟩) (hl : args.length ≤ nt)
  (h : W G body [] (mkE (idxE 0 args)) [] (QF res R)) : ∃ r, FP G f args r ∧ R r := by
 obtain ⟨x, e1, H1, hb, hx, vs, hv, hr⟩ := h
 exact ⟨_, FP_of hg hl ⟨x, e1, H1, hb, hx, vs, hv, rfl⟩, hr⟩
theorem addN {a b : Nat} (h : a + b ≤ 9223372036854775807) : addI .i64 (a : Int) (b : Int) = ((a + b : Nat) : Int) := by rw [addI64 (by omega) (by omega)]; omega
/-! Comparisons that omega decides: for simp with (disch := omega). -/
theorem ltT {a b : Int} (h : a < b) : (a < b) = True := eq_true h
theorem ltF {a b : Int} (h : ¬ a < b) : (a < b) = False := eq_false h
theorem leF {a b : Int} (h : ¬ a ≤ b) : (a ≤ b) = False := eq_false h
theorem eqT {a b : Int} (h : a = b) : (a = b) = True := eq_true h
theorem eqF {a b : Int} (h : ¬ a = b) : (a = b) = False := eq_false h
theorem add1' {a : Nat} (h : a + 1 ≤ 9223372036854775807) : addI .i64 (a : Int) 1 = ((a + 1 : Nat) : Int) := by rw [addI64] <;> omega
theorem sub1' {a : Nat} (h : 0 < a ∧ a ≤ 9223372036854775807) : subI .i64 (a : Int) 1 = ((a - 1 : Nat) : Int) := by rw [subI64] <;> omega
@[simp] theorem natInj {a b : Nat} : ((a : Int) = (b : Int)) = (a = b) := propext Int.ofNat_inj
theorem shl32 {a j : Nat} (hj : j ≤ 32) : shlI .u32 (a : Int) (j : Int) = ((a * 2 ^ j % 4294967296 : Nat) : Int) := by
 unfold shlI
 have : min ((j : Int)).toNat IntKind.u32.bits = j := by simp only [Int.toNat_natCast, IntKind.bits]; omega
 rw [this]
 show (((a : Int) * 2 ^ j) % 4294967296 : Int) = _
 rw [Int.natCast_emod, Int.natCast_mul, Int.natCast_pow]
 rfl
theorem rem64 {a b : Nat} : remI (a : Int) (b : Int) = ((a % b : Nat) : Int) := by
 unfold remI
 rw [Int.tmod_eq_emod_of_nonneg (by omega), Int.natCast_emod]
@[simp] theorem ints_take_len (k : IntKind) (l : List Int) : (ints k l).take l.length = ints k l := by rw [List.take_of_length_le]; simp
@[simp] theorem nats_take_len (k : IntKind) (l : List Nat) : (nats k l).take l.length = nats k l := by rw [List.take_of_length_le]; simp
theorem ltTn {a b : Nat} (h : a < b) : (a < b) = True := eq_true h
theorem bneT {a b : Int} (h : ¬ a = b) : (a != b) = true := by simp [h]
theorem bneF {a b : Int} (h : a = b) : (a != b) = false := by simp [h]
theorem beqT {a b : Int} (h : a = b) : (a == b) = true := by simp [h]
theorem beqF {a b : Int} (h : ¬ a = b) : (a == b) = false := by simp [h]
theorem leTn {a b : Nat} (h : a ≤ b) : (a ≤ b) = True := eq_true h
theorem leFn {a b : Nat} (h : ¬ a ≤ b) : (a ≤ b) = False := eq_false h
theorem beqI (a b : Int) : (a == b) = decide (a = b) := by rw [Bool.eq_iff_iff]; simp
theorem get_in {α : Type} {l : List α} {i : Nat} (h : i < l.length) : l[i]? = some l[i] := List.getElem?_eq_getElem h
end Go.Ev
/- A law's row: arguments that read as data are canonical, and read behind the call as they read before. -/
namespace Go.Ev
open Go Go.RowKit Go.ChangeShapes Go.WideShapes
variable {P : Program} {fm : Fm} {w : World} {Hh : Type} {enc : TypeId × Value → Hh}
def ArgIs : Ty → V → Prop
 | .agg fs, v => ∃ cs, v = .agg cs ∧ HasTy (.agg fs) cs
 | .arr n e, v => ∃ cs, v = .agg cs ∧ HasTy (.arr n e) cs
 | t, v => HasTy t [v]
def ArgsAre : List Ty → List V → Prop
 | [], vs => vs = []
 | t :: ts, vs => ∃ v r, vs = v :: r ∧ ArgIs t v ∧ ArgsAre ts r
theorem one_cell {v : Value} {c : V} (h : EncL (M0 fm) w [c] v.cells.toList) (hv : ∀ cs, v ≠ .agg cs) (ht : ∀ cs, v ≠ .tuple cs) : Enc (M0 fm) w c v := by
 simp only [EncL] at h
 obtain ⟨x, xs', hx, h1, h2⟩ := h
 subst h2
 have : v.cells = #[v] := by cases v <;> first | rfl | (exact absurd rfl (hv _)) | (exact absurd rfl (ht _))
 rw [this] at hx
 simp at hx
 subst hx
 exact h1
theorem open_arg {b0 : Nat} {ty : Ty} {t : TypeId} {v : Value} {d : DataW Hh} {ps : List MemPlace} (ht : tyIs P t ty = true) (hv : Value.okWide P w .any b0 t v) (hd : DataW.Trod enc P w 0 (fun _ => true) true t v d ps) :
  ∃ c, ArgIs ty c ∧ Enc (M0 fm) w c v := by
 obtain ⟨fuel, hd⟩ := hd
 obtain ⟨cs, hc, he⟩ := open_ty (fm := fm) ht hd
 cases ty with
 | int k =>
  obtain ⟨n, rfl⟩ := okWide_int (isInt_spec (by simpa only [tyIs] using ht)) hv
  simp only [HasTy] at hc
  obtain ⟨m, rfl, hw⟩ := hc
  exact ⟨_, ⟨m, rfl, hw⟩, one_cell he (by simp) (by simp)⟩
 | bool =>
  obtain ⟨n, rfl⟩ := okWide_bool (isBool_spec (by simpa only [tyIs] using ht)) hv
  simp only [HasTy] at hc
  obtain ⟨m, rfl⟩ := hc
  exact ⟨_, ⟨m, rfl⟩, one_cell he (by simp) (by simp)⟩
 | str =>
  obtain ⟨n, rfl⟩ := okWide_string (isStr_spec (by simpa only [tyIs] using ht)) hv
  simp only [HasTy] at hc
  obtain ⟨m, rfl, hw⟩ := hc
  exact ⟨_, ⟨m, rfl, hw⟩, one_cell he (by simp) (by simp)⟩
 | sl e =>
  simp only [tyIs] at ht
  split at ht
  case h_2 => cases ht
  rename_i el hu
  obtain ⟨a, len, cap, rfl⟩ := okWide_slice hu hv
  simp only [HasTy] at hc
  obtain ⟨es, rfl, h1, h2⟩ := hc
  exact ⟨_, ⟨es, rfl, h1, h2⟩, one_cell he (by simp) (by simp)⟩
 | agg fs =>
  have hp : ∀ c ∈ cs, c.scal = true := fun c hx => V.scal_of_pure (HasTy.pure hc c hx)
  simp only [tyIs] at ht
  split at ht
  case h_2 => cases ht
  rename_i gs hu
  unfold Value.okWide at hv
  rw [hu] at hv
  obtain ⟨xs, rfl, _, _⟩ := hv
  refine ⟨.agg cs, ⟨cs, rfl, hc⟩, ?_⟩
  simp only [Enc]
  exact ⟨hp, xs.toList, by simp, he⟩
 | arr n e =>
  have hp : ∀ c ∈ cs, c.scal = true := fun c hx => V.scal_of_pure (HasTy.pure hc c hx)
  simp only [tyIs] at ht
  split at ht
  case h_2 => cases ht
  rename_i m el hu
  unfold Value.okWide at hv
  rw [hu] at hv
  obtain ⟨xs, rfl, _, _⟩ := hv
  refine ⟨.agg cs, ⟨cs, rfl, hc⟩, ?_⟩
  simp only [Enc]
  exact ⟨hp, xs.toList, by simp, he⟩
theorem open_args {b0 : Nat} : ∀ {tys : List Ty} {ts : List TypeId} {vs : List Value} {ds : List (DataW Hh)} {ps : List MemPlace}, (∀ (i : Nat) (ty : Ty) (t : TypeId), tys[i]? = some ty → ts[i]? = some t → tyIs P t ty = true) → tys.length = ts.length →
  (∀ (j : Nat) t v, ts[j]? = some t → vs[j]? = some v → Value.okWide P w .any b0 t v) → DataW.TrodAll enc P w 0 (fun _ => true) true ts vs ds ps →
  ∃ cs, ArgsAre tys cs ∧ EncL (M0 fm) w cs vs
 | [], [], vs, ds, ps, _, _, _, h => by
  obtain ⟨rfl, rfl, rfl⟩ := trodAll_nil h
  exact ⟨[], by simp only [ArgsAre], by simp only [EncL]⟩
 | ty :: tys, t :: ts, vs, ds, ps, ht, hl, hv, h => by
  obtain ⟨v, vs', d, ds', p, q, rfl, rfl, rfl, h1, h2⟩ := trodAll_cons h
  obtain ⟨c, hc, he⟩ := open_arg (fm := fm) (ht 0 ty t rfl rfl) (hv 0 t v rfl rfl) h1
  obtain ⟨cs, hcs, hes⟩ := open_args (tys := tys) (fun i a b h3 h4 => ht (i + 1) a b (by simpa using h3) (by simpa using h4)) (by simpa using hl) (fun j a b h3 h4 => hv (j + 1) a b (by simpa using h3) (by simpa using h4)) h2
  refine ⟨c :: cs, ?_, ?_⟩
  ·simp only [ArgsAre]; exact ⟨c, cs, rfl, hc, hcs⟩
  ·simp only [EncL]; exact ⟨v, vs', rfl, he, hes⟩
 | [], _ :: _, _, _, _, _, hl, _, _ => by simp at hl
 | _ :: _, [], _, _, _, _, hl, _, _ => by simp at hl
theorem shut_args (hl : laidOutB P = true) : ∀ {ts : List TypeId} {vs : List Value} {ds : List (DataW Hh)} {ps : List MemPlace} {W' : World}, (ts.all fun t => P.readableRec t && decide (t < P.types.size)) = true → Below w.heap.size w W' →
  DataW.TrodAll enc P w 0 (fun _ => true) true ts vs ds ps → ∃ ps', DataW.TrodAll enc P W' 0 (fun b => decide (b < w.heap.size)) true ts vs ds ps'
 | [], vs, ds, ps, W', _, _, h => by
  obtain ⟨rfl, rfl, rfl⟩ := trodAll_nil h
  exact ⟨[], trodAll_mk0⟩
 | t :: ts, vs, ds, ps, W', hr, hb, h => by
  obtain ⟨v, vs', d, ds', p, q, rfl, rfl, rfl, h1, h2⟩ := trodAll_cons h
  simp only [List.all_cons, Bool.and_eq_true, decide_eq_true_eq] at hr
  obtain ⟨q', h3⟩ := shut_args hl hr.2 hb h2
  have lt : ∀ x ∈ p, x.block < w.heap.size := by obtain ⟨m, hm⟩ := h1; exact DataW.trod_lt m _ _ _ hm
  exact ⟨_, trodAll_cons_mk (Below.trod hl hr.1.1 hr.1.2 h1 hb lt) h3⟩
theorem out_bool {v : V} {b : Bool} (h : v.out = .bool b) : v = .bool b := by
 unfold V.out at h
 cases v <;> simp only [V.cl] at h
 case bool => exact h
 case ptr id off => rw [if_neg (by omega)] at h; cases h
 case rs id off n sz => rw [if_neg (by omega)] at h; cases h
 all_goals cases h
theorem out_true {H' : Heap} {r : V} (h : (frz H' r).out = .bool true) : r = .bool true := by
 have h := out_bool h
 cases r <;> simp only [frz, frz1] at h <;> first | exact h | (cases h; done) | skip
 split at h
 ·split at h <;> cases h
 ·cases h
/-! What rounds are checked by is nothing that the checker looks at. -/
section
variable (c : Nat → SCode → Code → Prop)
theorem chkX_chk : chkX { fm with chk := c } = chkX fm := rfl
theorem chkXs_chk : chkXs { fm with chk := c } = chkXs fm := by
 funext o
 induction o with
 | nil => funext x; cases x <;> simp only [chkXs]
 | cons a o ih => funext x; cases x <;> simp only [chkXs, chkX_chk, ih]
theorem chkXo_chk : chkXo { fm with chk := c } = chkXo fm := by
 funext o x
 cases o <;> cases x <;> simp only [chkXo, chkX_chk]
theorem chkParts_chk : chkParts { fm with chk := c } = chkParts fm := by
 funext pl o
 induction o with
 | nil => funext x; cases x <;> simp only [chkParts]
 | cons a o ih => funext x; cases x <;> simp only [chkParts, chkX_chk, ih]
theorem chk1_chk : chk1 P { fm with chk := c } = chk1 P fm := by
 funext o s
 unfold chk1
 simp only [chkX_chk, chkXs_chk, chkXo_chk, chkParts_chk]
theorem chkCall_chk : chkCall { fm with chk := c } = chkCall fm := by
 funext o s
 unfold chkCall
 simp only [chkX_chk, chkXs_chk]
theorem chkOper_chk : chkOper P { fm with chk := c } = chkOper P fm := by
 funext n ops o s
 unfold chkOper
 simp only [chk1_chk, chkCall_chk]
theorem chkOpers_chk : chkOpers P { fm with chk := c } = chkOpers P fm := by
 funext n ops os
 induction os with
 | nil => funext x; cases x <;> simp only [chkOpers]
 | cons a o ih => funext x; cases x <;> simp only [chkOpers, chkOper_chk, ih]
theorem chkC_chk (rd : Bool) (n : Nat) (s : SCode) (k : Code) : chkC P { fm with chk := c } rd n s k = chkC P fm rd n s k := by
 fun_induction chkC P fm rd n s k <;> simp_all [chkC, chkX_chk, chkOpers_chk]
theorem chkFn_chk (fid : FuncId) (fn : SFn) : chkFn P { fm with chk := c } fid fn = chkFn P fm fid fn := by
 unfold chkFn
 simp only [chkC_chk]
end
def NatOk (P : Program) (fm : Fm) (f k : Nat) : Prop := ∀ c args H r H', natR k args H r H' → FOK P { fm with chk := c } f args H r H'
def FnOk (P : Program) (fm : Fm) (f : Nat) (fn : SFn) : Prop := chkFn P fm (fm f) fn = true ∨ ∃ k, fn.body = .nat k ∧ NatOk P fm f k
theorem law_callsN (g : GOk (M0 fm) w) {G : Tbl} (hG : ∀ f fn, G f = some fn → FnOk P fm f fn) {f : Nat} {args : List V} (h : FP G f args (.bool true)) {vargs : List Value} (he : EncL (M0 fm) w args vargs) :
  Calls P (fm f) vargs.toArray w fun e w' => e = .returned (.bool true) ∧ Below w.heap.size w w' := by
 obtain ⟨r', H', hb, hr⟩ := h
 have hr := out_true hr
 subst hr
 obtain ⟨fm2, hfm2⟩ : ∃ fm2 : Fm, fm2 = { fm with chk := fun n s c => chkC P fm true n s c = true } := ⟨_, rfl⟩
 have hck : fm2.chk = fun n s c => chkC P fm2 true n s c = true := by
  subst hfm2
  funext n s c
  rw [chkC_chk]
 have hG2 : ∀ f fn, G f = some fn → chkFn P fm2 (fm2 f) fn = true ∨ ∃ k, fn.body = .nat k ∧ ∀ args H r H', natR k args H r H' → FOK P fm2 f args H r H' := by
  subst hfm2
  intro f fn h
  rcases hG f fn h with h | ⟨k, hk, h⟩
  ·exact .inl ((chkFn_chk _ _ _).trans h)
  ·exact .inr ⟨k, hk, h _⟩
 have hfn : ∀ f, fm2 f = fm f := by subst hfm2; exact fun f => rfl
 have g2 : GOk (M0 fm2) w := by subst hfm2; exact fun g' cs h => Enc.free (M1 := M0 fm) (M2 := M0 { fm with chk := fun n s c => chkC P fm true n s c = true }) (fun _ => rfl) (fun _ _ rd => rd) (fun _ => rfl) (g g' cs h)
 have he2 : EncL (M0 fm2) w args vargs := EncL.free (M1 := M0 fm) (M2 := M0 fm2) (fun _ => rfl) (fun _ _ rd => rd) hfn he
 have := (sound hck hG2 hb).2 (M0 fm2) w vargs rfl (hrel0 fm2 w g2) he2
 rw [hfn] at this
 refine this.2.mono ?_
 rintro e w' ⟨rv, M', rfl, hrv, hs, _, _⟩
 simp only [Enc] at hrv
 subst hrv
 refine ⟨rfl, hs.os, hs.tape, hs.output, hs.size, fun k hk => hs.same k hk ?_⟩
 rintro ⟨id, hid⟩
 simp [blOf] at hid
end Go.Ev
