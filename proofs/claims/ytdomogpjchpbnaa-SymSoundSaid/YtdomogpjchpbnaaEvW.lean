/- Stepping through simplified code: equations for simp. -/
import Derived.Test.YtdomogpjchpbnaaEvO
namespace Go.Ev
open Go Go.RowKit
set_option linter.unusedSimpArgs false
set_option linter.unusedVariables false

abbrev Tbl := Nat → Option SFn
/-- So many cells alike. -/
def rep (n : Nat) (v : V) : List V := List.replicate n v

/-- An environment as a list. -/
def mkE : List (Nat × V) → Env
  | [] => fun _ => .undef
  | (d, v) :: l => fun i => if i = d then v else mkE l i
@[simp] theorem mkE_nil (i : Nat) : mkE [] i = .undef := rfl
@[simp] theorem mkE_cons (d : Nat) (v : V) (l : List (Nat × V)) (i : Nat) : mkE ((d, v) :: l) i = if i = d then v else mkE l i := rfl
@[simp] theorem mkE_put (l : List (Nat × V)) (d : Nat) (v : V) : (mkE l).put (some d) v = mkE ((d, v) :: l) := rfl
@[simp] theorem mkE_put_none (l : List (Nat × V)) (v : V) : (mkE l).put none v = mkE l := rfl

/-- The temporaries that are kept, looked up. -/
def look (e : Env) : List Nat → List (Nat × V)
  | [] => []
  | i :: l => (i, e i) :: look e l
@[simp] theorem look_nil (e : Env) : look e [] = [] := rfl
@[simp] theorem look_cons (e : Env) (i : Nat) (l : List Nat) : look e (i :: l) = (i, e i) :: look e l := rfl
theorem look_get (e : Env) : ∀ (l : List Nat) (i : Nat), mkE (look e l) i = if i ∈ l then e i else .undef
  | [], i => by simp [look]
  | j :: l, i => by
    simp only [look, mkE_cons, look_get e l i, List.mem_cons]
    by_cases h : i = j
    · subst h; simp
    · simp [h]
theorem keepE_eq (l : List Nat) (e : Env) : keepE l e = mkE (look e l) := by
  funext i
  rw [look_get]
  rfl
def clE (n : Nat) : List (Nat × V) → List (Nat × V)
  | [] => []
  | (i, v) :: l => (i, v.cl n) :: clE n l
@[simp] theorem clE_nil (n : Nat) : clE n [] = [] := rfl
@[simp] theorem clE_cons (n : Nat) (i : Nat) (v : V) (l : List (Nat × V)) : clE n ((i, v) :: l) = (i, v.cl n) :: clE n l := rfl
theorem cl_mkE (n : Nat) : ∀ l : List (Nat × V), (mkE l).cl n = mkE (clE n l)
  | [] => by funext i; simp [Env.cl, V.cl]
  | (d, v) :: l => by
    funext i
    have := congrFun (cl_mkE n l) i
    simp only [Env.cl] at this
    simp only [Env.cl, mkE_cons, clE_cons]
    by_cases h : i = d
    · simp [h]
    · rw [if_neg h, if_neg h]; exact this
theorem keep_cl (n : Nat) (l : List Nat) (e : Env) : (keepE l e).cl n = mkE (clE n (look e l)) := by rw [keepE_eq, cl_mkE]

def idxE : Nat → List V → List (Nat × V)
  | _, [] => []
  | i, v :: vs => (i, v) :: idxE (i + 1) vs
@[simp] theorem idxE_nil (i : Nat) : idxE i [] = [] := rfl
@[simp] theorem idxE_cons (i : Nat) (v : V) (vs : List V) : idxE i (v :: vs) = (i, v) :: idxE (i + 1) vs := rfl
theorem idxE_get : ∀ (vs : List V) (k i : Nat), mkE (idxE k vs) i = if k ≤ i then vs.getD (i - k) .undef else .undef
  | [], k, i => by simp
  | v :: vs, k, i => by
    simp only [idxE_cons, mkE_cons, idxE_get vs (k + 1) i]
    by_cases h : i = k
    · subst h; simp
    · rw [if_neg h]
      by_cases h2 : k ≤ i
      · rw [if_pos h2, if_pos (by omega)]
        obtain ⟨m, rfl⟩ : ∃ m, i = k + 1 + m := ⟨i - (k + 1), by omega⟩
        rw [show k + 1 + m - (k + 1) = m by omega, show k + 1 + m - k = m + 1 by omega]
        simp
      · rw [if_neg h2, if_neg (by omega)]
theorem envOf_eq (args : List V) : envOf args = mkE (idxE 0 args) := by
  funext i
  rw [idxE_get]
  simp [envOf]

/-- What stands behind. -/
inductive Kt where
  | seq (c : SCode)
  | block (id : Nat)

def WC (G : Tbl) (c : SCode) (e : Env) (H : Heap) (Q : Ex → Env → Heap → Prop) : Prop := ∃ x e' H', Big G (.C c e H x e' H') ∧ Q x e' H'
def Wk (G : Tbl) : List Kt → (Ex → Env → Heap → Prop) → Ex → Env → Heap → Prop
  | [], Q, x, e, H => Q x e H
  | .seq c :: K, Q, x, e, H => match x with
    | .nx => WC G c e H (Wk G K Q)
    | x => Wk G K Q x e H
  | .block id :: K, Q, x, e, H => Wk G K Q (if x = .exit id then .nx else x) e H
def W (G : Tbl) (c : SCode) (K : List Kt) (e : Env) (H : Heap) (Q : Ex → Env → Heap → Prop) : Prop := WC G c e H (Wk G K Q)
/-- Back to what stands behind. -/
def Wr (G : Tbl) (x : Ex) (K : List Kt) (e : Env) (H : Heap) (Q : Ex → Env → Heap → Prop) : Prop := Wk G K Q x e H
def WO (G : Tbl) (base : Nat) (os : List SOper) (K : List Kt) (e : Env) (H : Heap) (Q : Ex → Env → Heap → Prop) : Prop := ∃ e' H', Big G (.O base os e H e' H') ∧ Wk G K Q .nx e' H'
def WF (G : Tbl) (f : Nat) (args : List V) (H : Heap) (R : V → Heap → Prop) : Prop := ∃ r H', Big G (.F f args H r H') ∧ R r H'


/-- What follows on a value, if there is one. -/
def bindW (o : Option (V × Heap)) (G : Tbl) (base : Nat) (d : Option Nat) (os : List SOper) (K : List Kt) (e : Env) (Q : Ex → Env → Heap → Prop) : Prop := ∃ v H1, o = some (v, H1) ∧ WO G base os K (e.put d v) H1 Q
def bindE (o : Option (Env × Heap)) (G : Tbl) (K : List Kt) (Q : Ex → Env → Heap → Prop) : Prop := ∃ e1 H1, o = some (e1, H1) ∧ Wr G .nx K e1 H1 Q
/-- Which way the word of a condition leads. -/
def condW (v : V) (G : Tbl) (a b : SCode) (K : List Kt) (e : Env) (H : Heap) (Q : Ex → Env → Heap → Prop) : Prop := ∃ t, v = .bool t ∧ if t = true then W G a K e H Q else W G b K e H Q
def callP (G : Tbl) (f : Nat) (args : List V) (base : Nat) (d : Option Nat) (os : List SOper) (K : List Kt) (e : Env) (H : Heap) (Q : Ex → Env → Heap → Prop) : Prop :=
  WF G f args [] fun r H1 => WO G base os K (e.put d (frz H1 r).out) H Q
def callS (G : Tbl) (f : Nat) (args : List V) (base : Nat) (d : Option Nat) (os : List SOper) (K : List Kt) (e : Env) (H : Heap) (Q : Ex → Env → Heap → Prop) : Prop :=
  WF G f args H fun r H1 => WO G base os K (e.put d (r.cl H.length)) (trunc H.length H1) Q
/-- A call that leaves some blocks as they are. -/
def callL (G : Tbl) (rs : List Nat) (f : Nat) (args : List V) (base : Nat) (d : Option Nat) (os : List SOper) (K : List Kt) (e : Env) (H : Heap) (Q : Ex → Env → Heap → Prop) : Prop :=
  WF G f args H fun r H1 => Leaves e rs H (trunc H.length H1) ∧ WO G base os K (e.put d (r.cl H.length)) (trunc H.length H1) Q
/-- A call whose blocks are kept. -/
def callK (G : Tbl) (ro : Bool) (f : Nat) (args : List V) (base : Nat) (d : Option Nat) (os : List SOper) (K : List Kt) (e : Env) (H : Heap) (Q : Ex → Env → Heap → Prop) : Prop :=
  WF G f args H fun r H1 => (ro = true → base ≤ H.length ∧ H1.take H.length = H) ∧ WO G base os K (e.put d r) H1 Q
def callV (G : Tbl) (ro : Bool) (v : V) (args : List V) (base : Nat) (d : Option Nat) (os : List SOper) (K : List Kt) (e : Env) (H : Heap) (Q : Ex → Env → Heap → Prop) : Prop :=
  ∃ f cap, v = .fn f cap ∧ WF G f (args ++ cap) H fun r H1 => (ro = true → trunc H.length H1 = H) ∧ WO G base os K (e.put d (r.cl H.length)) (trunc H.length H1) Q


section
variable {G : Tbl} {K : List Kt} {e : Env} {H : Heap} {Q : Ex → Env → Heap → Prop}

@[simp] theorem W_skip : W G .skip K e H Q = Wr G .nx K e H Q := by
  apply propext
  constructor
  · rintro ⟨x, e', H', h, q⟩; cases h; exact q
  · intro q; exact ⟨_, _, _, .cskip, q⟩
@[simp] theorem W_seq (a b : SCode) : W G (.seq a b) K e H Q = W G a (.seq b :: K) e H Q := by
  apply propext
  constructor
  · rintro ⟨x, e', H', h, q⟩
    cases h with
    | seqN h1 h2 => exact ⟨_, _, _, h1, _, _, _, h2, q⟩
    | seqX h1 hx =>
      refine ⟨_, _, _, h1, ?_⟩
      cases x <;> first | exact absurd rfl hx | exact q
  · rintro ⟨x, e', H', h, q⟩
    cases x with
    | nx => obtain ⟨x, e2, H2, h2, q⟩ := q; exact ⟨_, _, _, .seqN h h2, q⟩
    | exit id => exact ⟨_, _, _, .seqX h (by simp), q⟩
    | ret => exact ⟨_, _, _, .seqX h (by simp), q⟩
@[simp] theorem W_region (m : Nat) (ops : List SOper) : W G (.region m ops) K e H Q = WO G H.length ops K e (H ++ List.replicate m none) Q := by
  apply propext
  constructor
  · rintro ⟨x, e', H', h, q⟩; cases h with | region h => exact ⟨_, _, h, q⟩
  · rintro ⟨e', H', h, q⟩; exact ⟨_, _, _, .region h, q⟩
@[simp] theorem bindW_some (v : V) (base : Nat) (d : Option Nat) (os : List SOper) : bindW (some (v, H)) G base d os K e Q = WO G base os K (e.put d v) H Q := by
  apply propext
  constructor
  · rintro ⟨v', H', h, q⟩; cases h; exact q
  · exact fun q => ⟨_, _, rfl, q⟩
@[simp] theorem bindW_none (base : Nat) (d : Option Nat) (os : List SOper) : bindW none G base d os K e Q = False := by
  apply propext
  constructor
  · rintro ⟨v', H', h, q⟩; cases h
  · exact False.elim
@[simp] theorem bindE_some : bindE (some (e, H)) G K Q = Wr G .nx K e H Q := by
  apply propext
  constructor
  · rintro ⟨v', H', h, q⟩; cases h; exact q
  · exact fun q => ⟨_, _, rfl, q⟩
@[simp] theorem bindE_none : bindE none G K Q = False := by
  apply propext
  constructor
  · rintro ⟨v', H', h, q⟩; cases h
  · exact False.elim
theorem condW_bool (t : Bool) (a b : SCode) : condW (.bool t) G a b K e H Q = (if t = true then W G a K e H Q else W G b K e H Q) := by
  apply propext
  constructor
  · rintro ⟨t', h, q⟩; cases h; exact q
  · exact fun q => ⟨_, rfl, q⟩
@[simp] theorem condW_true (a b : SCode) : condW (.bool true) G a b K e H Q = W G a K e H Q := by rw [condW_bool]; simp
@[simp] theorem condW_false (a b : SCode) : condW (.bool false) G a b K e H Q = W G b K e H Q := by rw [condW_bool]; simp
@[simp] theorem W_cond (c : X) (a b : SCode) : W G (.cond c a b) K e H Q = condW (c.ev e) G a b K e H Q := by
  apply propext
  constructor
  · rintro ⟨x, e', H', h, q⟩
    cases h with
    | cond hc h =>
      refine ⟨_, hc, ?_⟩
      rename_i t
      cases t <;> exact ⟨_, _, _, h, q⟩
  · rintro ⟨t, hc, h⟩
    cases t
    · obtain ⟨x, e', H', h, q⟩ := h; exact ⟨x, e', H', .cond hc h, q⟩
    · obtain ⟨x, e', H', h, q⟩ := h; exact ⟨x, e', H', .cond hc h, q⟩
@[simp] theorem W_block (id : Nat) (c : SCode) : W G (.block id c) K e H Q = W G c (.block id :: K) e H Q := by
  apply propext
  constructor
  · rintro ⟨x, e', H', h, q⟩; cases h with | block h => exact ⟨_, _, _, h, q⟩
  · rintro ⟨x, e', H', h, q⟩; exact ⟨_, _, _, .block h, q⟩
@[simp] theorem W_exit (id : Nat) : W G (.exit id) K e H Q = Wr G (.exit id) K e H Q := by
  apply propext
  constructor
  · rintro ⟨x, e', H', h, q⟩; cases h; exact q
  · intro q; exact ⟨_, _, _, .exit, q⟩
@[simp] theorem W_ret : W G .ret K e H Q = Wr G .ret K e H Q := by
  apply propext
  constructor
  · rintro ⟨x, e', H', h, q⟩; cases h; exact q
  · intro q; exact ⟨_, _, _, .ret, q⟩
@[simp] theorem W_keep (l : List Nat) : W G (.keep l) K e H Q = Wr G .nx K (mkE (look e l)) H Q := by
  apply propext
  rw [← keepE_eq]
  constructor
  · rintro ⟨x, e', H', h, q⟩; cases h; exact q
  · intro q; exact ⟨_, _, _, .keep, q⟩
@[simp] theorem W_give (t : Nat) (off : Option Nat) : W G (.give t off) K e H Q = bindE (giveIt e H t off) G K Q := by
  apply propext
  constructor
  · rintro ⟨x, e', H', h, q⟩; cases h with | give h => exact ⟨_, _, h, q⟩
  · rintro ⟨e1, H1, hg, h⟩; exact ⟨_, _, _, .give hg, h⟩

@[simp] theorem W_freeze (t : Nat) : W G (.freeze t) K e H Q = bindE (frzIt e H t) G K Q := by
  apply propext
  constructor
  · rintro ⟨x, e', H', h, q⟩; cases h with | freeze h => exact ⟨_, _, h, q⟩
  · rintro ⟨e1, H1, hg, h⟩; exact ⟨_, _, _, .freeze hg, h⟩

@[simp] theorem Wr_nil (x : Ex) : Wr G x [] e H Q = Q x e H := rfl
@[simp] theorem Wr_seq (c : SCode) : Wr G .nx (.seq c :: K) e H Q = W G c K e H Q := rfl
@[simp] theorem Wr_seq_exit (c : SCode) (id : Nat) : Wr G (.exit id) (.seq c :: K) e H Q = Wr G (.exit id) K e H Q := rfl
@[simp] theorem Wr_seq_ret (c : SCode) : Wr G .ret (.seq c :: K) e H Q = Wr G .ret K e H Q := rfl
@[simp] theorem Wr_block_nx (id : Nat) : Wr G .nx (.block id :: K) e H Q = Wr G .nx K e H Q := rfl
@[simp] theorem Wr_block_ret (id : Nat) : Wr G .ret (.block id :: K) e H Q = Wr G .ret K e H Q := rfl
@[simp] theorem Wr_block_exit (id k : Nat) : Wr G (.exit k) (.block id :: K) e H Q = Wr G (if k = id then .nx else .exit k) K e H Q := by
  simp only [Wr, Wk, Ex.exit.injEq]

/-- One operation, and what follows. -/
def Ws (G : Tbl) (base : Nat) (o : SOper) (os : List SOper) (K : List Kt) (e : Env) (H : Heap) (Q : Ex → Env → Heap → Prop) : SOp → Prop
  | .pcall f xs => callP G f (outL (xs.map (X.ev e))) base o.dst os K e H Q
  | .scall f xs => callS G f (xs.map (X.ev e)) base o.dst os K e H Q
  | .scallA rs f xs => callL G rs f (xs.map (X.ev e)) base o.dst os K e H Q
  | .kcall ro f xs => callK G ro f (xs.map (X.ev e)) base o.dst os K e H Q
  | .vcall ro fx xs => callV G ro (fx.ev e) (xs.map (X.ev e)) base o.dst os K e H Q
  | s => bindW (ev1 base e H s) G base o.dst os K e Q
/-- An operation behind a guard. -/
def guardW (v : V) (want : Bool) (G : Tbl) (base : Nat) (o : SOper) (os : List SOper) (K : List Kt) (e : Env) (H : Heap) (Q : Ex → Env → Heap → Prop) : Prop :=
  (∃ t, v = .bool t ∧ if t = want then Ws G base o os K e H Q o.op else WO G base os K (e.put o.dst .skp) H Q) ∨ v = .skp ∧ WO G base os K (e.put o.dst .skp) H Q

@[simp] theorem WO_nil (base : Nat) : WO G base [] K e H Q = Wr G .nx K e H Q := by
  apply propext
  constructor
  · rintro ⟨e', H', h, q⟩; cases h; exact q
  · intro q; exact ⟨_, _, .nil, q⟩

theorem WO_cons (base : Nat) (o : SOper) (os : List SOper) : WO G base (o :: os) K e H Q = (match wanted e o with
    | some true => Ws G base o os K e H Q o.op
    | some false => WO G base os K (e.put o.dst .skp) H Q
    | none => False) := by
  apply propext
  constructor
  · rintro ⟨e', H', h, q⟩
    cases h with
    | cons hs ho =>
      cases hs with
      | ev hw hv =>
        rw [hw]
        simp only
        cases hop : o.op <;> rw [hop] at hv <;> simp only [Ws]
        all_goals first
          | exact ⟨_, _, hv, _, _, ho, q⟩
          | (simp [ev1] at hv; done)
      | skip hw => rw [hw]; exact ⟨_, _, ho, q⟩
      | pcall hw hop hf => rw [hw]; simp only [hop, Ws]; exact ⟨_, _, hf, _, _, ho, q⟩
      | scall hw hop hf => rw [hw]; simp only [hop, Ws]; exact ⟨_, _, hf, _, _, ho, q⟩
      | scallA hw hop hf hlv => rw [hw]; simp only [hop, Ws]; exact ⟨_, _, hf, hlv, _, _, ho, q⟩
      | kcall hw hop hf hro => rw [hw]; simp only [hop, Ws]; exact ⟨_, _, hf, hro, _, _, ho, q⟩
      | vcall hw hop hfx hf hro => rw [hw]; simp only [hop, Ws]; exact ⟨_, _, hfx, _, _, hf, hro, _, _, ho, q⟩
  · intro h
    split at h
    · rename_i hw
      cases hop : o.op <;> rw [hop] at h <;> simp only [Ws] at h
      case pcall f xs => obtain ⟨r, H1, hf, e', H', ho, q⟩ := h; exact ⟨_, _, .cons (.pcall hw hop hf) ho, q⟩
      case scall f xs => obtain ⟨r, H1, hf, e', H', ho, q⟩ := h; exact ⟨_, _, .cons (.scall hw hop hf) ho, q⟩
      case scallA rs f xs => obtain ⟨r, H1, hf, hlv, e', H', ho, q⟩ := h; exact ⟨_, _, .cons (.scallA hw hop hf hlv) ho, q⟩
      case kcall ro f xs => obtain ⟨r, H1, hf, hro, e', H', ho, q⟩ := h; exact ⟨_, _, .cons (.kcall hw hop hf hro) ho, q⟩
      case vcall ro fx xs =>
        obtain ⟨f, cap, hfx, r, H1, hf, hro, e', H', ho, q⟩ := h
        exact ⟨_, _, .cons (.vcall hw hop hfx hf hro) ho, q⟩
      all_goals
        obtain ⟨v, H1, hv, e', H', ho, q⟩ := h
        exact ⟨_, _, .cons (.ev hw (by rw [hop]; exact hv)) ho, q⟩
    · rename_i hw; obtain ⟨e', H', ho, q⟩ := h; exact ⟨_, _, .cons (.skip hw) ho, q⟩
    · exact h.elim

/-- An operation without a guard. -/
@[simp] theorem WO_op (base : Nat) (d : Option Nat) (s : SOp) (os : List SOper) : WO G base (⟨d, s, none⟩ :: os) K e H Q = Ws G base ⟨d, s, none⟩ os K e H Q s := by
  rw [WO_cons]; rfl
@[simp] theorem WO_guard (base : Nat) (d : Option Nat) (s : SOp) (g : Nat) (want : Bool) (os : List SOper) : WO G base (⟨d, s, some (g, want)⟩ :: os) K e H Q = guardW (e g) want G base ⟨d, s, none⟩ os K e H Q := by
  rw [WO_cons]
  have hs : Ws G base ⟨d, s, some (g, want)⟩ os K e H Q s = Ws G base ⟨d, s, none⟩ os K e H Q s := by cases s <;> rfl
  unfold wanted guardW
  simp only [hs]
  apply propext
  constructor
  · intro h
    cases hg : e g <;> rw [hg] at h <;> simp only at h
    · exact .inr ⟨rfl, h⟩
    · rename_i t
      refine .inl ⟨t, rfl, ?_⟩
      cases t <;> cases want <;> simpa using h
  · rintro (⟨t, hg, h⟩ | ⟨hg, h⟩)
    · rw [hg]
      cases t <;> cases want <;> simpa using h
    · rw [hg]; exact h
theorem guardW_bool (t want : Bool) (base : Nat) (o : SOper) (os : List SOper) : guardW (.bool t) want G base o os K e H Q = (if t = want then Ws G base o os K e H Q o.op else WO G base os K (e.put o.dst .skp) H Q) := by
  apply propext
  constructor
  · rintro (⟨t', h, q⟩ | ⟨h, q⟩)
    · cases h; exact q
    · cases h
  · exact fun q => .inl ⟨_, rfl, q⟩
@[simp] theorem guardW_skp (want : Bool) (base : Nat) (o : SOper) (os : List SOper) : guardW .skp want G base o os K e H Q = WO G base os K (e.put o.dst .skp) H Q := by
  apply propext
  constructor
  · rintro (⟨t', h, q⟩ | ⟨h, q⟩)
    · cases h
    · exact q
  · exact fun q => .inr ⟨rfl, q⟩
@[simp] theorem guardW_tt (base : Nat) (o : SOper) (os : List SOper) : guardW (.bool true) true G base o os K e H Q = Ws G base o os K e H Q o.op := by rw [guardW_bool]; simp
@[simp] theorem guardW_ff (base : Nat) (o : SOper) (os : List SOper) : guardW (.bool false) false G base o os K e H Q = Ws G base o os K e H Q o.op := by rw [guardW_bool]; simp
@[simp] theorem guardW_tf (base : Nat) (o : SOper) (os : List SOper) : guardW (.bool true) false G base o os K e H Q = WO G base os K (e.put o.dst .skp) H Q := by rw [guardW_bool]; simp
@[simp] theorem guardW_ft (base : Nat) (o : SOper) (os : List SOper) : guardW (.bool false) true G base o os K e H Q = WO G base os K (e.put o.dst .skp) H Q := by rw [guardW_bool]; simp

/-- What a call gives. -/
theorem WF_of {f : Nat} {args : List V} {r : V} {H' : Heap} {R : V → Heap → Prop} (h : Big G (.F f args H r H')) (hr : R r H') : WF G f args H R := ⟨r, H', h, hr⟩

/-- A loop: what holds at each head, and a measure that goes down. -/
theorem W_loop {l : List Nat} {c : SCode} (I : Nat → Env → Heap → Prop) (k : Nat) (h0 : I k ((keepE l e).cl H.length) (trunc H.length H))
    (hr : ∀ k e' H', I k e' H' → W G c [] e' H' (fun x e1 H1 => match x with
      | .nx => ∃ j, j < k ∧ I j ((keepE l e1).cl H.length) (trunc H.length H1)
      | x => Wr G x K e1 H1 Q)) : W G (.loop l c) K e H Q := by
  have key : ∀ (k : Nat) (e0 : Env) (H0 : Heap), I k ((keepE l e0).cl H.length) (trunc H.length H0) → ∃ x e' H', Big G (.L H.length l c e0 H0 x e' H') ∧ Wk G K Q x e' H' := by
    intro k
    induction k using Nat.strongRecOn with
    | _ k ih =>
      intro e0 H0 hI
      obtain ⟨x, e1, H1, hb, hq⟩ := hr k _ _ hI
      cases x with
      | nx =>
        obtain ⟨j, hj, hI'⟩ := hq
        obtain ⟨x, e2, H2, hb2, hq2⟩ := ih j hj e1 H1 hI'
        exact ⟨x, e2, H2, .round hb hb2, hq2⟩
      | exit id => exact ⟨_, _, _, .last hb (by simp), hq⟩
      | ret => exact ⟨_, _, _, .last hb (by simp), hq⟩
  obtain ⟨x, e', H', hb, hq⟩ := key k e H h0
  exact ⟨x, e', H', .loop hb, hq⟩

/-- A function. -/
def QG (res : List ResV) (r : V) (H' : Heap) (x : Ex) (e1 : Env) (H1 : Heap) : Prop := (x = .nx ∨ x = .ret) ∧ H1 = H' ∧ ∃ vs, evRess e1 H1 res = some vs ∧ resOf vs = r
@[simp] theorem QG_nx (res : List ResV) (r : V) (H' : Heap) (e1 : Env) (H1 : Heap) : QG res r H' .nx e1 H1 = (H1 = H' ∧ ∃ vs, evRess e1 H1 res = some vs ∧ resOf vs = r) := by simp [QG]
@[simp] theorem QG_ret (res : List ResV) (r : V) (H' : Heap) (e1 : Env) (H1 : Heap) : QG res r H' .ret e1 H1 = (H1 = H' ∧ ∃ vs, evRess e1 H1 res = some vs ∧ resOf vs = r) := by simp [QG]
theorem F_of {f nt : Nat} {body : SCode} {res : List ResV} {args : List V} {r : V} {H' : Heap} (hg : G f = some ⟨nt, body, res⟩) (hl : args.length ≤ nt)
    (h : W G body [] (mkE (idxE 0 args)) H (QG res r H')) : Big G (.F f args H r H') := by
  obtain ⟨x, e1, H1, hb, hx, rfl, vs, hvs, rfl⟩ := h
  rw [← envOf_eq] at hb
  exact .fn hg hl hb hx hvs

/-- A function that answers plain values: what becomes of its own blocks is all one. -/
def FP (G : Tbl) (f : Nat) (args : List V) (r : V) : Prop := ∃ r' H', Big G (.F f args [] r' H') ∧ (frz H' r').out = r
/-- What a function's end must be. -/
def QF (res : List ResV) (R : V → Prop) (x : Ex) (e1 : Env) (H1 : Heap) : Prop := (x = .nx ∨ x = .ret) ∧ ∃ vs, evRess e1 H1 res = some vs ∧ R (frz H1 (resOf vs)).out
def endV (o : Option (List V)) (H1 : Heap) (R : V → Prop) : Prop := ∃ vs, o = some vs ∧ R (frz H1 (resOf vs)).out
@[simp] theorem endV_some (vs : List V) (H1 : Heap) (R : V → Prop) : endV (some vs) H1 R = R (frz H1 (resOf vs)).out := by simp [endV]
@[simp] theorem endV_none (H1 : Heap) (R : V → Prop) : endV none H1 R = False := by simp [endV]
@[simp] theorem QF_nx (res : List ResV) (R : V → Prop) (e1 : Env) (H1 : Heap) : QF res R .nx e1 H1 = endV (evRess e1 H1 res) H1 R := by simp [QF, endV]
@[simp] theorem QF_ret (res : List ResV) (R : V → Prop) (e1 : Env) (H1 : Heap) : QF res R .ret e1 H1 = endV (evRess e1 H1 res) H1 R := by simp [QF, endV]
theorem FP_of {f nt : Nat} {body : SCode} {res : List ResV} {args : List V} {r : V} (hg : G f = some ⟨nt, body, res⟩) (hl : args.length ≤ nt)
    (h : W G body [] (mkE (idxE 0 args)) [] (QF res (· = r))) : FP G f args r := by
  obtain ⟨x, e1, H1, hb, hx, vs, hvs, hr⟩ := h
  rw [← envOf_eq] at hb
  exact ⟨_, H1, .fn hg hl hb hx hvs, hr⟩
theorem callP_of {f : Nat} {args : List V} {r : V} {base : Nat} {d : Option Nat} {os : List SOper} (h : FP G f args r) (hr : WO G base os K (e.put d r) H Q) : callP G f args base d os K e H Q := by
  obtain ⟨r', H', hb, hc⟩ := h
  exact ⟨r', H', hb, by show WO G base os K (e.put d (frz H' r').out) H Q; rw [hc]; exact hr⟩
theorem callV_of {f : Nat} {cap args : List V} {r : V} {H1 : Heap} {ro : Bool} {base : Nat} {d : Option Nat} {os : List SOper} (h : Big G (.F f (args ++ cap) H r H1)) (hro : ro = true → trunc H.length H1 = H)
    (hr : WO G base os K (e.put d (r.cl H.length)) (trunc H.length H1) Q) : callV G ro (.fn f cap) args base d os K e H Q := ⟨f, cap, rfl, r, H1, h, hro, hr⟩
theorem callS_of {f : Nat} {args : List V} {r : V} {H1 : Heap} {base : Nat} {d : Option Nat} {os : List SOper} (h : Big G (.F f args H r H1))
    (hr : WO G base os K (e.put d (r.cl H.length)) (trunc H.length H1) Q) : callS G f args base d os K e H Q := ⟨r, H1, h, hr⟩
theorem WF_FP {f : Nat} {args : List V} {r : V} {R : V → Prop} (h : FP G f args r) (hr : R r) : WF G f args [] (fun u H1 => R (frz H1 u).out) := by
  obtain ⟨r', H', hb, hc⟩ := h
  exact ⟨r', H', hb, by show R (frz H' r').out; rw [hc]; exact hr⟩
end

end Go.Ev
