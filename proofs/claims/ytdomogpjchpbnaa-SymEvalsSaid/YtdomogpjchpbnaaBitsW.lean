/- Forms of a few variables and a table: plain mathematics, with no program in sight. -/
import Derived.Test.YtdomogpjchpbnaaEvBitsC
import Derived.Test.YtdomogpjchpbnaaEvT

namespace Go.Ev
set_option linter.unusedSimpArgs false
set_option linter.unusedVariables false

/-- Does variable number j count? -/
def cnt (tab : List Nat) (j : Nat) : Bool := (List.range tab.length).any fun n => tab[n]? != tab[n ^^^ 2 ^ j]?
/-- What is right of variable number j. -/
def okAt (vars : List Int) (tab : List Nat) (j : Nat) : Prop :=
  ∃ v, vars[j]? = some v ∧ 0 ≤ v ∧ v < 34 ∧ (∀ u, 0 < j → vars[j - 1]? = some u → u < v) ∧ cnt tab j = true
def Right (vars : List Int) (tab : List Nat) : Prop := vars.length ≤ 4 ∧ tab.length = 2 ^ vars.length ∧ ∀ j, j < vars.length → okAt vars tab j
open Classical in
noncomputable def rightB (vars : List Int) (tab : List Nat) : Bool := decide (Right vars tab)
theorem rightB_iff {vars : List Int} {tab : List Nat} : rightB vars tab = true ↔ Right vars tab := by simp [rightB]

/-- Strictly rising. -/
abbrev Up (l : List Int) : Prop := l.Pairwise (· < ·)
theorem up_ext : ∀ {a b : List Int}, Up a → Up b → (∀ v, v ∈ a ↔ v ∈ b) → a = b
  | [], [], _, _, _ => rfl
  | [], y :: b, _, _, h => absurd ((h y).2 (by simp)) (by simp)
  | x :: a, [], _, _, h => absurd ((h x).1 (by simp)) (by simp)
  | x :: a, y :: b, ha, hb, h => by
    have ha' := List.pairwise_cons.1 ha
    have hb' := List.pairwise_cons.1 hb
    have hxy : x = y := by
      rcases List.mem_cons.1 ((h x).1 (by simp)) with e | e
      · exact e
      rcases List.mem_cons.1 ((h y).2 (by simp)) with e' | e'
      · exact e'.symm
      have := hb'.1 x e; have := ha'.1 y e'; omega
    subst hxy
    rw [up_ext ha'.2 hb'.2 fun v => ?_]
    constructor
    · intro hv
      have h1 := ha'.1 v hv
      rcases List.mem_cons.1 ((h v).1 (by simp [hv])) with e | e
      · omega
      · exact e
    · intro hv
      have h1 := hb'.1 v hv
      rcases List.mem_cons.1 ((h v).2 (by simp [hv])) with e | e
      · omega
      · exact e
theorem Up.nodup {l : List Int} (h : Up l) : l.Nodup := h.imp (fun h e => by omega)
theorem up_of {l : List Int} (h : ∀ j, 0 < j → ∀ u v, l[j - 1]? = some u → l[j]? = some v → u < v) : Up l := by
  induction l with
  | nil => simp
  | cons x l ih =>
    rw [Up, List.pairwise_cons]
    have htl : Up l := ih (fun j hj u v hu hv => by
      refine h (j + 1) (by omega) u v ?_ (by simpa using hv)
      obtain ⟨k, rfl⟩ : ∃ k, j = k + 1 := ⟨j - 1, by omega⟩
      simpa using hu)
    refine ⟨?_, htl⟩
    intro v hv
    cases l with
    | nil => cases hv
    | cons y l =>
      have hxy : x < y := h 1 (by omega) x y (by simp) (by simp)
      rcases List.mem_cons.1 hv with e | e
      · omega
      · have := (List.pairwise_cons.1 htl).1 v e; omega
theorem Right.up {vars : List Int} {tab : List Nat} (h : Right vars tab) : Up vars := up_of fun j hj u v hu hv => by
  have hlt : j < vars.length := by
    rcases Nat.lt_or_ge j vars.length with h | h
    · exact h
    · rw [List.getElem?_eq_none h] at hv; cases hv
  obtain ⟨w, hw, _, _, h3, _⟩ := h.2.2 j hlt
  rw [hv] at hw; cases hw
  exact h3 u hj hu
theorem Right.mem {vars : List Int} {tab : List Nat} (h : Right vars tab) {v : Int} (hv : v ∈ vars) : 0 ≤ v ∧ v < 34 := by
  obtain ⟨j, hj, rfl⟩ := List.mem_iff_getElem.1 hv
  obtain ⟨w, hw, h1, h2, _⟩ := h.2.2 j hj
  rw [List.getElem?_eq_getElem hj] at hw; cases hw
  exact ⟨h1, h2⟩

theorem nodup_inj {l : List Int} (h : l.Nodup) {i j : Nat} {hi : i < l.length} {hj : j < l.length} (e : l[i] = l[j]) : i = j := by
  rcases Nat.lt_trichotomy i j with hl | hl | hl
  · exact absurd e (List.pairwise_iff_getElem.1 h _ _ _ _ hl)
  · exact hl
  · exact absurd e.symm (List.pairwise_iff_getElem.1 h _ _ _ _ hl)

/-- Two rising lists as one. -/
def mer : List Int → List Int → List Int
  | [], b => b
  | a, [] => a
  | x :: a, y :: b => if x < y then x :: mer a (y :: b) else if y < x then y :: mer (x :: a) b else x :: mer a b
termination_by a b => a.length + b.length
theorem mer_nil (a : List Int) : mer a [] = a := by cases a <;> simp [mer]
theorem mem_mer {v : Int} (a b : List Int) : v ∈ mer a b ↔ v ∈ a ∨ v ∈ b := by
  fun_induction mer a b with
  | case1 b => simp
  | case2 a h => simp
  | case3 x a y b h ih =>
    simp only [List.mem_cons, ih]
    constructor
    · rintro (h | h | h | h) <;> simp [h]
    · rintro ((h | h) | h | h) <;> simp [h]
  | case4 x a y b h h2 ih =>
    simp only [List.mem_cons, ih]
    constructor
    · rintro (h | (h | h) | h) <;> simp [h]
    · rintro ((h | h) | h | h) <;> simp [h]
  | case5 x a y b h h2 ih =>
    have : x = y := by omega
    subst this
    simp [ih]; constructor
    · rintro (h | h | h) <;> simp [h]
    · rintro ((h | h) | h | h) <;> simp [h]
theorem mer_up (a b : List Int) (ha : Up a) (hb : Up b) : Up (mer a b) := by
  fun_induction mer a b with
  | case1 b => exact hb
  | case2 a h => exact ha
  | case3 x a y b h ih =>
    have ha' := List.pairwise_cons.1 ha
    have hb' := List.pairwise_cons.1 hb
    refine List.pairwise_cons.2 ⟨fun v hv => ?_, ih ha'.2 hb⟩
    rcases (mem_mer _ _).1 hv with h1 | h1
    · exact ha'.1 v h1
    · rcases List.mem_cons.1 h1 with e | e
      · omega
      · have := hb'.1 v e; omega
  | case4 x a y b h h2 ih =>
    have ha' := List.pairwise_cons.1 ha
    have hb' := List.pairwise_cons.1 hb
    refine List.pairwise_cons.2 ⟨fun v hv => ?_, ih ha hb'.2⟩
    rcases (mem_mer _ _).1 hv with h1 | h1
    · rcases List.mem_cons.1 h1 with e | e
      · omega
      · have := ha'.1 v e; omega
    · exact hb'.1 v h1
  | case5 x a y b h h2 ih =>
    have ha' := List.pairwise_cons.1 ha
    have hb' := List.pairwise_cons.1 hb
    refine List.pairwise_cons.2 ⟨fun v hv => ?_, ih ha'.2 hb'.2⟩
    rcases (mem_mer _ _).1 hv with h1 | h1
    · exact ha'.1 v h1
    · have := hb'.1 v h1; omega
theorem mer_len (a b : List Int) : (mer a b).length ≤ a.length + b.length := by
  fun_induction mer a b <;> simp_all <;> omega
theorem up_sub : ∀ {a b : List Int}, Up a → Up b → (∀ v ∈ a, v ∈ b) → a.Sublist b
  | [], _, _, _, _ => List.nil_sublist _
  | x :: a, [], _, _, h => absurd (h x (by simp)) (by simp)
  | x :: a, y :: b, ha, hb, h => by
    have ha' := List.pairwise_cons.1 ha
    have hb' := List.pairwise_cons.1 hb
    by_cases e : x = y
    · subst e
      refine List.Sublist.cons_cons _ (up_sub ha'.2 hb'.2 fun v hv => ?_)
      rcases List.mem_cons.1 (h v (by simp [hv])) with e | e
      · have := ha'.1 v hv; omega
      · exact e
    · refine List.Sublist.cons _ (up_sub ha hb'.2 fun v hv => ?_)
      rcases List.mem_cons.1 (h v hv) with e' | e'
      · subst e'
        rcases List.mem_cons.1 hv with e2 | e2
        · exact absurd e2.symm e
        · rcases List.mem_cons.1 (h x (by simp)) with e3 | e3
          · exact absurd e3 e
          · have := ha'.1 v e2; have := hb'.1 x e3; omega
      · exact e'
termination_by a b => a.length + b.length

/-- The place in the table of what is said of the variables. -/
def idx : List Int → (Int → Bool) → Nat
  | [], _ => 0
  | v :: vs, p => (p v).toNat + 2 * idx vs p
theorem idx_lt : ∀ (vs : List Int) (p : Int → Bool), idx vs p < 2 ^ vs.length
  | [], _ => by simp [idx]
  | v :: vs, p => by
    have := idx_lt vs p
    have h2 : (p v).toNat ≤ 1 := by cases p v <;> simp
    simp only [idx, List.length_cons, Nat.pow_succ]; omega
theorem idx_append (p : Int → Bool) : ∀ (a b : List Int), idx (a ++ b) p = idx a p + 2 ^ a.length * idx b p
  | [], b => by simp [idx]
  | v :: a, b => by
    simp only [List.cons_append, idx, idx_append p a b, List.length_cons, Nat.pow_succ]
    have : 2 ^ a.length * 2 * idx b p = 2 * (2 ^ a.length * idx b p) := by rw [Nat.mul_comm (2 ^ a.length) 2, Nat.mul_assoc]
    omega
theorem idx_bit (p : Int → Bool) : ∀ (vs : List Int) (j : Nat), (idx vs p).testBit j = (vs[j]?.map p).getD false
  | [], j => by simp [idx]
  | v :: vs, 0 => by
    simp only [idx, Nat.testBit_zero, List.getElem?_cons_zero, Option.map_some, Option.getD_some]
    cases p v <;> simp <;> omega
  | v :: vs, j + 1 => by
    simp only [List.getElem?_cons_succ, ← idx_bit p vs j, idx, Nat.testBit_succ]
    congr 1
    cases p v <;> simp <;> omega
theorem idx_ext {p q : Int → Bool} : ∀ {vs : List Int}, (∀ v ∈ vs, p v = q v) → idx vs p = idx vs q
  | [], _ => rfl
  | v :: vs, h => by simp only [idx, h v (by simp), idx_ext (vs := vs) (fun u hu => h u (List.mem_cons_of_mem _ hu))]
/-- What a number says of the variables. -/
def say (vs : List Int) (n : Nat) : Int → Bool := fun v => n.testBit (vs.idxOf v)
theorem idx_say {vs : List Int} (h : vs.Nodup) {n : Nat} (hn : n < 2 ^ vs.length) : idx vs (say vs n) = n := by
  refine Nat.eq_of_testBit_eq fun j => ?_
  rw [idx_bit]
  by_cases hj : j < vs.length
  · rw [List.getElem?_eq_getElem hj]
    simp only [Option.map_some, Option.getD_some, say]
    rw [List.Nodup.idxOf_getElem h]
  · rw [List.getElem?_eq_none (by omega)]
    simp only [Option.map_none, Option.getD_none]
    rw [Nat.testBit_lt_two_pow (Nat.lt_of_lt_of_le hn (Nat.pow_le_pow_right (by decide) (by omega)))]

theorem say_idx {vs : List Int} {v : Int} (hv : v ∈ vs) (p : Int → Bool) : say vs (idx vs p) v = p v := by
  rw [say, idx_bit, List.getElem?_eq_getElem (List.idxOf_lt_length_of_mem hv)]
  simp

def flip (p : Int → Bool) (v : Int) : Int → Bool := fun u => if u = v then !p u else p u
theorem idx_flip {vs : List Int} (h : vs.Nodup) (p : Int → Bool) {j : Nat} {v : Int} (hv : vs[j]? = some v) : idx vs (flip p v) = idx vs p ^^^ 2 ^ j := by
  have hj : j < vs.length := by
    rcases Nat.lt_or_ge j vs.length with h | h
    · exact h
    · rw [List.getElem?_eq_none h] at hv; cases hv
  refine Nat.eq_of_testBit_eq fun i => ?_
  rw [Nat.testBit_xor, idx_bit, idx_bit, Nat.testBit_two_pow]
  by_cases hi : i < vs.length
  · rw [List.getElem?_eq_getElem hi]
    simp only [Option.map_some, Option.getD_some, flip]
    rw [List.getElem?_eq_getElem hj] at hv; cases hv
    by_cases hij : i = j
    · subst hij; simp
    · have : vs[i] ≠ vs[j] := fun e => hij (nodup_inj h e)
      have hji : j ≠ i := fun e => hij e.symm
      simp [this, hji]
  · rw [List.getElem?_eq_none (by omega)]
    have hji : j ≠ i := by omega
    simp [hji]

/-- What a form comes to, of what is said of variables. -/
def sem (vs : List Int) (tab : List Nat) (p : Int → Bool) : Nat := tab.getD (idx vs p) 0
theorem sem_ext {vs : List Int} {tab : List Nat} {p q : Int → Bool} (h : ∀ v ∈ vs, p v = q v) : sem vs tab p = sem vs tab q := by rw [sem, sem, idx_ext h]
theorem tab_get {vs : List Int} {tab : List Nat} (hn : vs.Nodup) (hl : tab.length = 2 ^ vs.length) {n : Nat} (h : n < tab.length) : tab[n] = sem vs tab (say vs n) := by
  have h1 := idx_say hn (n := n) (by omega)
  simp [sem, h1, List.getD_eq_getElem?_getD, h]
def dep (f : (Int → Bool) → Nat) (v : Int) : Prop := ∃ p, f p ≠ f (flip p v)
theorem cnt_iff {vs : List Int} {tab : List Nat} (h : vs.Nodup) (hl : tab.length = 2 ^ vs.length) {j : Nat} {v : Int} (hv : vs[j]? = some v) : cnt tab j = true ↔ dep (sem vs tab) v := by
  have get (n : Nat) (hn : n < tab.length) : tab[n]? = some (tab.getD n 0) := by rw [List.getElem?_eq_getElem hn, List.getD_eq_getElem?_getD, List.getElem?_eq_getElem hn]; rfl
  have hj : j < vs.length := by
    rcases Nat.lt_or_ge j vs.length with h | h
    · exact h
    · rw [List.getElem?_eq_none h] at hv; cases hv
  simp only [cnt, List.any_eq_true, List.mem_range, bne_iff_ne, ne_eq, dep, sem]
  constructor
  · rintro ⟨n, hn, hne⟩
    refine ⟨say vs n, fun e => hne ?_⟩
    rw [idx_flip h _ hv, idx_say h (by omega)] at e
    rw [get n hn, get _ (by rw [hl] at hn ⊢; exact Nat.xor_lt_two_pow hn (Nat.pow_lt_pow_right (by decide) hj)), e]
  · rintro ⟨p, hp⟩
    have h1 : idx vs p < tab.length := by rw [hl]; exact idx_lt vs p
    refine ⟨idx vs p, h1, fun e => hp ?_⟩
    rw [idx_flip h _ hv]
    rw [get _ h1, get _ (by rw [hl] at h1 ⊢; exact Nat.xor_lt_two_pow h1 (Nat.pow_lt_pow_right (by decide) hj))] at e
    exact Option.some.inj e

theorem Right.deps {vs : List Int} {tab : List Nat} (h : Right vs tab) {v : Int} (hv : v ∈ vs) : dep (sem vs tab) v := by
  obtain ⟨j, hj, rfl⟩ := List.mem_iff_getElem.1 hv
  obtain ⟨w, hw, _, _, _, hc⟩ := h.2.2 j hj
  exact (cnt_iff h.up.nodup h.2.1 (List.getElem?_eq_getElem hj)).1 hc
theorem Right.of {vs : List Int} {tab : List Nat} (h4 : vs.length ≤ 4) (hl : tab.length = 2 ^ vs.length) (hu : Up vs) (hm : ∀ v ∈ vs, 0 ≤ v ∧ v < 34) (hd : ∀ v ∈ vs, dep (sem vs tab) v) : Right vs tab := by
  refine ⟨h4, hl, fun j hj => ⟨vs[j], List.getElem?_eq_getElem hj, (hm _ (List.getElem_mem hj)).1, (hm _ (List.getElem_mem hj)).2, ?_, (cnt_iff hu.nodup hl (List.getElem?_eq_getElem hj)).2 (hd _ (List.getElem_mem hj))⟩⟩
  intro u h0 hu'
  rw [List.getElem?_eq_getElem (by omega)] at hu'; cases hu'
  exact List.pairwise_iff_getElem.1 hu _ _ _ _ (by omega)
theorem not_dep {vs : List Int} {tab : List Nat} {v : Int} (hv : v ∉ vs) : ¬ dep (sem vs tab) v := by
  rintro ⟨p, hp⟩
  refine hp ?_
  simp only [sem]
  rw [idx_ext (p := p) (q := flip p v) fun u hu => ?_]
  have : u ≠ v := fun e => hv (e ▸ hu)
  simp [flip, this]

/-- Forms that are right, and come to the same of all that is said, are one. -/
theorem canon {vs vs' : List Int} {tab tab' : List Nat} (h : Right vs tab) (h' : Right vs' tab') (hs : ∀ p, sem vs tab p = sem vs' tab' p) : vs = vs' ∧ tab = tab' := by
  have hf : sem vs tab = sem vs' tab' := funext hs
  have hv : vs = vs' := up_ext h.up h'.up fun v => by
    constructor
    · intro hv
      have := h.deps hv
      rw [hf] at this
      exact Decidable.byContradiction fun hn => not_dep hn this
    · intro hv
      have := h'.deps hv
      rw [← hf] at this
      exact Decidable.byContradiction fun hn => not_dep hn this
  subst hv
  refine ⟨rfl, List.ext_getElem (by rw [h.2.1, h'.2.1]) fun n h1 h2 => ?_⟩
  have := hs (say vs n)
  simp only [sem] at this
  rw [idx_say h.up.nodup (by rw [← h.2.1]; exact h1)] at this
  simpa [List.getD_eq_getElem?_getD, List.getElem?_eq_getElem h1, List.getElem?_eq_getElem h2] using this

/-- A table without variable number j. -/
def remT (tab : List Nat) (j : Nat) : List Nat := ((List.range tab.length).filter fun n => !n.testBit j).map fun n => tab.getD n 0
/-- A number with a 0 put in as bit j. -/
def ins (j m : Nat) : Nat := 2 ^ (j + 1) * (m / 2 ^ j) + m % 2 ^ j
theorem ins_bit (j m i : Nat) : (ins j m).testBit i = if i < j then m.testBit i else if i = j then false else m.testBit (i - 1) := by
  have h1 : m % 2 ^ j < 2 ^ (j + 1) := Nat.lt_of_lt_of_le (Nat.mod_lt _ (Nat.two_pow_pos j)) (Nat.pow_le_pow_right (by decide) (by omega))
  rw [ins, Nat.testBit_two_pow_mul_add _ h1]
  by_cases h : i < j
  · rw [if_pos (by omega), if_pos h, Nat.testBit_mod_two_pow]; simp [h]
  · rw [if_neg h]
    by_cases h2 : i = j
    · subst h2; rw [if_pos (by omega), if_pos rfl, Nat.testBit_mod_two_pow]; simp
    · rw [if_neg (by omega), if_neg h2, Nat.testBit_div_two_pow]
      congr 1; omega
theorem ins_lt {j k m : Nat} (hj : j ≤ k) (hm : m < 2 ^ k) : ins j m < 2 ^ (k + 1) := by
  refine Nat.lt_pow_two_of_testBit _ fun i hi => ?_
  rw [ins_bit, if_neg (by omega)]
  split
  · rfl
  · exact Nat.testBit_lt_two_pow (Nat.lt_of_lt_of_le hm (Nat.pow_le_pow_right (by decide) (by omega)))
theorem ins_mono {j a b : Nat} (h : a < b) : ins j a < ins j b := by
  have h3 : a / 2 ^ j ≤ b / 2 ^ j := Nat.div_le_div_right (Nat.le_of_lt h)
  have h1 := Nat.div_add_mod a (2 ^ j)
  have h2 := Nat.div_add_mod b (2 ^ j)
  have h4 := Nat.mod_lt a (Nat.two_pow_pos j)
  have h5 := Nat.mod_lt b (Nat.two_pow_pos j)
  simp only [ins, Nat.pow_succ]
  rcases Nat.lt_or_ge (a / 2 ^ j) (b / 2 ^ j) with h6 | h6
  · have : 2 ^ j * (a / 2 ^ j + 1) ≤ 2 ^ j * (b / 2 ^ j) := Nat.mul_le_mul_left _ h6
    have e1 : 2 ^ j * 2 * (a / 2 ^ j) = 2 * (2 ^ j * (a / 2 ^ j)) := by rw [Nat.mul_comm (2 ^ j) 2, Nat.mul_assoc]
    have e2 : 2 ^ j * 2 * (b / 2 ^ j) = 2 * (2 ^ j * (b / 2 ^ j)) := by rw [Nat.mul_comm (2 ^ j) 2, Nat.mul_assoc]
    rw [Nat.mul_add] at this
    omega
  · have e : a / 2 ^ j = b / 2 ^ j := by omega
    rw [e] at h1 ⊢
    omega
theorem ins_onto {j n : Nat} (h : n.testBit j = false) : ∃ m, ins j m = n ∧ (∀ k, j ≤ k → n < 2 ^ (k + 1) → m < 2 ^ k) := by
  refine ⟨2 ^ j * (n / 2 ^ (j + 1)) + n % 2 ^ j, ?_, ?_⟩
  · refine Nat.eq_of_testBit_eq fun i => ?_
    have h1 : n % 2 ^ j < 2 ^ j := Nat.mod_lt _ (Nat.two_pow_pos j)
    rw [ins_bit, Nat.testBit_two_pow_mul_add _ h1, Nat.testBit_two_pow_mul_add _ h1]
    by_cases h2 : i < j
    · rw [if_pos h2, if_pos h2, Nat.testBit_mod_two_pow]; simp [h2]
    · rw [if_neg h2]
      by_cases h3 : i = j
      · subst h3; simp [h]
      · rw [if_neg h3, if_neg (by omega), Nat.testBit_div_two_pow]
        congr 1; omega
  · intro k hk hn
    have h1 : n % 2 ^ j < 2 ^ j := Nat.mod_lt _ (Nat.two_pow_pos j)
    refine Nat.lt_pow_two_of_testBit _ fun i hi => ?_
    rw [Nat.testBit_two_pow_mul_add _ h1, if_neg (by omega), Nat.testBit_div_two_pow]
    exact Nat.testBit_lt_two_pow (Nat.lt_of_lt_of_le hn (Nat.pow_le_pow_right (by decide) (by omega)))
theorem lt_ext : ∀ {a b : List Nat}, a.Pairwise (· < ·) → b.Pairwise (· < ·) → (∀ v, v ∈ a ↔ v ∈ b) → a = b
  | [], [], _, _, _ => rfl
  | [], y :: b, _, _, h => absurd ((h y).2 (by simp)) (by simp)
  | x :: a, [], _, _, h => absurd ((h x).1 (by simp)) (by simp)
  | x :: a, y :: b, ha, hb, h => by
    have ha' := List.pairwise_cons.1 ha
    have hb' := List.pairwise_cons.1 hb
    have hxy : x = y := by
      rcases List.mem_cons.1 ((h x).1 (by simp)) with e | e
      · exact e
      rcases List.mem_cons.1 ((h y).2 (by simp)) with e' | e'
      · exact e'.symm
      have := hb'.1 x e; have := ha'.1 y e'; omega
    subst hxy
    rw [lt_ext ha'.2 hb'.2 fun v => ?_]
    constructor
    · intro hv
      have h1 := ha'.1 v hv
      rcases List.mem_cons.1 ((h v).1 (by simp [hv])) with e | e
      · omega
      · exact e
    · intro hv
      have h1 := hb'.1 v hv
      rcases List.mem_cons.1 ((h v).2 (by simp [hv])) with e | e
      · omega
      · exact e
theorem rem_eq {k j : Nat} (hj : j ≤ k) : ((List.range (2 ^ (k + 1))).filter fun n => !n.testBit j) = (List.range (2 ^ k)).map (ins j) := by
  refine lt_ext (List.Pairwise.filter _ List.pairwise_lt_range) ?_ fun n => ?_
  · rw [List.pairwise_map]
    exact List.pairwise_lt_range.imp fun h => ins_mono h
  · simp only [List.mem_filter, List.mem_range, List.mem_map, Bool.not_eq_true']
    constructor
    · rintro ⟨h1, h2⟩
      obtain ⟨m, hm, hk⟩ := ins_onto h2
      exact ⟨m, hk k hj h1, hm⟩
    · rintro ⟨m, hm, rfl⟩
      refine ⟨ins_lt hj hm, ?_⟩
      rw [ins_bit, if_neg (by omega), if_pos rfl]
theorem remT_len {tab : List Nat} {k j : Nat} (hl : tab.length = 2 ^ (k + 1)) (hj : j ≤ k) : (remT tab j).length = 2 ^ k := by
  rw [remT, hl, rem_eq hj]; simp
theorem remT_get {tab : List Nat} {k j m : Nat} (hl : tab.length = 2 ^ (k + 1)) (hj : j ≤ k) (hm : m < 2 ^ k) : (remT tab j).getD m 0 = tab.getD (ins j m) 0 := by
  rw [remT, hl, rem_eq hj]
  simp [List.getD_eq_getElem?_getD, hm]

/-- To leave out what does not count changes nothing. -/
theorem sem_rem {vs : List Int} {tab : List Nat} (h : vs.Nodup) (hl : tab.length = 2 ^ vs.length) {j : Nat} (hj : j < vs.length) (hc : cnt tab j = false) (p : Int → Bool) :
    sem (vs.eraseIdx j) (remT tab j) p = sem vs tab p := by
  obtain ⟨k, hk⟩ : ∃ k, vs.length = k + 1 := ⟨vs.length - 1, by omega⟩
  have hle : (vs.eraseIdx j).length = k := by rw [List.length_eraseIdx_of_lt hj]; omega
  have hm : idx (vs.eraseIdx j) p < 2 ^ k := by have := idx_lt (vs.eraseIdx j) p; rwa [hle] at this
  have hv : vs[j]? = some vs[j] := List.getElem?_eq_getElem hj
  have hnd : ¬ dep (sem vs tab) vs[j] := fun hd => by rw [(cnt_iff h hl hv).2 hd] at hc; cases hc
  have key : ins j (idx (vs.eraseIdx j) p) = idx vs (fun u => if u = vs[j] then false else p u) := by
    refine Nat.eq_of_testBit_eq fun i => ?_
    rw [ins_bit, idx_bit, idx_bit, idx_bit, List.getElem?_eraseIdx, List.getElem?_eraseIdx]
    by_cases h1 : i < j
    · rw [if_pos h1, if_pos h1]
      rw [List.getElem?_eq_getElem (by omega)]
      have : vs[i] ≠ vs[j] := fun e => by have := nodup_inj h e; omega
      simp [this]
    · rw [if_neg h1]
      by_cases h2 : i = j
      · subst h2; rw [if_pos rfl, hv]; simp
      · rw [if_neg h2, if_neg (by omega), show i - 1 + 1 = i by omega]
        by_cases h3 : i < vs.length
        · rw [List.getElem?_eq_getElem h3]
          have : vs[i] ≠ vs[j] := fun e => by have := nodup_inj h e; omega
          simp [this]
        · rw [List.getElem?_eq_none (by omega)]; simp
  simp only [sem]
  rw [remT_get (by rw [hl, hk]) (by omega) hm, key]
  show sem vs tab _ = sem vs tab p
  by_cases hp : p vs[j] = false
  · simp only [sem]
    rw [idx_ext (q := p)]
    intro u _
    by_cases e : u = vs[j]
    · simp [e, hp]
    · simp [e]
  · have : sem vs tab p = sem vs tab (flip p vs[j]) := Decidable.byContradiction fun e => hnd ⟨p, e⟩
    rw [this]
    simp only [sem]
    rw [idx_ext (q := flip p vs[j])]
    intro u _
    by_cases e : u = vs[j]
    · simp only [flip, e, if_true]; cases hq : p vs[j]
      · exact absurd hq hp
      · rfl
    · simp [flip, e]

/-- A word of bits. -/
def wordOf (f : Nat → Bool) : Nat → Nat
  | 0 => 0
  | k + 1 => wordOf f k + 2 ^ k * (f k).toNat
theorem wordOf_lt (f : Nat → Bool) : ∀ k, wordOf f k < 2 ^ k
  | 0 => by simp [wordOf]
  | k + 1 => by
    have := wordOf_lt f k
    simp only [wordOf, Nat.pow_succ]
    cases f k <;> simp <;> omega
theorem wordOf_bit (f : Nat → Bool) (i : Nat) : ∀ k, (wordOf f k).testBit i = (decide (i < k) && f i)
  | 0 => by simp [wordOf]
  | k + 1 => by
    rw [wordOf, Nat.add_comm, Nat.testBit_two_pow_mul_add _ (wordOf_lt f k)]
    by_cases h : i < k
    · rw [if_pos h, wordOf_bit f i k]; simp [h, show i < k + 1 by omega]
    · rw [if_neg h]
      by_cases h2 : i = k
      · subst h2; simp
        cases f i <;> simp
      · have h3 : ¬ i < k + 1 := by omega
        simp only [h3, decide_false, Bool.false_and]
        have : (f k).toNat < 2 ^ (i - k) := Nat.lt_of_lt_of_le (by cases f k <;> simp : (f k).toNat < 2 ^ 1) (Nat.pow_le_pow_right (by decide) (by omega))
        exact Nat.testBit_lt_two_pow this
theorem wordOf_ext {f g : Nat → Bool} : ∀ {k : Nat}, (∀ i, i < k → f i = g i) → wordOf f k = wordOf g k
  | 0, _ => rfl
  | k + 1, h => by rw [wordOf, wordOf, wordOf_ext fun i hi => h i (by omega), h k (by omega)]
theorem wordOf_self {w : Nat} (h : w < 2 ^ 32) : wordOf w.testBit 32 = w := by
  refine Nat.eq_of_testBit_eq fun i => ?_
  rw [wordOf_bit]
  by_cases hi : i < 32
  · simp [hi]
  · simp only [hi, decide_false, Bool.false_and]
    exact (Nat.testBit_lt_two_pow (Nat.lt_of_lt_of_le h (Nat.pow_le_pow_right (by decide) (by omega)))).symm

/-- The value of a form, of values of the variables. -/
def val (vs : List Int) (tab : List Nat) (r : Int → Nat) : Nat := wordOf (fun i => (sem vs tab fun v => (r v).testBit i).testBit i) 32
/-- Its value where each variable is 0, or all ones. -/
theorem val_full {vs : List Int} {tab : List Nat} (ht : ∀ w ∈ tab, w < 4294967296) (p : Int → Bool) {r : Int → Nat} (hr : ∀ v ∈ vs, r v = if p v then 4294967295 else 0) : val vs tab r = sem vs tab p := by
  have hs : sem vs tab p < 2 ^ 32 := by
    simp only [sem, List.getD_eq_getElem?_getD]
    cases hq : tab[idx vs p]? with
    | none => simp
    | some w => exact ht w (List.mem_of_getElem? hq)
  rw [val, ← wordOf_self hs]
  refine wordOf_ext fun i hi => ?_
  have : sem vs tab (fun v => (r v).testBit i) = sem vs tab p := by
    simp only [sem]
    rw [idx_ext (q := p)]
    intro v hv
    rw [hr v hv]
    cases p v
    · simp
    · simp only [if_true]
      rw [show (4294967295 : Nat) = 2 ^ 32 - 1 from rfl, Nat.testBit_two_pow_sub_one]; simpa using hi
  rw [this]
end Go.Ev

/- What the functions of bits compute. -/
namespace Go.Ev
open Go Go.RowKit
variable {G : Tbl}
set_option maxRecDepth 10000
set_option linter.unusedSimpArgs false
set_option linter.unusedVariables false

def FV (vars : List Int) (tab : List Nat) : V := .agg [.vs (ints .i64 vars) .no, .vs (nats .u32 tab) .no]

theorem counts_ok (hG : HasBits G) (vars : List Int) (tab : List Nat) (j : Nat) (hj : j < 10) (hlen : tab.length ≤ 100) (hin : ∀ n, n < tab.length → n ^^^ 2 ^ j < tab.length) :
    FP G 100 [FV vars tab, .int .i64 j] (.bool (cnt tab j)) := by
  refine FP_of hG.h_bits_counts (Nat.le_of_ble_eq_true rfl) ?_
  simp [FV]
  refine W_up tab.length (fun n => [(1, .int .i64 j), (2, .ptr 0 0), (8, .int .i64 tab.length), (9, .int .i64 n)])
    (fun _ => [some (.cells [.vs (ints .i64 vars) .no, .vs (nats .u32 tab) .no])]) (fun n => ∀ m, m < n → tab[m]? = tab[m ^^^ 2 ^ j]?) ?_ ?_
  · simp [keep_cl, trunc]
  intro n hn hall
  by_cases hlt : n < tab.length
  · have h1 : tab[n]? = some tab[n] := List.getElem?_eq_getElem hlt
    have h2 : tab[n ^^^ 2 ^ j]? = some (tab[n ^^^ 2 ^ j]'(hin n hlt)) := List.getElem?_eq_getElem (hin n hlt)
    have hp : 2 ^ j < 2 ^ 63 := Nat.pow_lt_pow_right (by decide) (by omega)
    have h3 : shlI .i64 1 (j : Int) = ((2 ^ j : Nat) : Int) := shl1 (by omega)
    have h4 : xorI .i64 (n : Int) ((2 ^ j : Nat) : Int) = ((n ^^^ 2 ^ j : Nat) : Int) := xor64 (by omega) hp
    have h5 : ¬ (j : Int) < 0 := by omega
    have h6 : addI .i64 (n : Int) 1 = ((n + 1 : Nat) : Int) := add1 hlt (by omega)
    simp [hlt, h3, h4, h5, h6, hin n hlt, -Int.natCast_pow, -Int.natCast_add]
    rw [condW_bool]
    split
    · rename_i he
      simp at he
      simp only [W_seq, W_region, WO_op, Ws]
      simp [cnt]
      exact ⟨n, hlt, by rw [h1, h2]; simpa using he⟩
    · rename_i he
      simp at he
      simp [hlt, h6, keep_cl, trunc, -Int.natCast_add]
      intro m hm
      by_cases hmn : m = n
      · subst hmn; rw [h1, h2, he]
      · exact hall m (by omega)
  · have hnl : n = tab.length := by omega
    subst hnl
    simp [cnt]
    exact hall

theorem tab_in {vars : List Int} {tab : List Nat} (h : vars.length ≤ 4) (ht : tab.length = 2 ^ vars.length) {j : Nat} (hj : j < vars.length) : ∀ n, n < tab.length → n ^^^ 2 ^ j < tab.length := by
  intro n hn
  rw [ht] at hn ⊢
  exact Nat.xor_lt_two_pow hn (Nat.pow_lt_pow_right (by decide) hj)
theorem tab_small {vars : List Int} {tab : List Nat} (h : vars.length ≤ 4) (ht : tab.length = 2 ^ vars.length) : tab.length ≤ 16 := by
  rw [ht]; exact Nat.pow_le_pow_right (by decide) h

theorem Right_ok (hG : HasBits G) (vars : List Int) (tab : List Nat) (hv : vars.length ≤ 9223372036854775807) (ht : tab.length ≤ 9223372036854775807) : FP G 101 [FV vars tab] (.bool (rightB vars tab)) := by
  refine FP_of hG.h_bits_Right (Nat.le_of_ble_eq_true rfl) ?_
  simp [FV]
  by_cases h4 : vars.length ≤ 4
  · by_cases h7 : tab.length = 2 ^ vars.length
    · have hsm := tab_small h4 h7
      simp (disch := omega) [leT, leF, ltT, ltF, ltTn, ltFn, shl1, h7, -Int.natCast_pow]
      refine W_up vars.length (fun n => [(1, .ptr 0 0), (20, .vs (ints .i64 vars) .no), (21, .int .i64 vars.length), (22, .int .i64 n)])
        (fun _ => [some (.cells [.vs (ints .i64 vars) .no, .vs (nats .u32 tab) .no])]) (fun n => ∀ m, m < n → okAt vars tab m) ?_ ?_
      · simp [keep_cl, trunc]
      intro n hn hall
      by_cases hlt : n < vars.length
      · have hbad : ¬ okAt vars tab n → rightB vars tab = false := fun h => by simp only [rightB, decide_eq_false_iff_not]; exact fun hR => h (hR.2.2 n hlt)
        have hgood : okAt vars tab n → ∀ m, m < n + 1 → okAt vars tab m := fun h m hm => by
          by_cases hmn : m = n
          · subst hmn; exact h
          · exact hall m (by omega)
        have h1 : vars[n]? = some vars[n] := List.getElem?_eq_getElem hlt
        by_cases ha : vars[n] < 0
        · simp (disch := omega) [leT, leF, ltT, ltF, ltTn, ltFn, get_in]
          exact hbad (by rintro ⟨v, hv, h0, _⟩; rw [h1] at hv; cases hv; omega)
        by_cases hb : vars[n] < 34
        · by_cases hd : 0 < n
          · have h2 : vars[n - 1]? = some vars[n - 1] := List.getElem?_eq_getElem (by omega)
            by_cases hg : vars[n - 1] < vars[n]
            · simp (disch := omega) [leT, leF, ltT, ltF, ltTn, ltFn, get_in, sub1', add1', -Int.natCast_add]
              refine callP_of (counts_ok hG vars tab n (by omega) (by omega) (tab_in h4 h7 hlt)) ?_
              cases hk : cnt tab n <;> simp (disch := omega) [hlt, keep_cl, trunc, add1', -Int.natCast_add]
              · exact hbad (by rintro ⟨v, hv, h0, _, _, hh⟩; rw [hk] at hh; cases hh)
              · exact hgood ⟨_, h1, by omega, hb, fun u _ hu => by rw [h2] at hu; cases hu; exact hg, hk⟩
            · simp (disch := omega) [leT, leF, ltT, ltF, ltTn, ltFn, get_in, sub1', -Int.natCast_add]
              exact hbad (by rintro ⟨v, hv, h0, _, hu, _⟩; rw [h1] at hv; cases hv; exact hg (hu _ hd h2))
          · have hn0 : n = 0 := by omega
            subst hn0
            simp (disch := omega) [leT, leF, ltT, ltF, ltTn, ltFn, get_in, add1', -Int.natCast_add]
            refine callP_of (counts_ok hG vars tab 0 (by omega) (by omega) (tab_in h4 h7 hlt)) ?_
            cases hk : cnt tab 0 <;> simp (disch := omega) [hlt, keep_cl, trunc, addI64]
            · exact hbad (by rintro ⟨v, hv, h0, _, _, hh⟩; rw [hk] at hh; cases hh)
            · exact ⟨_, h1, by omega, hb, fun u hu => absurd hu (by omega), hk⟩
        · simp (disch := omega) [leT, leF, ltT, ltF, ltTn, ltFn, get_in]
          exact hbad (by rintro ⟨v, hv, h0, _⟩; rw [h1] at hv; cases hv; omega)
      · have hnl : n = vars.length := by omega
        subst hnl
        have : rightB vars tab = true := by simp only [rightB, decide_eq_true_eq]; exact ⟨h4, h7, hall⟩
        simp [this]
    · have h8 : ¬ ((tab.length : Int) = ((2 ^ vars.length : Nat) : Int)) := by
        simp only [Int.ofNat_inj]; exact h7
      simp (disch := omega) [leT, leF, ltT, ltF, ltTn, ltFn, shl1, bneT h8, -Int.natCast_pow]
      simp [rightB, Right, h7]
  · simp (disch := omega) [leT, leF, ltT, ltF]
    simp [rightB, Right, h4]
end Go.Ev

/- What the functions of bits compute: the smaller ones. -/
namespace Go.Ev
open Go Go.RowKit
variable {G : Tbl}
set_option maxRecDepth 10000
set_option linter.unusedSimpArgs false
set_option linter.unusedVariables false

/-- What comes of arithmetic in 32 bits. -/
def doW (kind : Int) (a b : Nat) : Nat × Bool :=
  if kind = 4 then ((a + b) % 4294967296, true) else if kind = 20 then ((a + 4294967296 - b) % 4294967296, true) else if kind = 36 then (a * b % 4294967296, true)
  else if kind = 52 then (if b = 0 then (0, false) else (a / b, true)) else if kind = 68 then (a ||| b, true) else if kind = 84 then (a &&& b, true)
  else if kind = 100 then (a * 2 ^ (b % 32) % 4294967296, true) else if kind = 116 then (a / 2 ^ (b % 32), true) else if kind = 164 then (a ^^^ b, true) else (0, false)

theorem wrap32 (n : Int) : IntKind.u32.wrap n = n % 4294967296 := rfl
theorem doW_ok (hG : HasWd G) (kind : Int) (a b : Nat) (ha : a < 4294967296) (hb : b < 4294967296) :
    FP G 107 [.int .i64 kind, .int .u32 a, .int .u32 b] (.tup [.int .u32 ((doW kind a b).1 : Nat), .bool (doW kind a b).2]) := by
  refine FP_of hG.h_word_Do (Nat.le_of_ble_eq_true rfl) ?_
  simp
  by_cases h : kind = 4
  · subst h; simp [doW]; simp [addI, wrap32]
  by_cases h : kind = 20
  · subst h; simp [doW]; simp [subI, wrap32]; omega
  by_cases h : kind = 36
  · subst h; simp [doW]; simp [mulI, wrap32]
  by_cases h : kind = 52
  · subst h
    by_cases hz : b = 0
    · subst hz; simp [doW]
    · simp (disch := omega) [doW, hz, beqF]
      simp [quo32 ha hz, hz]
  by_cases h : kind = 68
  · subst h; simp [doW]; exact or32 ha hb
  by_cases h : kind = 84
  · subst h; simp [doW]; exact and32 ha hb
  by_cases h : kind = 100
  · subst h
    have h1 : b % 32 ≤ 32 := by omega
    simp (disch := omega) [doW, and31 hb, shl32 h1, ltF, -Int.natCast_emod]
  by_cases h : kind = 116
  · subst h
    have h1 : b % 32 ≤ 32 := by omega
    simp (disch := omega) [doW, and31 hb, shr32 h1, ltF, -Int.natCast_emod]
  by_cases h : kind = 164
  · subst h; simp [doW]; exact xor32 ha hb
  simp (disch := omega) [doW, beqF, *]

theorem Const_ok (hG : HasBits G) (c : Nat) : FP G 102 [.int .u32 (c : Int)] (FV [] [c]) := by
  refine FP_of hG.h_bits_Const (Nat.le_of_ble_eq_true rfl) ?_
  simp [FV, nats]
theorem Var_ok (hG : HasBits G) (i : Int) : FP G 103 [.int .i64 i] (if 0 ≤ i ∧ i < 34 then .tup [FV [i] [0, 4294967295], .int .i64 0] else .tup [FV [] [], .int .i64 1]) := by
  refine FP_of hG.h_bits_Var (Nat.le_of_ble_eq_true rfl) ?_
  by_cases h1 : i < 0
  · simp (disch := omega) [FV, nats, ints, leT, leF, ltT, ltF]
  · by_cases h2 : i < 34
    · simp (disch := omega) [FV, nats, ints, leT, leF, ltT, ltF]
    · simp (disch := omega) [FV, nats, ints, leT, leF, ltT, ltF]

theorem eq_of_get {α : Type} {a b : List α} (hl : a.length = b.length) (h : ∀ m, m < a.length → a[m]? = b[m]?) : a = b := List.ext_getElem? fun i => by
  by_cases hi : i < a.length
  · exact h i hi
  · rw [List.getElem?_eq_none (by omega), List.getElem?_eq_none (by omega)]
theorem Same_ok (hG : HasBitsS G) (v v' : List Int) (t t' : List Nat) (h1 : v.length ≤ 9223372036854775807) (h2 : t.length ≤ 9223372036854775807) :
    FP G 111 [FV v t, FV v' t'] (.bool (decide (v = v' ∧ t = t'))) := by
  refine FP_of hG.h_bits_Same (Nat.le_of_ble_eq_true rfl) ?_
  simp [FV]
  by_cases hv : v.length = v'.length
  · by_cases ht : t.length = t'.length
    · simp (disch := omega) [bneF]
      refine W_up v.length (fun n => [(2, .ptr 0 0), (3, .ptr 1 0), (25, .int .i64 v.length), (26, .int .i64 n)])
        (fun _ => [some (.cells [.vs (ints .i64 v) .no, .vs (nats .u32 t) .no]), some (.cells [.vs (ints .i64 v') .no, .vs (nats .u32 t') .no])]) (fun n => ∀ m, m < n → v[m]? = v'[m]?) ?_ ?_
      · simp [keep_cl, trunc]
      intro n hn hall
      by_cases hlt : n < v.length
      · simp (disch := omega) [ltT, get_in, add1', -Int.natCast_add]
        rw [condW_bool]
        split
        · rename_i he
          have : v ≠ v' := fun e => by subst e; simp at he
          simp [this]
        · rename_i he
          simp at he
          simp (disch := omega) [add1', hlt, keep_cl, trunc, -Int.natCast_add]
          intro m hm
          by_cases hmn : m = n
          · subst hmn; rw [List.getElem?_eq_getElem hlt, List.getElem?_eq_getElem (by omega), he]
          · exact hall m (by omega)
      · have hvv : v = v' := eq_of_get hv (by have : n = v.length := by omega
                                              subst this; exact hall)
        subst hvv
        simp (disch := omega) [ltF]
        refine W_up t.length (fun n => [(2, .ptr 0 0), (3, .ptr 1 0), (43, .int .i64 t.length), (44, .int .i64 n)])
          (fun _ => [some (.cells [.vs (ints .i64 v) .no, .vs (nats .u32 t) .no]), some (.cells [.vs (ints .i64 v) .no, .vs (nats .u32 t') .no])]) (fun n => ∀ m, m < n → t[m]? = t'[m]?) ?_ ?_
        · simp [keep_cl, trunc]
        intro n hn hall
        by_cases hlt : n < t.length
        · simp (disch := omega) [ltT, get_in, add1', -Int.natCast_add]
          rw [condW_bool]
          split
          · rename_i he
            have : t ≠ t' := fun e => by subst e; simp at he
            simp [this]
          · rename_i he
            simp at he
            simp (disch := omega) [add1', hlt, keep_cl, trunc, -Int.natCast_add]
            intro m hm
            by_cases hmn : m = n
            · subst hmn; rw [List.getElem?_eq_getElem hlt, List.getElem?_eq_getElem (by omega), he]
            · exact hall m (by omega)
        · have htt : t = t' := eq_of_get ht (by have : n = t.length := by omega
                                                subst this; exact hall)
          subst htt
          simp (disch := omega) [ltF]
    · simp (disch := omega) [bneT, bneF]
      intro h e; subst e; exact ht rfl
  · simp (disch := omega) [bneT]
    intro e; subst e; exact absurd rfl hv

theorem union_ok (hG : HasBits G) (a b : List Int) (hl : a.length + b.length ≤ 1000) :
    FP G 104 [.vs (ints .i64 a) .no, .vs (ints .i64 b) .no] (.vs (ints .i64 (mer a b)) .no) := by
  refine FP_of hG.h_bits_union (Nat.le_of_ble_eq_true rfl) ?_
  simp
  refine W_state (fun s : List Int × List Int × List Int => s.2.1.length + s.2.2.length)
    (fun s => [(0, .vs (ints .i64 s.2.1) .no), (1, .vs (ints .i64 s.2.2) .no), (5, .vs (ints .i64 s.1) (.own 0))]) (fun s => [some (.zone s.1.length)])
    (fun s => s.1 ++ mer s.2.1 s.2.2 = mer a b ∧ s.1.length + s.2.1.length + s.2.2.length ≤ 1000) ([], a, b) ?_ ?_
  · simp [keep_cl, trunc, hl]
  rintro ⟨out, x, y⟩ ⟨hm, hs⟩
  simp only at hm hs
  cases x with
  | nil =>
    cases y with
    | nil => simp [mer] at hm; simp [addI64, hm]
    | cons v y =>
      simp only [List.length_cons, List.length_nil] at hs
      simp (disch := omega) [addI64, ltT, ltF, leTn, ints_cons, eqF, eqT, beqF, bounds, leT]
      refine ⟨(out ++ [v], [], y), ?_⟩
      simp [mer] at hm
      simp [hm, keep_cl, trunc, ints_cons, mer, mer_nil]
      omega
  | cons u x =>
    cases y with
    | nil =>
      simp only [List.length_cons, List.length_nil] at hs
      simp (disch := omega) [addI64, ltT, ltF, leTn, ints_cons, eqF, eqT, beqF, bounds, leT]
      refine ⟨(out ++ [u], x, []), ?_⟩
      simp [mer, mer_nil] at hm
      simp [hm, keep_cl, trunc, ints_cons, mer, mer_nil]
      omega
    | cons v y =>
      simp only [List.length_cons, List.length_nil] at hs
      rw [mer] at hm
      by_cases h1 : u < v
      · simp (disch := omega) [addI64, ltT, ltF, leTn, ints_cons, eqF, eqT, beqF, bounds, leT]
        refine ⟨(out ++ [u], x, v :: y), ?_⟩
        simp [h1] at hm
        simp [hm, keep_cl, trunc, ints_cons, mer, mer_nil]
        omega
      · by_cases h2 : v < u
        · simp (disch := omega) [addI64, ltT, ltF, leTn, ints_cons, eqF, eqT, beqF, bounds, leT]
          refine ⟨(out ++ [v], u :: x, y), ?_⟩
          simp [h1, h2] at hm
          simp [hm, keep_cl, trunc, ints_cons, mer, mer_nil]
          omega
        · simp (disch := omega) [addI64, ltT, ltF, leTn, ints_cons, eqF, eqT, beqF, bounds, leT]
          refine ⟨(out ++ [u], x, y), ?_⟩
          simp [h1, h2] at hm
          simp [hm, keep_cl, trunc, ints_cons, mer, mer_nil]
          omega

/-- A value of bits, and one more bit. -/
theorem or_bit {k j b : Nat} (hk : k < 2 ^ j) (hb : b ≤ 1) : k ||| b * 2 ^ j = k + 2 ^ j * b := by
  rw [Nat.mul_comm b, Nat.or_comm, ← Nat.two_pow_add_eq_or_of_lt hk]; omega
theorem toNat_bit (n i : Nat) : n / 2 ^ i % 2 = (n.testBit i).toNat := by
  rw [Nat.testBit_eq_decide_div_mod_eq]
  rcases Nat.mod_two_eq_zero_or_one (n / 2 ^ i) with h | h <;> simp [h]
theorem and1 {b : Nat} (hb : b < 9223372036854775808) : andI .i64 (b : Int) 1 = ((b % 2 : Nat) : Int) := by
  have := and64 (a := b) (b := 1) hb (by decide)
  rw [show ((1 : Nat) : Int) = 1 from rfl] at this
  rw [this, show (1 : Nat) = 2 ^ 1 - 1 from rfl, Nat.and_two_pow_sub_one_eq_mod]

theorem at_ok (hG : HasBits G) (fv : List Int) (tab : List Nat) (vs : List Int) (n : Nat) (hl : tab.length = 2 ^ fv.length) (hs : fv.Sublist vs) (hnd : vs.Nodup) (hv : vs.length ≤ 30) (hn : n < 2 ^ 31) :
    FP G 105 [FV fv tab, .vs (ints .i64 vs) .no, .int .i64 n] (.int .u32 (sem fv tab (say vs n) : Nat)) := by
  have hfl := hs.length_le
  refine FP_of hG.h_bits_at (Nat.le_of_ble_eq_true rfl) ?_
  simp [FV]
  refine W_state (fun s : Nat × Nat => vs.length - s.1)
    (fun s => [(2, .int .i64 n), (3, .ptr 0 0), (7, .int .i64 (idx (fv.take s.2) (say vs n) : Nat)), (8, .int .i64 s.2), (11, .vs (ints .i64 vs) .no), (12, .int .i64 vs.length), (13, .int .i64 s.1)])
    (fun _ => [some (.cells [.vs (ints .i64 fv) .no, .vs (nats .u32 tab) .no])]) (fun s => s.1 ≤ vs.length ∧ s.2 ≤ fv.length ∧ (fv.drop s.2).Sublist (vs.drop s.1)) (0, 0) ?_ ?_
  · simp [keep_cl, trunc, hs, idx]
  rintro ⟨i, j⟩ ⟨hi, hj, hsub⟩
  simp only at hi hj hsub
  by_cases hlt : i < vs.length
  · have hvi : vs.drop i = vs[i] :: vs.drop (i + 1) := List.drop_eq_getElem_cons hlt
    by_cases hjl : j < fv.length
    · have hfj : fv.drop j = fv[j] :: fv.drop (j + 1) := List.drop_eq_getElem_cons hjl
      by_cases he : fv[j] = vs[i]
      · have hk : idx (fv.take j) (say vs n) < 2 ^ j := by have := idx_lt (fv.take j) (say vs n); rwa [List.length_take, Nat.min_eq_left hj] at this
        have h30 : 2 ^ j ≤ 2 ^ 30 := Nat.pow_le_pow_right (by decide) (by omega)
        have h1 : n / 2 ^ i < 9223372036854775808 := Nat.lt_of_le_of_lt (Nat.div_le_self _ _) (by omega)
        have h2 : n / 2 ^ i % 2 ≤ 1 := by omega
        have h3 : n / 2 ^ i % 2 * 2 ^ j ≤ 1 * 2 ^ j := Nat.mul_le_mul_right _ h2
        have h4 : idx (fv.take (j + 1)) (say vs n) = idx (fv.take j) (say vs n) ||| n / 2 ^ i % 2 * 2 ^ j := by
          rw [or_bit hk h2, List.take_add_one, idx_append, List.getElem?_eq_getElem hjl, List.length_take, Nat.min_eq_left hj, toNat_bit]
          simp only [Option.toList_some, idx, say, he, List.Nodup.idxOf_getElem hnd, Nat.mul_zero, Nat.add_zero]
        simp (disch := omega) [ltT, get_in, he, shr64, and1 h1, shl64, or64, add1', ltF, -Int.natCast_add, -Int.natCast_mul, -Int.natCast_pow, -Int.natCast_emod, -Int.natCast_ediv]
        refine ⟨(i + 1, j + 1), ?_⟩
        simp [keep_cl, trunc, h4, -Int.natCast_add]
        and_intros <;> first | omega | skip
        rw [hfj, hvi, he] at hsub
        exact List.cons_sublist_cons.1 hsub
      · simp (disch := omega) [ltT, get_in, add1', beqF he, -Int.natCast_add]
        refine ⟨(i + 1, j), ?_⟩
        simp [keep_cl, trunc, -Int.natCast_add]
        and_intros <;> first | omega | skip
        rw [hfj, hvi] at hsub
        rw [hfj]
        rcases List.sublist_cons_iff.1 hsub with h | ⟨r, hr, _⟩
        · exact h
        · exact absurd (List.cons.inj hr).1 he
    · simp (disch := omega) [ltT, ltF, get_in, add1', -Int.natCast_add]
      refine ⟨(i + 1, j), ?_⟩
      simp [keep_cl, trunc, -Int.natCast_add]
      and_intros <;> first | omega | skip
      rw [List.drop_eq_nil_of_le (as := fv) (by omega)]
      exact List.nil_sublist _
  · have hjl : j = fv.length := by
      rw [List.drop_eq_nil_of_le (as := vs) (by omega)] at hsub
      have := List.drop_eq_nil_iff.1 (List.sublist_nil.1 hsub)
      omega
    subst hjl
    have := idx_lt fv (say vs n)
    simp (disch := omega) [ltF, get_in, sem, List.getD_eq_getElem?_getD]
end Go.Ev

/- What the functions of bits compute: plain, Do, Eval, Apart. -/
namespace Go.Ev
open Go Go.RowKit
variable {G : Tbl}
set_option maxRecDepth 10000
set_option maxHeartbeats 2000000
set_option linter.unusedSimpArgs false
set_option linter.unusedVariables false

def preT (tab : List Nat) (j n : Nat) : List Nat := ((List.range n).filter fun n => !n.testBit j).map fun n => tab.getD n 0
theorem preT_len (tab : List Nat) (j n : Nat) : (preT tab j n).length ≤ n := by
  have := List.length_filter_le (fun n => !n.testBit j) (List.range n)
  simp [preT] at this ⊢; exact this
theorem preT_yes {tab : List Nat} {j n : Nat} (h : n.testBit j = false) : preT tab j (n + 1) = preT tab j n ++ [tab.getD n 0] := by simp [preT, List.range_succ, List.filter_append, h]
theorem preT_no {tab : List Nat} {j n : Nat} (h : n.testBit j = true) : preT tab j (n + 1) = preT tab j n := by simp [preT, List.range_succ, List.filter_append, h]

theorem plain_ok (hG : HasBits G) (vs : List Int) (tab : List Nat) (hl : tab.length = 2 ^ vs.length) (h4 : vs.length ≤ 4) (hn : vs.Nodup) :
    ∃ vs' tab', FP G 106 [FV vs tab] (FV vs' tab') ∧ vs'.Sublist vs ∧ tab'.length = 2 ^ vs'.length ∧ (∀ p, sem vs' tab' p = sem vs tab p) ∧ ∀ v ∈ vs', dep (sem vs' tab') v := by
  suffices h : ∃ r, FP G 106 [FV vs tab] r ∧ ∃ vs' tab', r = FV vs' tab' ∧ vs'.Sublist vs ∧ tab'.length = 2 ^ vs'.length ∧ (∀ p, sem vs' tab' p = sem vs tab p) ∧ ∀ v ∈ vs', dep (sem vs' tab') v by
    obtain ⟨r, hr, vs', tab', rfl, rest⟩ := h
    exact ⟨vs', tab', hr, rest⟩
  refine FPx_of hG.h_bits_plain (Nat.le_of_ble_eq_true rfl) ?_
  simp [FV]
  refine W_state (fun s : List Int × Tk × List Nat × Nat => s.1.length * 100 + (50 - s.2.2.2))
    (fun s => [(1, .ptr 0 0), (2, .ptr 1 0), (3, .int .i64 s.2.2.2)])
    (fun s => [some (.cells [.vs (ints .i64 s.1) s.2.1, .vs (nats .u32 s.2.2.1) .no]), some (.cells [.vs [] .full, .vs [] .full])])
    (fun s => s.1.Sublist vs ∧ (s.2.1 = .no ∨ s.2.1 = .full) ∧ s.2.2.1.length = 2 ^ s.1.length ∧ (∀ p, sem s.1 s.2.2.1 p = sem vs tab p) ∧ s.2.2.2 ≤ s.1.length ∧ ∀ m, m < s.2.2.2 → cnt s.2.2.1 m = true)
    (vs, .no, tab, 0) ?_ ?_
  · simp [keep_cl, trunc, hl]
  rintro ⟨us, tk, tb, j⟩ ⟨hsub, htk, htl, hsem, hj, hcnt⟩
  simp only at hsub htk htl hsem hj hcnt
  have hul := hsub.length_le
  have hnd : us.Nodup := hn.sublist hsub
  have h2 : tb.length ≤ 16 := by rw [htl, show 16 = 2 ^ 4 from rfl]; exact Nat.pow_le_pow_right (by decide) (by omega)
  by_cases hlt : j < us.length
  · simp (disch := omega) [ltT]
    have hfl : V.nf (V.cl 0 (.agg [.vs (ints .i64 us) tk, .vs (nats .u32 tb) .no])) = FV us tb := by rcases htk with rfl | rfl <;> simp [FV]
    refine callP_of (counts_ok hG us tb j (by omega) (by omega) (tab_in (by omega) htl hlt)) ?_
    cases hc : cnt tb j
    case true =>
      simp (disch := omega) [add1', -Int.natCast_add]
      refine ⟨(us, tk, tb, j + 1), ?_⟩
      have hall : ∀ m, m < j + 1 → cnt tb m = true := fun m hm => by
        by_cases e : m = j
        · subst e; exact hc
        · exact hcnt m (by omega)
      rcases htk with rfl | rfl <;> (simp [keep_cl, trunc, hsub, htl, hsem, -Int.natCast_add]; exact ⟨by omega, by omega, hall⟩)
    case false =>
      have htc : ∀ n, Tk.cl n tk = tk := fun n => by rcases htk with rfl | rfl <;> rfl
      have hune : us ≠ [] := fun e => by simp [e] at hlt
      have hfull : (us.drop (j + 1)).take (us.length - (j + 1)) = us.drop (j + 1) := by rw [List.take_of_length_le]; simp
      have her : us.eraseIdx j = us.take j ++ us.drop (j + 1) := List.eraseIdx_eq_take_drop_succ us j
      obtain ⟨k, hk⟩ : ∃ k, us.length = k + 1 := ⟨us.length - 1, by omega⟩
      have hle : (us.take j ++ us.drop (j + 1)).length = k := by rw [← her, List.length_eraseIdx_of_lt hlt]; omega
      have remL : (remT tb j).length = 2 ^ k := remT_len (by rw [htl, hk]) (by omega)
      have hsem' : ∀ p, sem (us.take j ++ us.drop (j + 1)) (remT tb j) p = sem vs tab p := fun p => by rw [← her, sem_rem hnd htl hlt hc, hsem]
      have hsubE : (us.take j ++ us.drop (j + 1)).Sublist vs := by rw [← her]; exact (List.eraseIdx_sublist us j).trans hsub
      have hk' : min j us.length + (us.length - (j + 1)) = k := by omega
      have preT_all : preT tb j tb.length = remT tb j := rfl
      by_cases hz : j = 0
      · have htake : us.take j = [] := by rw [hz]; rfl
        by_cases hla : us.length = j + 1
        · have hdrop : us.drop (j + 1) = [] := List.drop_eq_nil_of_le (by omega)
          simp (disch := omega) [bounds, leT, addN1, leTn, ints_take, ints_drop, ints_eq_nil, ints_append, eqTn, eqFn, hfull, htake, hdrop, -Int.natCast_add]
          refine W_up tb.length (fun n => [(1, .ptr 0 0), (2, .ptr 1 0), (3, .int .i64 j), (4, .ptr 2 0), (32, .int .i64 tb.length), (33, .int .i64 n)])
            (fun n => [some (.cells [.vs (ints .i64 us) tk, .vs (nats .u32 tb) .no]), some (.cells [.vs [] .full, .vs [] .full]), some (.cells [.vs (ints .i64 (us.take j ++ us.drop (j + 1))) .full, .vs (nats .u32 (preT tb j n)) (.own 5)]), none, none, some (.zone (preT tb j n).length)])
            (fun _ => True) ?_ ?_
          · simp [keep_cl, trunc, preT, htc, htake, hdrop]
          intro n hn _
          by_cases hnl : n < tb.length
          · have hpl := preT_len tb j n
            have hb : n / 2 ^ j < 9223372036854775808 := Nat.lt_of_le_of_lt (Nat.div_le_self _ _) (by omega)
            cases hbit : n.testBit j
            · have hb0 : n / 2 ^ j % 2 = 0 := by rw [toNat_bit, hbit]; rfl
              have hg : tb.getD n 0 = tb[n] := by simp [List.getD_eq_getElem?_getD, hnl]
              simp (disch := omega) [ltT, ltF, shr64, and1 hb, hb0, leTn, get_in, add1', keep_cl, trunc, hnl, preT_yes hbit, hg, htc, -Int.natCast_add, -Int.natCast_ediv, -Int.natCast_emod]
            · have hb1 : n / 2 ^ j % 2 = 1 := by rw [toNat_bit, hbit]; rfl
              simp (disch := omega) [ltT, ltF, shr64, and1 hb, hb1, get_in, add1', keep_cl, trunc, hnl, preT_no hbit, htc, -Int.natCast_add, -Int.natCast_ediv, -Int.natCast_emod]
          · have hne : n = tb.length := by omega
            subst hne
            simp (disch := omega) [ltF, addI64]
            refine ⟨(us.eraseIdx j, .full, remT tb j, 0), ?_⟩
            simp [keep_cl, trunc, her, preT_all, remL, hsem', hsubE, htc, hk']
            omega
        · have hdrop : us.drop (j + 1) ≠ [] := fun e => by have := List.drop_eq_nil_iff.1 e; omega
          simp (disch := omega) [bounds, leT, addN1, leTn, ints_take, ints_drop, ints_eq_nil, ints_append, eqTn, eqFn, hfull, htake, hdrop, -Int.natCast_add]
          refine W_up tb.length (fun n => [(1, .ptr 0 0), (2, .ptr 1 0), (3, .int .i64 j), (4, .ptr 2 0), (32, .int .i64 tb.length), (33, .int .i64 n)])
            (fun n => [some (.cells [.vs (ints .i64 us) tk, .vs (nats .u32 tb) .no]), some (.cells [.vs [] .full, .vs [] .full]), some (.cells [.vs (ints .i64 (us.take j ++ us.drop (j + 1))) (.own 4), .vs (nats .u32 (preT tb j n)) (.own 5)]), none, some (.zone (us.length - (j + 1))), some (.zone (preT tb j n).length)])
            (fun _ => True) ?_ ?_
          · simp [keep_cl, trunc, preT, htc, htake, hdrop]
          intro n hn _
          by_cases hnl : n < tb.length
          · have hpl := preT_len tb j n
            have hb : n / 2 ^ j < 9223372036854775808 := Nat.lt_of_le_of_lt (Nat.div_le_self _ _) (by omega)
            cases hbit : n.testBit j
            · have hb0 : n / 2 ^ j % 2 = 0 := by rw [toNat_bit, hbit]; rfl
              have hg : tb.getD n 0 = tb[n] := by simp [List.getD_eq_getElem?_getD, hnl]
              simp (disch := omega) [ltT, ltF, shr64, and1 hb, hb0, leTn, get_in, add1', keep_cl, trunc, hnl, preT_yes hbit, hg, htc, -Int.natCast_add, -Int.natCast_ediv, -Int.natCast_emod]
            · have hb1 : n / 2 ^ j % 2 = 1 := by rw [toNat_bit, hbit]; rfl
              simp (disch := omega) [ltT, ltF, shr64, and1 hb, hb1, get_in, add1', keep_cl, trunc, hnl, preT_no hbit, htc, -Int.natCast_add, -Int.natCast_ediv, -Int.natCast_emod]
          · have hne : n = tb.length := by omega
            subst hne
            simp (disch := omega) [ltF, addI64]
            refine ⟨(us.eraseIdx j, .no, remT tb j, 0), ?_⟩
            simp [keep_cl, trunc, her, preT_all, remL, hsem', hsubE, htc, hk']
            omega
      · have htake : us.take j ≠ [] := fun e => by rcases List.take_eq_nil_iff.1 e with h | h; exact hz h; exact hune h
        by_cases hla : us.length = j + 1
        · have hdrop : us.drop (j + 1) = [] := List.drop_eq_nil_of_le (by omega)
          simp (disch := omega) [bounds, leT, addN1, leTn, ints_take, ints_drop, ints_eq_nil, ints_append, eqTn, eqFn, hfull, htake, hdrop, -Int.natCast_add]
          refine W_up tb.length (fun n => [(1, .ptr 0 0), (2, .ptr 1 0), (3, .int .i64 j), (4, .ptr 2 0), (32, .int .i64 tb.length), (33, .int .i64 n)])
            (fun n => [some (.cells [.vs (ints .i64 us) tk, .vs (nats .u32 tb) .no]), some (.cells [.vs [] .full, .vs [] .full]), some (.cells [.vs (ints .i64 (us.take j ++ us.drop (j + 1))) (.own 3), .vs (nats .u32 (preT tb j n)) (.own 5)]), some (.zone j), none, some (.zone (preT tb j n).length)])
            (fun _ => True) ?_ ?_
          · simp [keep_cl, trunc, preT, htc, htake, hdrop]
          intro n hn _
          by_cases hnl : n < tb.length
          · have hpl := preT_len tb j n
            have hb : n / 2 ^ j < 9223372036854775808 := Nat.lt_of_le_of_lt (Nat.div_le_self _ _) (by omega)
            cases hbit : n.testBit j
            · have hb0 : n / 2 ^ j % 2 = 0 := by rw [toNat_bit, hbit]; rfl
              have hg : tb.getD n 0 = tb[n] := by simp [List.getD_eq_getElem?_getD, hnl]
              simp (disch := omega) [ltT, ltF, shr64, and1 hb, hb0, leTn, get_in, add1', keep_cl, trunc, hnl, preT_yes hbit, hg, htc, -Int.natCast_add, -Int.natCast_ediv, -Int.natCast_emod]
            · have hb1 : n / 2 ^ j % 2 = 1 := by rw [toNat_bit, hbit]; rfl
              simp (disch := omega) [ltT, ltF, shr64, and1 hb, hb1, get_in, add1', keep_cl, trunc, hnl, preT_no hbit, htc, -Int.natCast_add, -Int.natCast_ediv, -Int.natCast_emod]
          · have hne : n = tb.length := by omega
            subst hne
            simp (disch := omega) [ltF, addI64]
            refine ⟨(us.eraseIdx j, .no, remT tb j, 0), ?_⟩
            simp [keep_cl, trunc, her, preT_all, remL, hsem', hsubE, htc, hk']
            omega
        · have hdrop : us.drop (j + 1) ≠ [] := fun e => by have := List.drop_eq_nil_iff.1 e; omega
          simp (disch := omega) [bounds, leT, addN1, leTn, ints_take, ints_drop, ints_eq_nil, ints_append, eqTn, eqFn, hfull, htake, hdrop, -Int.natCast_add]
          refine W_up tb.length (fun n => [(1, .ptr 0 0), (2, .ptr 1 0), (3, .int .i64 j), (4, .ptr 2 0), (32, .int .i64 tb.length), (33, .int .i64 n)])
            (fun n => [some (.cells [.vs (ints .i64 us) tk, .vs (nats .u32 tb) .no]), some (.cells [.vs [] .full, .vs [] .full]), some (.cells [.vs (ints .i64 (us.take j ++ us.drop (j + 1))) (.own 3), .vs (nats .u32 (preT tb j n)) (.own 5)]), some (.zone (j + (us.length - (j + 1)))), none, some (.zone (preT tb j n).length)])
            (fun _ => True) ?_ ?_
          · simp [keep_cl, trunc, preT, htc, htake, hdrop]
          intro n hn _
          by_cases hnl : n < tb.length
          · have hpl := preT_len tb j n
            have hb : n / 2 ^ j < 9223372036854775808 := Nat.lt_of_le_of_lt (Nat.div_le_self _ _) (by omega)
            cases hbit : n.testBit j
            · have hb0 : n / 2 ^ j % 2 = 0 := by rw [toNat_bit, hbit]; rfl
              have hg : tb.getD n 0 = tb[n] := by simp [List.getD_eq_getElem?_getD, hnl]
              simp (disch := omega) [ltT, ltF, shr64, and1 hb, hb0, leTn, get_in, add1', keep_cl, trunc, hnl, preT_yes hbit, hg, htc, -Int.natCast_add, -Int.natCast_ediv, -Int.natCast_emod]
            · have hb1 : n / 2 ^ j % 2 = 1 := by rw [toNat_bit, hbit]; rfl
              simp (disch := omega) [ltT, ltF, shr64, and1 hb, hb1, get_in, add1', keep_cl, trunc, hnl, preT_no hbit, htc, -Int.natCast_add, -Int.natCast_ediv, -Int.natCast_emod]
          · have hne : n = tb.length := by omega
            subst hne
            simp (disch := omega) [ltF, addI64]
            refine ⟨(us.eraseIdx j, .no, remT tb j, 0), ?_⟩
            simp [keep_cl, trunc, her, preT_all, remL, hsem', hsubE, htc, hk']
            omega
  · have hju : j = us.length := by omega
    subst hju
    simp (disch := omega) [ltF]
    refine ⟨us, tb, ?_⟩
    have hd : ∀ v ∈ us, dep (sem us tb) v := fun v hv => by
      obtain ⟨i, hi, rfl⟩ := List.mem_iff_getElem.1 hv
      exact (cnt_iff hnd htl (List.getElem?_eq_getElem hi)).1 (hcnt i hi)
    rcases htk with rfl | rfl <;> simp [FV, hsub, htl, hsem] <;> exact hd
end Go.Ev

/- What the functions of bits compute: Do, Eval, Apart. -/
namespace Go.Ev
open Go Go.RowKit
variable {G : Tbl}
set_option maxRecDepth 10000
set_option maxHeartbeats 2000000
set_option linter.unusedSimpArgs false
set_option linter.unusedVariables false

theorem sem_lt {vs : List Int} {tab : List Nat} (h : ∀ w ∈ tab, w < 4294967296) (p : Int → Bool) : sem vs tab p < 4294967296 := by
  simp only [sem, List.getD_eq_getElem?_getD]
  cases hq : tab[idx vs p]? with
  | none => simp
  | some w => exact h w (List.mem_of_getElem? hq)

theorem tell_ok (hG : HasBits G) (kind : Int) (fv gv vs : List Int) (ft gt : List Nat) (b3 b5 b6 : Option Blk) (x : V) (n : Nat)
    (hf : ft.length = 2 ^ fv.length) (hg : gt.length = 2 ^ gv.length) (hft : ∀ w ∈ ft, w < 4294967296) (hgt : ∀ w ∈ gt, w < 4294967296)
    (hfs : fv.Sublist vs) (hgs : gv.Sublist vs) (hnd : vs.Nodup) (hv : vs.length ≤ 30) (hn : n < 2 ^ 31)
    (H : Heap) (hH : H = [some (.cells [.int .i64 kind]), some (.cells [.vs (ints .i64 fv) .no, .vs (nats .u32 ft) .no]), some (.cells [.vs (ints .i64 gv) .no, .vs (nats .u32 gt) .no]), b3, some (.cells [.vs (ints .i64 vs) .no, x]), b5, b6]) :
    Big G (.F 108 [.int .i64 n, .ptr 0 0, .ptr 1 0, .ptr 4 0, .ptr 2 0] H (.int .u32 ((doW kind (sem fv ft (say vs n)) (sem gv gt (say vs n))).1 : Nat)) H) := by
  subst hH
  refine F_of hG.h_bits_Do_1 (Nat.le_of_ble_eq_true rfl) ?_
  simp
  refine callP_of (at_ok hG fv ft vs n hf hfs hnd hv hn) ?_
  simp
  refine callP_of (at_ok hG gv gt vs n hg hgs hnd hv hn) ?_
  simp
  refine callP_of (doW_ok hG.toHasWd kind _ _ (sem_lt hft _) (sem_lt hgt _)) ?_
  simp

/-- Which forms something can be done with. -/
def DoOk (kind : Int) (fv gv : List Int) (ft gt : List Nat) : Prop := (kind = 68 ∨ kind = 84 ∨ kind = 164) ∧ Right fv ft ∧ Right gv gt ∧ (mer fv gv).length ≤ 4
theorem doW_lt {kind : Int} {a b : Nat} (h : kind = 68 ∨ kind = 84 ∨ kind = 164) (ha : a < 4294967296) (hb : b < 4294967296) : (doW kind a b).1 < 4294967296 := by
  rcases h with rfl | rfl | rfl <;> simp [doW]
  · exact Nat.or_lt_two_pow (n := 32) ha hb
  · exact Nat.and_lt_two_pow (n := 32) _ hb
  · exact Nat.xor_lt_two_pow (n := 32) ha hb

theorem Do_ok (hG : HasBits G) (kind : Int) (fv gv : List Int) (ft gt : List Nat) (hfl : fv.length ≤ 9223372036854775807) (hgl : gv.length ≤ 9223372036854775807) (hfl' : ft.length ≤ 9223372036854775807) (hgl' : gt.length ≤ 9223372036854775807)
    (hft : ∀ w ∈ ft, w < 4294967296) (hgt : ∀ w ∈ gt, w < 4294967296) :
    ∃ r, FP G 109 [.int .i64 kind, FV fv ft, FV gv gt] r ∧
      ((¬ DoOk kind fv gv ft gt ∧ r = .tup [FV [] [], .bool false]) ∨
       (DoOk kind fv gv ft gt ∧ ∃ vs tab, r = .tup [FV vs tab, .bool true] ∧ Right vs tab ∧ (∀ w ∈ tab, w < 4294967296) ∧ ∀ p, sem vs tab p = (doW kind (sem fv ft p) (sem gv gt p)).1)) := by
  refine FPx_of hG.h_bits_Do (Nat.le_of_ble_eq_true rfl) ?_
  simp [FV]
  by_cases hk : kind = 68 ∨ kind = 84 ∨ kind = 164
  case neg =>
    have h1 : kind ≠ 68 := fun e => hk (.inl e)
    have h2 : kind ≠ 84 := fun e => hk (.inr (.inl e))
    have h3 : kind ≠ 164 := fun e => hk (.inr (.inr e))
    simp [h1, h2, h3, bneT, DoOk, FV]
  have bad : ∀ b : Bool, rightB fv ft = b → True := fun _ _ => trivial
  cases hrf : rightB fv ft
  · have hnr : ¬ Right fv ft := fun h => by rw [rightB_iff.2 h] at hrf; cases hrf
    rcases hk with rfl | rfl | rfl <;> (simp; refine callP_of (Right_ok hG fv ft hfl hfl') ?_; simp [hrf, DoOk, hnr, FV])
  cases hrg : rightB gv gt
  · have hnr : ¬ Right gv gt := fun h => by rw [rightB_iff.2 h] at hrg; cases hrg
    rcases hk with rfl | rfl | rfl <;> (simp; refine callP_of (Right_ok hG fv ft hfl hfl') ?_; simp [hrf]; refine callP_of (Right_ok hG gv gt hgl hgl') ?_; simp [hrg, DoOk, hnr, FV])
  have Rf := rightB_iff.1 hrf
  have Rg := rightB_iff.1 hrg
  have hml := mer_len fv gv
  have h4f := Rf.1
  have h4g := Rg.1
  by_cases hm : (mer fv gv).length ≤ 4
  case neg =>
    rcases hk with rfl | rfl | rfl <;> (simp; refine callP_of (Right_ok hG fv ft hfl hfl') ?_; simp [hrf]; refine callP_of (Right_ok hG gv gt hgl hgl') ?_; simp [hrg]
                                        refine callP_of (union_ok hG fv gv (by omega)) ?_; simp (disch := omega) [ltT, DoOk, hm, FV])
  have hup := mer_up fv gv Rf.up Rg.up
  have hnd := hup.nodup
  have hfs : fv.Sublist (mer fv gv) := up_sub Rf.up hup fun v hv => (mem_mer _ _).2 (.inl hv)
  have hgs : gv.Sublist (mer fv gv) := up_sub Rg.up hup fun v hv => (mem_mer _ _).2 (.inr hv)
  have hok : DoOk kind fv gv ft gt := ⟨hk, Rf, Rg, hm⟩
  have h16 : 2 ^ (mer fv gv).length ≤ 16 := by rw [show 16 = 2 ^ 4 from rfl]; exact Nat.pow_le_pow_right (by decide) hm
  obtain ⟨vs', tab', hp, hsub, htl, hsem, hdep⟩ := plain_ok hG (mer fv gv) ((List.range (2 ^ (mer fv gv).length)).map fun n => (doW kind (sem fv ft (say (mer fv gv) n)) (sem gv gt (say (mer fv gv) n))).1) (by simp) hm hnd
  have hval : ∀ p, sem vs' tab' p = (doW kind (sem fv ft p) (sem gv gt p)).1 := fun p => by
    rw [hsem]
    have hlt := idx_lt (mer fv gv) p
    have e1 : sem fv ft (say (mer fv gv) (idx (mer fv gv) p)) = sem fv ft p := sem_ext fun v hv => say_idx ((mem_mer _ _).2 (.inl hv)) p
    have e2 : sem gv gt (say (mer fv gv) (idx (mer fv gv) p)) = sem gv gt p := sem_ext fun v hv => say_idx ((mem_mer _ _).2 (.inr hv)) p
    rw [sem]
    simp [List.getD_eq_getElem?_getD, hlt, e1, e2]
  have hup' : Up vs' := hup.sublist hsub
  have hR : Right vs' tab' := by
    refine Right.of (Nat.le_trans hsub.length_le hm) htl hup' (fun v hv => ?_) hdep
    rcases (mem_mer _ _).1 (hsub.subset hv) with h | h
    · exact Rf.mem h
    · exact Rg.mem h
  have hw : ∀ w ∈ tab', w < 4294967296 := fun w hw => by
    obtain ⟨n, hn, rfl⟩ := List.mem_iff_getElem.1 hw
    rw [tab_get hup'.nodup htl hn, hval]
    exact doW_lt hk (sem_lt hft _) (sem_lt hgt _)
  have fin : DoOk kind fv gv ft gt ∧ ∃ vs tab, V.tup [FV vs' tab', .bool true] = .tup [FV vs tab, .bool true] ∧ Right vs tab ∧ (∀ w ∈ tab, w < 4294967296) ∧ ∀ p, sem vs tab p = (doW kind (sem fv ft p) (sem gv gt p)).1 :=
    ⟨hok, vs', tab', rfl, hR, hw, hval⟩
  rcases hk with rfl | rfl | rfl
  · simp; refine callP_of (Right_ok hG fv ft hfl hfl') ?_; simp [hrf]; refine callP_of (Right_ok hG gv gt hgl hgl') ?_; simp [hrg]
    refine callP_of (union_ok hG fv gv (by omega)) ?_
    simp (disch := omega) [ltT, ltF, shl1, -Int.natCast_pow]
    refine W_up (2 ^ (mer fv gv).length) (fun n => [(6, .ptr 3 0), (8, .ptr 4 0), (9, .fn 108 [.ptr 0 0, .ptr 1 0, .ptr 4 0, .ptr 2 0]), (47, .int .i64 (2 ^ (mer fv gv).length : Nat)), (48, .int .i64 n)])
      (fun n => [some (.cells [.int .i64 68]), some (.cells [.vs (ints .i64 fv) .no, .vs (nats .u32 ft) .no]), some (.cells [.vs (ints .i64 gv) .no, .vs (nats .u32 gt) .no]), some (.cells [.vs [] .full, .vs [] .full]),
        some (.cells [.vs (ints .i64 (mer fv gv)) .no, .vs (nats .u32 ((List.range n).map fun n => (doW 68 (sem fv ft (say (mer fv gv) n)) (sem gv gt (say (mer fv gv) n))).1)) (.own 5)]), some (.zone n)])
      (fun _ => True) ?_ ?_
    · simp [keep_cl, trunc, -Int.natCast_pow]
    intro n hn _
    by_cases hlt : n < 2 ^ (mer fv gv).length
    · simp (disch := omega) [ltT, -Int.natCast_pow, -Int.natCast_add]
      refine callV_of (tell_ok hG 68 fv gv (mer fv gv) ft gt _ _ _ _ n Rf.2.1 Rg.2.1 hft hgt hfs hgs hnd (by omega) (by omega) _ rfl) (by simp [trunc]) ?_
      simp (disch := omega) [leTn, add1', trunc, keep_cl, hlt, List.range_succ, -Int.natCast_pow, -Int.natCast_add]
    · have hne : n = 2 ^ (mer fv gv).length := by omega
      subst hne
      simp (disch := omega) [ltF, -Int.natCast_pow]
      refine callP_of hp ?_
      simp [FV]
      exact ⟨fin.1, vs', tab', ⟨rfl, rfl⟩, hR, hw, hval⟩
  · simp; refine callP_of (Right_ok hG fv ft hfl hfl') ?_; simp [hrf]; refine callP_of (Right_ok hG gv gt hgl hgl') ?_; simp [hrg]
    refine callP_of (union_ok hG fv gv (by omega)) ?_
    simp (disch := omega) [ltT, ltF, shl1, -Int.natCast_pow]
    refine W_up (2 ^ (mer fv gv).length) (fun n => [(6, .ptr 3 0), (8, .ptr 4 0), (9, .fn 108 [.ptr 0 0, .ptr 1 0, .ptr 4 0, .ptr 2 0]), (47, .int .i64 (2 ^ (mer fv gv).length : Nat)), (48, .int .i64 n)])
      (fun n => [some (.cells [.int .i64 84]), some (.cells [.vs (ints .i64 fv) .no, .vs (nats .u32 ft) .no]), some (.cells [.vs (ints .i64 gv) .no, .vs (nats .u32 gt) .no]), some (.cells [.vs [] .full, .vs [] .full]),
        some (.cells [.vs (ints .i64 (mer fv gv)) .no, .vs (nats .u32 ((List.range n).map fun n => (doW 84 (sem fv ft (say (mer fv gv) n)) (sem gv gt (say (mer fv gv) n))).1)) (.own 5)]), some (.zone n)])
      (fun _ => True) ?_ ?_
    · simp [keep_cl, trunc, -Int.natCast_pow]
    intro n hn _
    by_cases hlt : n < 2 ^ (mer fv gv).length
    · simp (disch := omega) [ltT, -Int.natCast_pow, -Int.natCast_add]
      refine callV_of (tell_ok hG 84 fv gv (mer fv gv) ft gt _ _ _ _ n Rf.2.1 Rg.2.1 hft hgt hfs hgs hnd (by omega) (by omega) _ rfl) (by simp [trunc]) ?_
      simp (disch := omega) [leTn, add1', trunc, keep_cl, hlt, List.range_succ, -Int.natCast_pow, -Int.natCast_add]
    · have hne : n = 2 ^ (mer fv gv).length := by omega
      subst hne
      simp (disch := omega) [ltF, -Int.natCast_pow]
      refine callP_of hp ?_
      simp [FV]
      exact ⟨fin.1, vs', tab', ⟨rfl, rfl⟩, hR, hw, hval⟩
  · simp; refine callP_of (Right_ok hG fv ft hfl hfl') ?_; simp [hrf]; refine callP_of (Right_ok hG gv gt hgl hgl') ?_; simp [hrg]
    refine callP_of (union_ok hG fv gv (by omega)) ?_
    simp (disch := omega) [ltT, ltF, shl1, -Int.natCast_pow]
    refine W_up (2 ^ (mer fv gv).length) (fun n => [(6, .ptr 3 0), (8, .ptr 4 0), (9, .fn 108 [.ptr 0 0, .ptr 1 0, .ptr 4 0, .ptr 2 0]), (47, .int .i64 (2 ^ (mer fv gv).length : Nat)), (48, .int .i64 n)])
      (fun n => [some (.cells [.int .i64 164]), some (.cells [.vs (ints .i64 fv) .no, .vs (nats .u32 ft) .no]), some (.cells [.vs (ints .i64 gv) .no, .vs (nats .u32 gt) .no]), some (.cells [.vs [] .full, .vs [] .full]),
        some (.cells [.vs (ints .i64 (mer fv gv)) .no, .vs (nats .u32 ((List.range n).map fun n => (doW 164 (sem fv ft (say (mer fv gv) n)) (sem gv gt (say (mer fv gv) n))).1)) (.own 5)]), some (.zone n)])
      (fun _ => True) ?_ ?_
    · simp [keep_cl, trunc, -Int.natCast_pow]
    intro n hn _
    by_cases hlt : n < 2 ^ (mer fv gv).length
    · simp (disch := omega) [ltT, -Int.natCast_pow, -Int.natCast_add]
      refine callV_of (tell_ok hG 164 fv gv (mer fv gv) ft gt _ _ _ _ n Rf.2.1 Rg.2.1 hft hgt hfs hgs hnd (by omega) (by omega) _ rfl) (by simp [trunc]) ?_
      simp (disch := omega) [leTn, add1', trunc, keep_cl, hlt, List.range_succ, -Int.natCast_pow, -Int.natCast_add]
    · have hne : n = 2 ^ (mer fv gv).length := by omega
      subst hne
      simp (disch := omega) [ltF, -Int.natCast_pow]
      refine callP_of hp ?_
      simp [FV]
      exact ⟨fin.1, vs', tab', ⟨rfl, rfl⟩, hR, hw, hval⟩

/-- A row of numbers as an assignment. -/
def asg (r : List Nat) : Int → Nat := fun v => r.getD v.toNat 0
theorem and_bit (w i : Nat) : w &&& 2 ^ i = 2 ^ i * (w.testBit i).toNat := by
  refine Nat.eq_of_testBit_eq fun j => ?_
  rw [Nat.testBit_and, Nat.testBit_two_pow, Nat.testBit_two_pow_mul]
  by_cases h : i = j
  · subst h; cases w.testBit i <;> simp
  · by_cases h2 : i ≤ j
    · have : (w.testBit i).toNat < 2 ^ (j - i) := Nat.lt_of_lt_of_le (by cases w.testBit i <;> simp : (w.testBit i).toNat < 2 ^ 1) (Nat.pow_le_pow_right (by decide) (by omega))
      rw [Nat.testBit_lt_two_pow this]; simp [h]
    · simp [h, h2]
theorem and1w {b : Nat} (hb : b < 4294967296) : andI .u32 (b : Int) 1 = ((b % 2 : Nat) : Int) := by
  have := and32 (a := b) (b := 1) hb (by decide)
  rw [show ((1 : Nat) : Int) = 1 from rfl] at this
  rw [this, show (1 : Nat) = 2 ^ 1 - 1 from rfl, Nat.and_two_pow_sub_one_eq_mod]
theorem conv64 {b : Nat} (hb : b < 9223372036854775808) : convI .i64 (b : Int) = (b : Int) := wrap_nat64 hb
theorem shl1w {i : Nat} (hi : i < 32) : shlI .u32 1 (i : Int) = ((2 ^ i : Nat) : Int) := by
  have := shl32 (a := 1) (j := i) (by omega)
  rw [Nat.one_mul, Nat.mod_eq_of_lt (show 2 ^ i < 4294967296 from Nat.pow_lt_pow_right (a := 2) (n := 32) (by decide) hi)] at this
  exact this
theorem wordOf_step {f : Nat → Bool} {i : Nat} (w : Nat) (h : f i = w.testBit i) : wordOf f i ||| (w &&& 2 ^ i) = wordOf f (i + 1) := by
  rw [and_bit, wordOf, h, Nat.or_comm, ← Nat.two_pow_add_eq_or_of_lt (wordOf_lt f i)]; omega

theorem Eval_ok (hE : HasBitsE G) (vs : List Int) (tab : List Nat) (r : List Nat) (hl : vs.length ≤ 9223372036854775807) (hl' : tab.length ≤ 9223372036854775807)
    (ht : ∀ w ∈ tab, w < 4294967296) (hr : r.length = 34) (hrw : ∀ w ∈ r, w < 4294967296) :
    FP G 110 [FV vs tab, .agg (cnats .u32 r)] (.tup [.int .u32 (if rightB vs tab then (val vs tab (asg r) : Nat) else (0 : Nat)), .bool (rightB vs tab)]) := by
  have hG : HasBits G := hE.toHasBits
  refine FP_of hE.h_bits_Eval (Nat.le_of_ble_eq_true rfl) ?_
  simp [FV]
  refine callP_of (Right_ok hG vs tab hl hl') ?_
  cases hR : rightB vs tab
  · simp
  have R := rightB_iff.1 hR
  have h4 := R.1
  simp
  refine W_up 32 (fun i => [(2, .ptr 0 0), (3, .ptr 1 0), (6, .int .u32 (wordOf (fun i => (sem vs tab fun v => (asg r v).testBit i).testBit i) i : Nat)), (14, .int .i64 i)])
    (fun _ => [some (.cells [.vs (ints .i64 vs) .no, .vs (nats .u32 tab) .no]), some (.cells (cnats .u32 r))]) (fun _ => True) ?_ ?_
  · simp [keep_cl, trunc, wordOf]
  intro i hi _
  by_cases hlt : i < 32
  · simp (disch := omega) [ltT, -Int.natCast_add]
    refine W_up vs.length (fun j => [(2, .ptr 0 0), (3, .ptr 1 0), (6, .int .u32 (wordOf (fun i => (sem vs tab fun v => (asg r v).testBit i).testBit i) i : Nat)), (7, .int .i64 i), (8, .int .i64 (idx (vs.take j) (fun v => (asg r v).testBit i) : Nat)), (14, .int .i64 i), (18, .vs (ints .i64 vs) .no), (19, .int .i64 vs.length), (20, .int .i64 j)])
      (fun _ => [some (.cells [.vs (ints .i64 vs) .no, .vs (nats .u32 tab) .no]), some (.cells (cnats .u32 r))]) (fun _ => True) ?_ ?_
    · simp [keep_cl, trunc, idx]
    intro j hj _
    by_cases hjl : j < vs.length
    · have hm := R.mem (List.getElem_mem hjl)
      have hx : vs[j].toNat < r.length := by omega
      have hcell := cnats_get .u32 r vs[j].toNat hx
      have hrx := hrw _ (List.getElem_mem hx)
      have hd : r[vs[j].toNat] / 2 ^ i < 4294967296 := Nat.lt_of_le_of_lt (Nat.div_le_self _ _) hrx
      have hk : idx (vs.take j) (fun v => (asg r v).testBit i) < 2 ^ j := by have := idx_lt (vs.take j) (fun v => (asg r v).testBit i); rwa [List.length_take, Nat.min_eq_left (by omega)] at this
      have h30 : 2 ^ j ≤ 2 ^ 30 := Nat.pow_le_pow_right (by decide) (by omega)
      have h2 : r[vs[j].toNat] / 2 ^ i % 2 ≤ 1 := by omega
      have h3 : r[vs[j].toNat] / 2 ^ i % 2 * 2 ^ j ≤ 1 * 2 ^ j := Nat.mul_le_mul_right _ h2
      have h5 : idx (vs.take (j + 1)) (fun v => (asg r v).testBit i) = idx (vs.take j) (fun v => (asg r v).testBit i) ||| r[vs[j].toNat] / 2 ^ i % 2 * 2 ^ j := by
        rw [or_bit hk h2, List.take_add_one, idx_append, List.getElem?_eq_getElem hjl, List.length_take, Nat.min_eq_left (by omega), toNat_bit]
        have : asg r vs[j] = r[vs[j].toNat] := by simp [asg, List.getD_eq_getElem?_getD, hx]
        simp only [Option.toList_some, idx, this, Nat.mul_zero, Nat.add_zero]
      simp (disch := omega) [ltT, ltF, leT, get_in, leTn, hcell, shr32, and1w hd, conv64, shl64, or64, add1', keep_cl, trunc, hjl, h5, -Int.natCast_add, -Int.natCast_mul, -Int.natCast_pow, -Int.natCast_emod, -Int.natCast_ediv, -List.getElem?_drop]
    · have hne : j = vs.length := by omega
      subst hne
      have hk := idx_lt vs (fun v => (asg r v).testBit i)
      rw [← R.2.1] at hk
      have hw := ht _ (List.getElem_mem hk)
      have hp : 2 ^ i < 4294967296 := Nat.pow_lt_pow_right (a := 2) (n := 32) (by decide) hlt
      have hu : wordOf (fun i => (sem vs tab fun v => (asg r v).testBit i).testBit i) i < 4294967296 := Nat.lt_trans (wordOf_lt _ i) hp
      have ha : tab[idx vs (fun v => (asg r v).testBit i)] &&& 2 ^ i < 4294967296 := Nat.lt_of_le_of_lt Nat.and_le_left hw
      have hs : sem vs tab (fun v => (asg r v).testBit i) = tab[idx vs (fun v => (asg r v).testBit i)] := by simp [sem, List.getD_eq_getElem?_getD, hk]
      have hstep := wordOf_step (f := fun i => (sem vs tab fun v => (asg r v).testBit i).testBit i) (i := i) (tab[idx vs (fun v => (asg r v).testBit i)]) (by simp only [hs])
      simp (disch := omega) [ltF, leT, get_in, shl1w hlt, and32, or32, hstep, add1', keep_cl, trunc, hlt, -Int.natCast_add, -Int.natCast_pow]
  · have hne : i = 32 := by omega
    subst hne
    simp [val]

/-- A number of variables' words: all ones where it says so. -/
def asgn (vs : List Int) (p : Int → Bool) : List Nat := (List.range 34).map fun (i : Nat) => if (i : Int) ∈ vs ∧ p (i : Int) = true then 4294967295 else 0
theorem asgn_nil (p : Int → Bool) : asgn [] p = zeros 34 := by simp [asgn, zeros]; rfl
theorem asgn_step {vs : List Int} (hn : vs.Nodup) (p : Int → Bool) {j : Nat} (hj : j < vs.length) (h0 : 0 ≤ vs[j]) :
    asgn (vs.take (j + 1)) p = (asgn (vs.take j) p).set vs[j].toNat (if p vs[j] then 4294967295 else 0) := by
  refine List.ext_getElem (by simp [asgn]) fun i h1 h2 => ?_
  simp only [asgn, List.getElem_map, List.getElem_range, List.getElem_set]
  have hmem : vs.take (j + 1) = vs.take j ++ [vs[j]] := by rw [List.take_add_one, List.getElem?_eq_getElem hj]; rfl
  have e1 : ((i : Int) ∈ vs.take (j + 1)) ↔ ((i : Int) ∈ vs.take j ∨ (i : Int) = vs[j]) := by rw [hmem]; simp only [List.mem_append, List.mem_singleton]
  by_cases e : vs[j].toNat = i
  · rw [if_pos e]
    have : (i : Int) = vs[j] := by omega
    have hin := e1.2 (.inr this)
    rw [this] at hin
    simp only [this, hin, true_and]
  · rw [if_neg e]
    have : ¬ (i : Int) = vs[j] := by omega
    simp only [e1, this, or_false]
/-- The first number that tells two forms apart. -/
def firstD (fv gv : List Int) (ft gt : List Nat) : Option Nat := (List.range (2 ^ (mer fv gv).length)).find? fun n => sem fv ft (say (mer fv gv) n) != sem gv gt (say (mer fv gv) n)
noncomputable def apartF (fv gv : List Int) (ft gt : List Nat) : List Nat × Bool :=
  if rightB fv ft = true ∧ rightB gv gt = true then (match firstD fv gv ft gt with
    | some n => (asgn (mer fv gv) (say (mer fv gv) n), true)
    | none => (zeros 34, false)) else (zeros 34, false)
theorem Apart_ok (hA : HasBitsA G) (fv gv : List Int) (ft gt : List Nat) (hfl : fv.length ≤ 9223372036854775807) (hgl : gv.length ≤ 9223372036854775807) (hfl' : ft.length ≤ 9223372036854775807) (hgl' : gt.length ≤ 9223372036854775807)
    (hft : ∀ w ∈ ft, w < 4294967296) (hgt : ∀ w ∈ gt, w < 4294967296) :
    FP G 112 [FV fv ft, FV gv gt] (.tup [.agg (cnats .u32 (apartF fv gv ft gt).1), .bool (apartF fv gv ft gt).2]) := by
  have hG : HasBits G := hA.toHasBits
  refine FP_of hA.h_bits_Apart (Nat.le_of_ble_eq_true rfl) ?_
  simp [FV]
  refine callP_of (Right_ok hG fv ft hfl hfl') ?_
  cases hrf : rightB fv ft
  · simp [apartF, hrf]
  simp [-List.reduceReplicate]
  refine callP_of (Right_ok hG gv gt hgl hgl') ?_
  cases hrg : rightB gv gt
  · simp [apartF, hrf, hrg]
  have Rf := rightB_iff.1 hrf
  have Rg := rightB_iff.1 hrg
  have hml := mer_len fv gv
  have h4f := Rf.1
  have h4g := Rg.1
  simp [-List.reduceReplicate]
  refine callP_of (union_ok hG fv gv (by omega)) ?_
  have hup := mer_up fv gv Rf.up Rg.up
  have hnd := hup.nodup
  have hfs : fv.Sublist (mer fv gv) := up_sub Rf.up hup fun v hv => (mem_mer _ _).2 (.inl hv)
  have hgs : gv.Sublist (mer fv gv) := up_sub Rg.up hup fun v hv => (mem_mer _ _).2 (.inr hv)
  have h256 : 2 ^ (mer fv gv).length ≤ 256 := by rw [show 256 = 2 ^ 8 from rfl]; exact Nat.pow_le_pow_right (by decide) (by omega)
  have hm34 : ∀ v ∈ mer fv gv, 0 ≤ v ∧ v < 34 := fun v hv => by
    rcases (mem_mer _ _).1 hv with h | h
    · exact Rf.mem h
    · exact Rg.mem h
  generalize hM : mer fv gv = M at *
  simp (disch := omega) [ltT, ltF, shl1, -Int.natCast_pow]
  refine W_up (2 ^ M.length) (fun n => [(2, .ptr 0 0), (3, .ptr 1 0), (4, .ptr 2 0), (6, .ptr 3 0), (7, .vs (ints .i64 M) .no), (27, .int .i64 (2 ^ M.length : Nat)), (28, .int .i64 n)])
    (fun n => [some (.cells [.vs (ints .i64 fv) .no, .vs (nats .u32 ft) .no]), some (.cells [.vs (ints .i64 gv) .no, .vs (nats .u32 gt) .no]), some (.cells (cnats .u32 (zeros 34))), some (.cells (cnats .u32 (zeros 34)))])
    (fun n => ∀ m, m < n → sem fv ft (say M m) = sem gv gt (say M m)) ?_ ?_
  · simp [keep_cl, trunc, -Int.natCast_pow]
  intro n hn hall
  by_cases hlt : n < 2 ^ M.length
  · simp (disch := omega) [ltT, -Int.natCast_pow, -Int.natCast_add]
    refine callP_of (at_ok hG fv ft M n Rf.2.1 hfs hnd (by omega) (by omega)) ?_
    simp [-Int.natCast_pow, -Int.natCast_add]
    refine callP_of (at_ok hG gv gt M n Rg.2.1 hgs hnd (by omega) (by omega)) ?_
    by_cases he : sem fv ft (say M n) = sem gv gt (say M n)
    · simp (disch := omega) [he, add1', keep_cl, trunc, hlt, -Int.natCast_pow, -Int.natCast_add]
      intro m hm
      by_cases hmn : m = n
      · subst hmn; exact he
      · exact hall m (by omega)
    · have hfirst : firstD fv gv ft gt = some n := by
        rw [firstD, hM, List.find?_range_eq_some]
        exact ⟨by simpa using he, by simpa using hlt, fun m hm => by simpa using hall m hm⟩
      have hap : apartF fv gv ft gt = (asgn M (say M n), true) := by simp [apartF, hrf, hrg, hfirst, hM]
      simp (disch := omega) [he, beqF, keep_cl, trunc, -Int.natCast_pow, -Int.natCast_add]
      refine W_up M.length (fun j => [(4, .ptr 2 0), (6, .ptr 3 0), (8, .int .i64 n), (40, .vs (ints .i64 M) .no), (41, .int .i64 M.length), (42, .int .i64 j)])
        (fun j => [some (.cells [.vs (ints .i64 fv) .no, .vs (nats .u32 ft) .no]), some (.cells [.vs (ints .i64 gv) .no, .vs (nats .u32 gt) .no]), some (.cells (cnats .u32 (zeros 34))), some (.cells (cnats .u32 (asgn (M.take j) (say M n))))])
        (fun j => True) ?_ ?_
      · simp [keep_cl, trunc, asgn_nil]
      intro j hj _
      by_cases hjl : j < M.length
      · have hm := hm34 _ (List.getElem_mem hjl)
        have hlen : (asgn (M.take j) (say M n)).length = 34 := by simp [asgn]
        have hset := cnats_set .u32 (asgn (M.take j) (say M n)) M[j].toNat
        have hb : n / 2 ^ j < 9223372036854775808 := Nat.lt_of_le_of_lt (Nat.div_le_self _ _) (by omega)
        have hstep := asgn_step hnd (say M n) hjl hm.1
        have hsay : say M n M[j] = n.testBit j := by simp only [say]; rw [List.Nodup.idxOf_getElem hnd]
        rw [hsay] at hstep
        have hbit := toNat_bit n j
        cases hbb : n.testBit j
        · rw [hbb] at hstep hbit
          have hs0 := hset 0 (by omega)
          have hmc : mulI .u32 4294967295 (convI .u32 0) = 0 := by decide
          simp (disch := omega) [ltT, ltF, leT, get_in, shr64, and1 hb, hbit, add1', keep_cl, trunc, hjl, hstep, leTn, hlen, hmc, hs0, -Int.natCast_pow, -Int.natCast_add, -Int.natCast_ediv, -Int.natCast_emod]
          have h3 : clL 4 ((cnats .u32 (asgn (M.take j) (say M n))).take M[j].toNat ++ V.int .u32 0 :: (cnats .u32 (asgn (M.take j) (say M n))).drop (M[j].toNat + 1)) = cnats .u32 ((asgn (M.take j) (say M n)).set M[j].toNat 0) := (congrArg (clL 4) hs0).trans (cnats_cl 4 _ _)
          exact h3
        · rw [hbb] at hstep hbit
          have hs0 := hset 4294967295 (by omega)
          have hmc : mulI .u32 4294967295 (convI .u32 1) = 4294967295 := by decide
          simp (disch := omega) [ltT, ltF, leT, get_in, shr64, and1 hb, hbit, add1', keep_cl, trunc, hjl, hstep, leTn, hlen, hmc, hs0, -Int.natCast_pow, -Int.natCast_add, -Int.natCast_ediv, -Int.natCast_emod]
          have h3 : clL 4 ((cnats .u32 (asgn (M.take j) (say M n))).take M[j].toNat ++ V.int .u32 4294967295 :: (cnats .u32 (asgn (M.take j) (say M n))).drop (M[j].toNat + 1)) = cnats .u32 ((asgn (M.take j) (say M n)).set M[j].toNat 4294967295) := (congrArg (clL 4) hs0).trans (cnats_cl 4 _ _)
          exact h3
      · have hne : j = M.length := by omega
        subst hne
        have hl34 : (asgn M (say M n)).length = 34 := by simp [asgn]
        simp (disch := omega) [ltF, hap, hl34, take_full hl34, drop_full hl34]
  · have hne : n = 2 ^ M.length := by omega
    subst hne
    have hfirst : firstD fv gv ft gt = none := by
      rw [firstD, hM, List.find?_range_eq_none]
      exact fun m hm => by simpa using hall m hm
    have hap : apartF fv gv ft gt = (zeros 34, false) := by simp [apartF, hrf, hrg, hfirst]
    simp (disch := omega) [ltF, hap, -Int.natCast_pow]
end Go.Ev

/- More of what is done with bits. -/
namespace Go.Ev
open Go Go.RowKit
variable {G : Tbl}
set_option maxRecDepth 10000
set_option maxHeartbeats 4000000
set_option linter.unusedSimpArgs false
set_option linter.unusedVariables false

theorem Do_is (hG : HasBits G) {kind : Int} {fv gv vs : List Int} {ft gt tab : List Nat} (hok : DoOk kind fv gv ft gt) (hft : ∀ w ∈ ft, w < 4294967296) (hgt : ∀ w ∈ gt, w < 4294967296) (hR : Right vs tab)
    (hs : ∀ p, sem vs tab p = (doW kind (sem fv ft p) (sem gv gt p)).1) : FP G 109 [.int .i64 kind, FV fv ft, FV gv gt] (.tup [FV vs tab, .bool true]) := by
  have h1 := hok.2.1.1
  have h2 := hok.2.2.1.1
  have h3 := tab_small h1 hok.2.1.2.1
  have h4 := tab_small h2 hok.2.2.1.2.1
  obtain ⟨r, hr, h | ⟨_, vs', tab', rfl, hR', _, hs'⟩⟩ := Do_ok hG kind fv gv ft gt (by omega) (by omega) (by omega) (by omega) hft hgt
  · exact absurd hok h.1
  · obtain ⟨rfl, rfl⟩ := canon hR' hR fun p => by rw [hs, hs']
    exact hr

theorem doW_comm {kind : Int} (h : kind = 68 ∨ kind = 84 ∨ kind = 164) (a b : Nat) : doW kind a b = doW kind b a := by
  rcases h with rfl | rfl | rfl <;> simp [doW]
  · exact Nat.or_comm _ _
  · exact Nat.and_comm _ _
  · exact Nat.xor_comm _ _
theorem val_lt (vs : List Int) (tab : List Nat) (r : Int → Nat) : val vs tab r < 4294967296 := wordOf_lt _ 32
theorem val_do {kind : Int} {fv gv vs : List Int} {ft gt tab : List Nat} (h : kind = 68 ∨ kind = 84 ∨ kind = 164) (hs : ∀ p, sem vs tab p = (doW kind (sem fv ft p) (sem gv gt p)).1) (r : Int → Nat) :
    val vs tab r = (doW kind (val fv ft r) (val gv gt r)).1 := by
  refine Nat.eq_of_testBit_eq fun i => ?_
  have hv : ∀ (v : List Int) (t : List Nat), (val v t r).testBit i = (decide (i < 32) && (sem v t fun u => (r u).testBit i).testBit i) := fun v t => by rw [val, wordOf_bit]
  rcases h with rfl | rfl | rfl <;> simp only [doW] at hs ⊢ <;> simp at hs ⊢ <;> (rw [hv, hs]; simp [hv]; try (cases decide (i < 32) <;> simp))

end Go.Ev
