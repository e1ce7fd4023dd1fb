/- Forms of a few variables and a table: plain mathematics, with no program in sight. -/

namespace Go.Ev
set_option linter.unusedSimpArgs false
set_option linter.unusedVariables false

/-- Does variable number j count? -/
def cnt (tab : List Nat) (j : Nat) : Bool := (List.range tab.length).any fun n => tab[n]? != tab[n ^^^ 2 ^ j]?
/-- What is right of variable number j. -/
def okAt (vars : List Int) (tab : List Nat) (j : Nat) : Prop :=
  ∃ v, vars[j]? = some v ∧ 0 ≤ v ∧ v < 34 ∧ (∀ u, 0 < j → vars[j - 1]? = some u → u < v) ∧ cnt tab j = true
def Right (vars : List Int) (tab : List Nat) : Prop := vars.length ≤ 4 ∧ tab.length = 2 ^ vars.length ∧ ∀ j, j < vars.length → okAt vars tab j
open Classical in
noncomputable def rightB (vars : List Int) (tab : List Nat) : Bool := decide (Right vars tab)
theorem rightB_iff {vars : List Int} {tab : List Nat} : rightB vars tab = true ↔ Right vars tab := by simp [rightB]

/-- Strictly rising. -/
abbrev Up (l : List Int) : Prop := l.Pairwise (· < ·)
theorem up_ext : ∀ {a b : List Int}, Up a → Up b → (∀ v, v ∈ a ↔ v ∈ b) → a = b
  | [], [], _, _, _ => rfl
  | [], y :: b, _, _, h => absurd ((h y).2 (by simp)) (by simp)
  | x :: a, [], _, _, h => absurd ((h x).1 (by simp)) (by simp)
  | x :: a, y :: b, ha, hb, h => by
    have ha' := List.pairwise_cons.1 ha
    have hb' := List.pairwise_cons.1 hb
    have hxy : x = y := by
      rcases List.mem_cons.1 ((h x).1 (by simp)) with e | e
      · exact e
      rcases List.mem_cons.1 ((h y).2 (by simp)) with e' | e'
      · exact e'.symm
      have := hb'.1 x e; have := ha'.1 y e'; omega
    subst hxy
    rw [up_ext ha'.2 hb'.2 fun v => ?_]
    constructor
    · intro hv
      have h1 := ha'.1 v hv
      rcases List.mem_cons.1 ((h v).1 (by simp [hv])) with e | e
      · omega
      · exact e
    · intro hv
      have h1 := hb'.1 v hv
      rcases List.mem_cons.1 ((h v).2 (by simp [hv])) with e | e
      · omega
      · exact e
theorem Up.nodup {l : List Int} (h : Up l) : l.Nodup := h.imp (fun h e => by omega)
theorem up_of {l : List Int} (h : ∀ j, 0 < j → ∀ u v, l[j - 1]? = some u → l[j]? = some v → u < v) : Up l := by
  induction l with
  | nil => simp
  | cons x l ih =>
    rw [Up, List.pairwise_cons]
    have htl : Up l := ih (fun j hj u v hu hv => by
      refine h (j + 1) (by omega) u v ?_ (by simpa using hv)
      obtain ⟨k, rfl⟩ : ∃ k, j = k + 1 := ⟨j - 1, by omega⟩
      simpa using hu)
    refine ⟨?_, htl⟩
    intro v hv
    cases l with
    | nil => cases hv
    | cons y l =>
      have hxy : x < y := h 1 (by omega) x y (by simp) (by simp)
      rcases List.mem_cons.1 hv with e | e
      · omega
      · have := (List.pairwise_cons.1 htl).1 v e; omega
theorem Right.up {vars : List Int} {tab : List Nat} (h : Right vars tab) : Up vars := up_of fun j hj u v hu hv => by
  have hlt : j < vars.length := by
    rcases Nat.lt_or_ge j vars.length with h | h
    · exact h
    · rw [List.getElem?_eq_none h] at hv; cases hv
  obtain ⟨w, hw, _, _, h3, _⟩ := h.2.2 j hlt
  rw [hv] at hw; cases hw
  exact h3 u hj hu
theorem Right.mem {vars : List Int} {tab : List Nat} (h : Right vars tab) {v : Int} (hv : v ∈ vars) : 0 ≤ v ∧ v < 34 := by
  obtain ⟨j, hj, rfl⟩ := List.mem_iff_getElem.1 hv
  obtain ⟨w, hw, h1, h2, _⟩ := h.2.2 j hj
  rw [List.getElem?_eq_getElem hj] at hw; cases hw
  exact ⟨h1, h2⟩

theorem nodup_inj {l : List Int} (h : l.Nodup) {i j : Nat} {hi : i < l.length} {hj : j < l.length} (e : l[i] = l[j]) : i = j := by
  rcases Nat.lt_trichotomy i j with hl | hl | hl
  · exact absurd e (List.pairwise_iff_getElem.1 h _ _ _ _ hl)
  · exact hl
  · exact absurd e.symm (List.pairwise_iff_getElem.1 h _ _ _ _ hl)

/-- Two rising lists as one. -/
def mer : List Int → List Int → List Int
  | [], b => b
  | a, [] => a
  | x :: a, y :: b => if x < y then x :: mer a (y :: b) else if y < x then y :: mer (x :: a) b else x :: mer a b
termination_by a b => a.length + b.length
theorem mer_nil (a : List Int) : mer a [] = a := by cases a <;> simp [mer]
theorem mem_mer {v : Int} (a b : List Int) : v ∈ mer a b ↔ v ∈ a ∨ v ∈ b := by
  fun_induction mer a b with
  | case1 b => simp
  | case2 a h => simp
  | case3 x a y b h ih =>
    simp only [List.mem_cons, ih]
    constructor
    · rintro (h | h | h | h) <;> simp [h]
    · rintro ((h | h) | h | h) <;> simp [h]
  | case4 x a y b h h2 ih =>
    simp only [List.mem_cons, ih]
    constructor
    · rintro (h | (h | h) | h) <;> simp [h]
    · rintro ((h | h) | h | h) <;> simp [h]
  | case5 x a y b h h2 ih =>
    have : x = y := by omega
    subst this
    simp [ih]; constructor
    · rintro (h | h | h) <;> simp [h]
    · rintro ((h | h) | h | h) <;> simp [h]
theorem mer_up (a b : List Int) (ha : Up a) (hb : Up b) : Up (mer a b) := by
  fun_induction mer a b with
  | case1 b => exact hb
  | case2 a h => exact ha
  | case3 x a y b h ih =>
    have ha' := List.pairwise_cons.1 ha
    have hb' := List.pairwise_cons.1 hb
    refine List.pairwise_cons.2 ⟨fun v hv => ?_, ih ha'.2 hb⟩
    rcases (mem_mer _ _).1 hv with h1 | h1
    · exact ha'.1 v h1
    · rcases List.mem_cons.1 h1 with e | e
      · omega
      · have := hb'.1 v e; omega
  | case4 x a y b h h2 ih =>
    have ha' := List.pairwise_cons.1 ha
    have hb' := List.pairwise_cons.1 hb
    refine List.pairwise_cons.2 ⟨fun v hv => ?_, ih ha hb'.2⟩
    rcases (mem_mer _ _).1 hv with h1 | h1
    · rcases List.mem_cons.1 h1 with e | e
      · omega
      · have := ha'.1 v e; omega
    · exact hb'.1 v h1
  | case5 x a y b h h2 ih =>
    have ha' := List.pairwise_cons.1 ha
    have hb' := List.pairwise_cons.1 hb
    refine List.pairwise_cons.2 ⟨fun v hv => ?_, ih ha'.2 hb'.2⟩
    rcases (mem_mer _ _).1 hv with h1 | h1
    · exact ha'.1 v h1
    · have := hb'.1 v h1; omega
theorem mer_len (a b : List Int) : (mer a b).length ≤ a.length + b.length := by
  fun_induction mer a b <;> simp_all <;> omega
theorem up_sub : ∀ {a b : List Int}, Up a → Up b → (∀ v ∈ a, v ∈ b) → a.Sublist b
  | [], _, _, _, _ => List.nil_sublist _
  | x :: a, [], _, _, h => absurd (h x (by simp)) (by simp)
  | x :: a, y :: b, ha, hb, h => by
    have ha' := List.pairwise_cons.1 ha
    have hb' := List.pairwise_cons.1 hb
    by_cases e : x = y
    · subst e
      refine List.Sublist.cons_cons _ (up_sub ha'.2 hb'.2 fun v hv => ?_)
      rcases List.mem_cons.1 (h v (by simp [hv])) with e | e
      · have := ha'.1 v hv; omega
      · exact e
    · refine List.Sublist.cons _ (up_sub ha hb'.2 fun v hv => ?_)
      rcases List.mem_cons.1 (h v hv) with e' | e'
      · subst e'
        rcases List.mem_cons.1 hv with e2 | e2
        · exact absurd e2.symm e
        · rcases List.mem_cons.1 (h x (by simp)) with e3 | e3
          · exact absurd e3 e
          · have := ha'.1 v e2; have := hb'.1 x e3; omega
      · exact e'
termination_by a b => a.length + b.length

/-- The place in the table of what is said of the variables. -/
def idx : List Int → (Int → Bool) → Nat
  | [], _ => 0
  | v :: vs, p => (p v).toNat + 2 * idx vs p
theorem idx_lt : ∀ (vs : List Int) (p : Int → Bool), idx vs p < 2 ^ vs.length
  | [], _ => by simp [idx]
  | v :: vs, p => by
    have := idx_lt vs p
    have h2 : (p v).toNat ≤ 1 := by cases p v <;> simp
    simp only [idx, List.length_cons, Nat.pow_succ]; omega
theorem idx_append (p : Int → Bool) : ∀ (a b : List Int), idx (a ++ b) p = idx a p + 2 ^ a.length * idx b p
  | [], b => by simp [idx]
  | v :: a, b => by
    simp only [List.cons_append, idx, idx_append p a b, List.length_cons, Nat.pow_succ]
    have : 2 ^ a.length * 2 * idx b p = 2 * (2 ^ a.length * idx b p) := by rw [Nat.mul_comm (2 ^ a.length) 2, Nat.mul_assoc]
    omega
theorem idx_bit (p : Int → Bool) : ∀ (vs : List Int) (j : Nat), (idx vs p).testBit j = (vs[j]?.map p).getD false
  | [], j => by simp [idx]
  | v :: vs, 0 => by
    simp only [idx, Nat.testBit_zero, List.getElem?_cons_zero, Option.map_some, Option.getD_some]
    cases p v <;> simp <;> omega
  | v :: vs, j + 1 => by
    simp only [List.getElem?_cons_succ, ← idx_bit p vs j, idx, Nat.testBit_succ]
    congr 1
    cases p v <;> simp <;> omega
theorem idx_ext {p q : Int → Bool} : ∀ {vs : List Int}, (∀ v ∈ vs, p v = q v) → idx vs p = idx vs q
  | [], _ => rfl
  | v :: vs, h => by simp only [idx, h v (by simp), idx_ext (vs := vs) (fun u hu => h u (List.mem_cons_of_mem _ hu))]
/-- What a number says of the variables. -/
def say (vs : List Int) (n : Nat) : Int → Bool := fun v => n.testBit (vs.idxOf v)
theorem idx_say {vs : List Int} (h : vs.Nodup) {n : Nat} (hn : n < 2 ^ vs.length) : idx vs (say vs n) = n := by
  refine Nat.eq_of_testBit_eq fun j => ?_
  rw [idx_bit]
  by_cases hj : j < vs.length
  · rw [List.getElem?_eq_getElem hj]
    simp only [Option.map_some, Option.getD_some, say]
    rw [List.Nodup.idxOf_getElem h]
  · rw [List.getElem?_eq_none (by omega)]
    simp only [Option.map_none, Option.getD_none]
    rw [Nat.testBit_lt_two_pow (Nat.lt_of_lt_of_le hn (Nat.pow_le_pow_right (by decide) (by omega)))]

theorem say_idx {vs : List Int} {v : Int} (hv : v ∈ vs) (p : Int → Bool) : say vs (idx vs p) v = p v := by
  rw [say, idx_bit, List.getElem?_eq_getElem (List.idxOf_lt_length_of_mem hv)]
  simp

def flip (p : Int → Bool) (v : Int) : Int → Bool := fun u => if u = v then !p u else p u
theorem idx_flip {vs : List Int} (h : vs.Nodup) (p : Int → Bool) {j : Nat} {v : Int} (hv : vs[j]? = some v) : idx vs (flip p v) = idx vs p ^^^ 2 ^ j := by
  have hj : j < vs.length := by
    rcases Nat.lt_or_ge j vs.length with h | h
    · exact h
    · rw [List.getElem?_eq_none h] at hv; cases hv
  refine Nat.eq_of_testBit_eq fun i => ?_
  rw [Nat.testBit_xor, idx_bit, idx_bit, Nat.testBit_two_pow]
  by_cases hi : i < vs.length
  · rw [List.getElem?_eq_getElem hi]
    simp only [Option.map_some, Option.getD_some, flip]
    rw [List.getElem?_eq_getElem hj] at hv; cases hv
    by_cases hij : i = j
    · subst hij; simp
    · have : vs[i] ≠ vs[j] := fun e => hij (nodup_inj h e)
      have hji : j ≠ i := fun e => hij e.symm
      simp [this, hji]
  · rw [List.getElem?_eq_none (by omega)]
    have hji : j ≠ i := by omega
    simp [hji]

/-- What a form comes to, of what is said of variables. -/
def sem (vs : List Int) (tab : List Nat) (p : Int → Bool) : Nat := tab.getD (idx vs p) 0
theorem sem_ext {vs : List Int} {tab : List Nat} {p q : Int → Bool} (h : ∀ v ∈ vs, p v = q v) : sem vs tab p = sem vs tab q := by rw [sem, sem, idx_ext h]
theorem tab_get {vs : List Int} {tab : List Nat} (hn : vs.Nodup) (hl : tab.length = 2 ^ vs.length) {n : Nat} (h : n < tab.length) : tab[n] = sem vs tab (say vs n) := by
  have h1 := idx_say hn (n := n) (by omega)
  simp [sem, h1, List.getD_eq_getElem?_getD, h]
def dep (f : (Int → Bool) → Nat) (v : Int) : Prop := ∃ p, f p ≠ f (flip p v)
theorem cnt_iff {vs : List Int} {tab : List Nat} (h : vs.Nodup) (hl : tab.length = 2 ^ vs.length) {j : Nat} {v : Int} (hv : vs[j]? = some v) : cnt tab j = true ↔ dep (sem vs tab) v := by
  have get (n : Nat) (hn : n < tab.length) : tab[n]? = some (tab.getD n 0) := by rw [List.getElem?_eq_getElem hn, List.getD_eq_getElem?_getD, List.getElem?_eq_getElem hn]; rfl
  have hj : j < vs.length := by
    rcases Nat.lt_or_ge j vs.length with h | h
    · exact h
    · rw [List.getElem?_eq_none h] at hv; cases hv
  simp only [cnt, List.any_eq_true, List.mem_range, bne_iff_ne, ne_eq, dep, sem]
  constructor
  · rintro ⟨n, hn, hne⟩
    refine ⟨say vs n, fun e => hne ?_⟩
    rw [idx_flip h _ hv, idx_say h (by omega)] at e
    rw [get n hn, get _ (by rw [hl] at hn ⊢; exact Nat.xor_lt_two_pow hn (Nat.pow_lt_pow_right (by decide) hj)), e]
  · rintro ⟨p, hp⟩
    have h1 : idx vs p < tab.length := by rw [hl]; exact idx_lt vs p
    refine ⟨idx vs p, h1, fun e => hp ?_⟩
    rw [idx_flip h _ hv]
    rw [get _ h1, get _ (by rw [hl] at h1 ⊢; exact Nat.xor_lt_two_pow h1 (Nat.pow_lt_pow_right (by decide) hj))] at e
    exact Option.some.inj e

theorem Right.deps {vs : List Int} {tab : List Nat} (h : Right vs tab) {v : Int} (hv : v ∈ vs) : dep (sem vs tab) v := by
  obtain ⟨j, hj, rfl⟩ := List.mem_iff_getElem.1 hv
  obtain ⟨w, hw, _, _, _, hc⟩ := h.2.2 j hj
  exact (cnt_iff h.up.nodup h.2.1 (List.getElem?_eq_getElem hj)).1 hc
theorem Right.of {vs : List Int} {tab : List Nat} (h4 : vs.length ≤ 4) (hl : tab.length = 2 ^ vs.length) (hu : Up vs) (hm : ∀ v ∈ vs, 0 ≤ v ∧ v < 34) (hd : ∀ v ∈ vs, dep (sem vs tab) v) : Right vs tab := by
  refine ⟨h4, hl, fun j hj => ⟨vs[j], List.getElem?_eq_getElem hj, (hm _ (List.getElem_mem hj)).1, (hm _ (List.getElem_mem hj)).2, ?_, (cnt_iff hu.nodup hl (List.getElem?_eq_getElem hj)).2 (hd _ (List.getElem_mem hj))⟩⟩
  intro u h0 hu'
  rw [List.getElem?_eq_getElem (by omega)] at hu'; cases hu'
  exact List.pairwise_iff_getElem.1 hu _ _ _ _ (by omega)
theorem not_dep {vs : List Int} {tab : List Nat} {v : Int} (hv : v ∉ vs) : ¬ dep (sem vs tab) v := by
  rintro ⟨p, hp⟩
  refine hp ?_
  simp only [sem]
  rw [idx_ext (p := p) (q := flip p v) fun u hu => ?_]
  have : u ≠ v := fun e => hv (e ▸ hu)
  simp [flip, this]

/-- Forms that are right, and come to the same of all that is said, are one. -/
theorem canon {vs vs' : List Int} {tab tab' : List Nat} (h : Right vs tab) (h' : Right vs' tab') (hs : ∀ p, sem vs tab p = sem vs' tab' p) : vs = vs' ∧ tab = tab' := by
  have hf : sem vs tab = sem vs' tab' := funext hs
  have hv : vs = vs' := up_ext h.up h'.up fun v => by
    constructor
    · intro hv
      have := h.deps hv
      rw [hf] at this
      exact Decidable.byContradiction fun hn => not_dep hn this
    · intro hv
      have := h'.deps hv
      rw [← hf] at this
      exact Decidable.byContradiction fun hn => not_dep hn this
  subst hv
  refine ⟨rfl, List.ext_getElem (by rw [h.2.1, h'.2.1]) fun n h1 h2 => ?_⟩
  have := hs (say vs n)
  simp only [sem] at this
  rw [idx_say h.up.nodup (by rw [← h.2.1]; exact h1)] at this
  simpa [List.getD_eq_getElem?_getD, List.getElem?_eq_getElem h1, List.getElem?_eq_getElem h2] using this

/-- A table without variable number j. -/
def remT (tab : List Nat) (j : Nat) : List Nat := ((List.range tab.length).filter fun n => !n.testBit j).map fun n => tab.getD n 0
/-- A number with a 0 put in as bit j. -/
def ins (j m : Nat) : Nat := 2 ^ (j + 1) * (m / 2 ^ j) + m % 2 ^ j
theorem ins_bit (j m i : Nat) : (ins j m).testBit i = if i < j then m.testBit i else if i = j then false else m.testBit (i - 1) := by
  have h1 : m % 2 ^ j < 2 ^ (j + 1) := Nat.lt_of_lt_of_le (Nat.mod_lt _ (Nat.two_pow_pos j)) (Nat.pow_le_pow_right (by decide) (by omega))
  rw [ins, Nat.testBit_two_pow_mul_add _ h1]
  by_cases h : i < j
  · rw [if_pos (by omega), if_pos h, Nat.testBit_mod_two_pow]; simp [h]
  · rw [if_neg h]
    by_cases h2 : i = j
    · subst h2; rw [if_pos (by omega), if_pos rfl, Nat.testBit_mod_two_pow]; simp
    · rw [if_neg (by omega), if_neg h2, Nat.testBit_div_two_pow]
      congr 1; omega
theorem ins_lt {j k m : Nat} (hj : j ≤ k) (hm : m < 2 ^ k) : ins j m < 2 ^ (k + 1) := by
  refine Nat.lt_pow_two_of_testBit _ fun i hi => ?_
  rw [ins_bit, if_neg (by omega)]
  split
  · rfl
  · exact Nat.testBit_lt_two_pow (Nat.lt_of_lt_of_le hm (Nat.pow_le_pow_right (by decide) (by omega)))
theorem ins_mono {j a b : Nat} (h : a < b) : ins j a < ins j b := by
  have h3 : a / 2 ^ j ≤ b / 2 ^ j := Nat.div_le_div_right (Nat.le_of_lt h)
  have h1 := Nat.div_add_mod a (2 ^ j)
  have h2 := Nat.div_add_mod b (2 ^ j)
  have h4 := Nat.mod_lt a (Nat.two_pow_pos j)
  have h5 := Nat.mod_lt b (Nat.two_pow_pos j)
  simp only [ins, Nat.pow_succ]
  rcases Nat.lt_or_ge (a / 2 ^ j) (b / 2 ^ j) with h6 | h6
  · have : 2 ^ j * (a / 2 ^ j + 1) ≤ 2 ^ j * (b / 2 ^ j) := Nat.mul_le_mul_left _ h6
    have e1 : 2 ^ j * 2 * (a / 2 ^ j) = 2 * (2 ^ j * (a / 2 ^ j)) := by rw [Nat.mul_comm (2 ^ j) 2, Nat.mul_assoc]
    have e2 : 2 ^ j * 2 * (b / 2 ^ j) = 2 * (2 ^ j * (b / 2 ^ j)) := by rw [Nat.mul_comm (2 ^ j) 2, Nat.mul_assoc]
    rw [Nat.mul_add] at this
    omega
  · have e : a / 2 ^ j = b / 2 ^ j := by omega
    rw [e] at h1 ⊢
    omega
theorem ins_onto {j n : Nat} (h : n.testBit j = false) : ∃ m, ins j m = n ∧ (∀ k, j ≤ k → n < 2 ^ (k + 1) → m < 2 ^ k) := by
  refine ⟨2 ^ j * (n / 2 ^ (j + 1)) + n % 2 ^ j, ?_, ?_⟩
  · refine Nat.eq_of_testBit_eq fun i => ?_
    have h1 : n % 2 ^ j < 2 ^ j := Nat.mod_lt _ (Nat.two_pow_pos j)
    rw [ins_bit, Nat.testBit_two_pow_mul_add _ h1, Nat.testBit_two_pow_mul_add _ h1]
    by_cases h2 : i < j
    · rw [if_pos h2, if_pos h2, Nat.testBit_mod_two_pow]; simp [h2]
    · rw [if_neg h2]
      by_cases h3 : i = j
      · subst h3; simp [h]
      · rw [if_neg h3, if_neg (by omega), Nat.testBit_div_two_pow]
        congr 1; omega
  · intro k hk hn
    have h1 : n % 2 ^ j < 2 ^ j := Nat.mod_lt _ (Nat.two_pow_pos j)
    refine Nat.lt_pow_two_of_testBit _ fun i hi => ?_
    rw [Nat.testBit_two_pow_mul_add _ h1, if_neg (by omega), Nat.testBit_div_two_pow]
    exact Nat.testBit_lt_two_pow (Nat.lt_of_lt_of_le hn (Nat.pow_le_pow_right (by decide) (by omega)))
theorem lt_ext : ∀ {a b : List Nat}, a.Pairwise (· < ·) → b.Pairwise (· < ·) → (∀ v, v ∈ a ↔ v ∈ b) → a = b
  | [], [], _, _, _ => rfl
  | [], y :: b, _, _, h => absurd ((h y).2 (by simp)) (by simp)
  | x :: a, [], _, _, h => absurd ((h x).1 (by simp)) (by simp)
  | x :: a, y :: b, ha, hb, h => by
    have ha' := List.pairwise_cons.1 ha
    have hb' := List.pairwise_cons.1 hb
    have hxy : x = y := by
      rcases List.mem_cons.1 ((h x).1 (by simp)) with e | e
      · exact e
      rcases List.mem_cons.1 ((h y).2 (by simp)) with e' | e'
      · exact e'.symm
      have := hb'.1 x e; have := ha'.1 y e'; omega
    subst hxy
    rw [lt_ext ha'.2 hb'.2 fun v => ?_]
    constructor
    · intro hv
      have h1 := ha'.1 v hv
      rcases List.mem_cons.1 ((h v).1 (by simp [hv])) with e | e
      · omega
      · exact e
    · intro hv
      have h1 := hb'.1 v hv
      rcases List.mem_cons.1 ((h v).2 (by simp [hv])) with e | e
      · omega
      · exact e
theorem rem_eq {k j : Nat} (hj : j ≤ k) : ((List.range (2 ^ (k + 1))).filter fun n => !n.testBit j) = (List.range (2 ^ k)).map (ins j) := by
  refine lt_ext (List.Pairwise.filter _ List.pairwise_lt_range) ?_ fun n => ?_
  · rw [List.pairwise_map]
    exact List.pairwise_lt_range.imp fun h => ins_mono h
  · simp only [List.mem_filter, List.mem_range, List.mem_map, Bool.not_eq_true']
    constructor
    · rintro ⟨h1, h2⟩
      obtain ⟨m, hm, hk⟩ := ins_onto h2
      exact ⟨m, hk k hj h1, hm⟩
    · rintro ⟨m, hm, rfl⟩
      refine ⟨ins_lt hj hm, ?_⟩
      rw [ins_bit, if_neg (by omega), if_pos rfl]
theorem remT_len {tab : List Nat} {k j : Nat} (hl : tab.length = 2 ^ (k + 1)) (hj : j ≤ k) : (remT tab j).length = 2 ^ k := by
  rw [remT, hl, rem_eq hj]; simp
theorem remT_get {tab : List Nat} {k j m : Nat} (hl : tab.length = 2 ^ (k + 1)) (hj : j ≤ k) (hm : m < 2 ^ k) : (remT tab j).getD m 0 = tab.getD (ins j m) 0 := by
  rw [remT, hl, rem_eq hj]
  simp [List.getD_eq_getElem?_getD, hm]

/-- To leave out what does not count changes nothing. -/
theorem sem_rem {vs : List Int} {tab : List Nat} (h : vs.Nodup) (hl : tab.length = 2 ^ vs.length) {j : Nat} (hj : j < vs.length) (hc : cnt tab j = false) (p : Int → Bool) :
    sem (vs.eraseIdx j) (remT tab j) p = sem vs tab p := by
  obtain ⟨k, hk⟩ : ∃ k, vs.length = k + 1 := ⟨vs.length - 1, by omega⟩
  have hle : (vs.eraseIdx j).length = k := by rw [List.length_eraseIdx_of_lt hj]; omega
  have hm : idx (vs.eraseIdx j) p < 2 ^ k := by have := idx_lt (vs.eraseIdx j) p; rwa [hle] at this
  have hv : vs[j]? = some vs[j] := List.getElem?_eq_getElem hj
  have hnd : ¬ dep (sem vs tab) vs[j] := fun hd => by rw [(cnt_iff h hl hv).2 hd] at hc; cases hc
  have key : ins j (idx (vs.eraseIdx j) p) = idx vs (fun u => if u = vs[j] then false else p u) := by
    refine Nat.eq_of_testBit_eq fun i => ?_
    rw [ins_bit, idx_bit, idx_bit, idx_bit, List.getElem?_eraseIdx, List.getElem?_eraseIdx]
    by_cases h1 : i < j
    · rw [if_pos h1, if_pos h1]
      rw [List.getElem?_eq_getElem (by omega)]
      have : vs[i] ≠ vs[j] := fun e => by have := nodup_inj h e; omega
      simp [this]
    · rw [if_neg h1]
      by_cases h2 : i = j
      · subst h2; rw [if_pos rfl, hv]; simp
      · rw [if_neg h2, if_neg (by omega), show i - 1 + 1 = i by omega]
        by_cases h3 : i < vs.length
        · rw [List.getElem?_eq_getElem h3]
          have : vs[i] ≠ vs[j] := fun e => by have := nodup_inj h e; omega
          simp [this]
        · rw [List.getElem?_eq_none (by omega)]; simp
  simp only [sem]
  rw [remT_get (by rw [hl, hk]) (by omega) hm, key]
  show sem vs tab _ = sem vs tab p
  by_cases hp : p vs[j] = false
  · simp only [sem]
    rw [idx_ext (q := p)]
    intro u _
    by_cases e : u = vs[j]
    · simp [e, hp]
    · simp [e]
  · have : sem vs tab p = sem vs tab (flip p vs[j]) := Decidable.byContradiction fun e => hnd ⟨p, e⟩
    rw [this]
    simp only [sem]
    rw [idx_ext (q := flip p vs[j])]
    intro u _
    by_cases e : u = vs[j]
    · simp only [flip, e, if_true]; cases hq : p vs[j]
      · exact absurd hq hp
      · rfl
    · simp [flip, e]

/-- A word of bits. -/
def wordOf (f : Nat → Bool) : Nat → Nat
  | 0 => 0
  | k + 1 => wordOf f k + 2 ^ k * (f k).toNat
theorem wordOf_lt (f : Nat → Bool) : ∀ k, wordOf f k < 2 ^ k
  | 0 => by simp [wordOf]
  | k + 1 => by
    have := wordOf_lt f k
    simp only [wordOf, Nat.pow_succ]
    cases f k <;> simp <;> omega
theorem wordOf_bit (f : Nat → Bool) (i : Nat) : ∀ k, (wordOf f k).testBit i = (decide (i < k) && f i)
  | 0 => by simp [wordOf]
  | k + 1 => by
    rw [wordOf, Nat.add_comm, Nat.testBit_two_pow_mul_add _ (wordOf_lt f k)]
    by_cases h : i < k
    · rw [if_pos h, wordOf_bit f i k]; simp [h, show i < k + 1 by omega]
    · rw [if_neg h]
      by_cases h2 : i = k
      · subst h2; simp
        cases f i <;> simp
      · have h3 : ¬ i < k + 1 := by omega
        simp only [h3, decide_false, Bool.false_and]
        have : (f k).toNat < 2 ^ (i - k) := Nat.lt_of_lt_of_le (by cases f k <;> simp : (f k).toNat < 2 ^ 1) (Nat.pow_le_pow_right (by decide) (by omega))
        exact Nat.testBit_lt_two_pow this
theorem wordOf_ext {f g : Nat → Bool} : ∀ {k : Nat}, (∀ i, i < k → f i = g i) → wordOf f k = wordOf g k
  | 0, _ => rfl
  | k + 1, h => by rw [wordOf, wordOf, wordOf_ext fun i hi => h i (by omega), h k (by omega)]
theorem wordOf_self {w : Nat} (h : w < 2 ^ 32) : wordOf w.testBit 32 = w := by
  refine Nat.eq_of_testBit_eq fun i => ?_
  rw [wordOf_bit]
  by_cases hi : i < 32
  · simp [hi]
  · simp only [hi, decide_false, Bool.false_and]
    exact (Nat.testBit_lt_two_pow (Nat.lt_of_lt_of_le h (Nat.pow_le_pow_right (by decide) (by omega)))).symm

/-- The value of a form, of values of the variables. -/
def val (vs : List Int) (tab : List Nat) (r : Int → Nat) : Nat := wordOf (fun i => (sem vs tab fun v => (r v).testBit i).testBit i) 32
/-- Its value where each variable is 0, or all ones. -/
theorem val_full {vs : List Int} {tab : List Nat} (ht : ∀ w ∈ tab, w < 4294967296) (p : Int → Bool) {r : Int → Nat} (hr : ∀ v ∈ vs, r v = if p v then 4294967295 else 0) : val vs tab r = sem vs tab p := by
  have hs : sem vs tab p < 2 ^ 32 := by
    simp only [sem, List.getD_eq_getElem?_getD]
    cases hq : tab[idx vs p]? with
    | none => simp
    | some w => exact ht w (List.mem_of_getElem? hq)
  rw [val, ← wordOf_self hs]
  refine wordOf_ext fun i hi => ?_
  have : sem vs tab (fun v => (r v).testBit i) = sem vs tab p := by
    simp only [sem]
    rw [idx_ext (q := p)]
    intro v hv
    rw [hr v hv]
    cases p v
    · simp
    · simp only [if_true]
      rw [show (4294967295 : Nat) = 2 ^ 32 - 1 from rfl, Nat.testBit_two_pow_sub_one]; simpa using hi
  rw [this]
end Go.Ev
