/- What instructions need and set: live, and hurdleref07. -/
import Derived.Test.YtdomogpjchpbnaaInsA
import Derived.Test.YtdomogpjchpbnaaBitsW
namespace Go.Ev
open Go Go.RowKit
variable {G : Tbl}
set_option maxRecDepth 10000
set_option maxHeartbeats 2000000
set_option linter.unusedSimpArgs false
set_option linter.unusedVariables false

def cellM (k : Nat) : Nat := if k < 16 then 2 ^ (k + 2) else 0
theorem cellL_ok [HasTells G] (k : Nat) : FP G 166 [.int .u32 (k : Int)] (.int .u32 (cellM k : Nat)) := by
  refine FP_of HasTells.h_live_cell (Nat.le_of_ble_eq_true rfl) ?_
  simp
  by_cases h : 16 ≤ k
  · simp [show (16 : Int) ≤ (k : Int) from by omega, cellM, show ¬ k < 16 from by omega]
  · have h2 : k < 16 := by omega
    have h3 : shlI .u32 4 (k : Int) = ((4 * 2 ^ k % 4294967296 : Nat) : Int) := shl32 (a := 4) (by omega)
    have h4 : 4 * 2 ^ k % 4294967296 = 2 ^ (k + 2) := by
      rw [Nat.mod_eq_of_lt]
      · rw [Nat.pow_add, Nat.mul_comm]
      · have : 2 ^ k ≤ 2 ^ 15 := Nat.pow_le_pow_right (by decide) (by omega)
        omega
    simp (disch := omega) [leF, ltF, h3, h4, cellM, h2, -Int.natCast_pow]

def byXB (op : Int) : Bool := (aluT op).2.1 || decide (op ∈ [29, 45, 61, 77])
theorem alu_two {op : Int} (h : (aluT op).2.2 = true) : op ∈ [4, 20, 36, 52, 68, 84, 100, 116, 164, 12, 28, 44, 60, 76, 92, 108, 124, 172] := by
  unfold aluT at h
  split at h
  · rename_i hm; simp only [List.mem_cons, List.not_mem_nil, or_false] at hm ⊢; omega
  · split at h
    · rename_i hm; simp only [List.mem_cons, List.not_mem_nil, or_false] at hm ⊢; omega
    · cases h
theorem byX_ok [HasIns G] [HasTells G] (x : In4) : FP G 167 [IV x] (.bool (byXB x.op)) := by
  refine FP_of HasTells.h_live_byX (Nat.le_of_ble_eq_true rfl) ?_
  have ha := Alu_ok (G := G) x
  simp [IV, In4.cs] at ha ⊢
  refine callP_of ha ?_
  unfold byXB
  cases h : (aluT x.op).2.2
  · have h0 : (aluT x.op).2.1 = false := by
      unfold aluT at h ⊢
      split at h
      · cases h
      · split at h
        · cases h
        · rename_i h1 h2; rw [if_neg h1, if_neg h2]
    simp [h, h0]
    by_cases h1 : x.op = 29
    · simp [h1]
    by_cases h2 : x.op = 45
    · simp [h2]
    by_cases h3 : x.op = 61
    · simp [h3]
    by_cases h4 : x.op = 77
    · simp [h4]
    simp [h1, h2, h3, h4, beqF]
  · have h1 := alu_two h
    have h2 : ∀ p ∈ [4, 20, 36, 52, 68, 84, 100, 116, 164, 12, 28, 44, 60, 76, 92, 108, 124, 172], decide (p ∈ [29, 45, 61, (77 : Int)]) = false := by decide
    simp [h]
    have := h2 _ h1
    simp at this
    simp [this]

/-- Does an instruction need a part, set it? -/
def usesP (x : In4) (part : Nat) : Bool :=
  if part = 0 then (aluT x.op).2.2 || isBr x.op || decide (x.op ∈ [2, 7, 132, 22])
  else if part = 1 then byXB x.op || decide (x.op ∈ [3, 135])
  else decide ((x.op = 96 ∨ x.op = 97) ∧ x.k + 2 = part)
def setsP (x : In4) (part : Nat) : Bool :=
  if part = 0 then (aluT x.op).2.2 || decide (x.op ∈ [0, 32, 96, 135, 132])
  else if part = 1 then decide (x.op ∈ [1, 97, 7])
  else decide ((x.op = 2 ∨ x.op = 3) ∧ x.k + 2 = part)
def usesM (x : In4) : Nat := wordOf (usesP x) 18
def setsM (x : In4) : Nat := wordOf (setsP x) 18

theorem word_is {f : Nat → Bool} {m : Nat} (h : ∀ i, i < 18 → m.testBit i = f i) (hm : m < 2 ^ 18) : wordOf f 18 = m := by
  refine Nat.eq_of_testBit_eq fun i => ?_
  rw [wordOf_bit]
  by_cases hi : i < 18
  · simp [hi, h i hi]
  · simp only [hi, decide_false, Bool.false_and]
    exact (Nat.testBit_lt_two_pow (Nat.lt_of_lt_of_le hm (Nat.pow_le_pow_right (by decide) (by omega)))).symm
theorem cellM_lt (k : Nat) : cellM k < 2 ^ 18 := by
  unfold cellM
  split
  · have : 2 ^ (k + 2) ≤ 2 ^ 17 := Nat.pow_le_pow_right (by decide) (by omega)
    omega
  · decide
theorem cellM_bit (k i : Nat) (hi : i < 18) : (cellM k).testBit i = decide (k + 2 = i) := by
  unfold cellM
  split
  · rw [Nat.testBit_two_pow]
  · simp; omega
theorem low3 (m i : Nat) (hm : m < 4) : m.testBit i = if i = 0 then decide (m % 2 = 1) else if i = 1 then decide (2 ≤ m) else false := by
  match m, hm with
  | 0, _ => simp
  | 1, _ => 
    match i with
    | 0 => rfl
    | i + 1 => simp [Nat.testBit_succ]
  | 2, _ =>
    match i with
    | 0 => rfl
    | 1 => rfl
    | i + 2 => simp [Nat.testBit_succ]
  | 3, _ =>
    match i with
    | 0 => rfl
    | 1 => rfl
    | i + 2 => simp [Nat.testBit_succ]
theorem word_low {f : Nat → Bool} {m : Nat} (hm : m < 4) (h0 : f 0 = decide (m % 2 = 1)) (h1 : f 1 = decide (2 ≤ m)) (h2 : ∀ i, 2 ≤ i → i < 18 → f i = false) : wordOf f 18 = m := by
  refine word_is (fun i hi => ?_) (by omega)
  rw [low3 m i hm]
  by_cases a : i = 0
  · subst a; simp [h0]
  · by_cases b : i = 1
    · subst b; simp [h1]
    · simp [a, b, h2 i (by omega) hi]
theorem word_cell {f : Nat → Bool} {k : Nat} (h0 : f 0 = false) (h1 : f 1 = false) (h2 : ∀ i, 2 ≤ i → i < 18 → f i = decide (k + 2 = i)) : wordOf f 18 = cellM k := by
  refine word_is (fun i hi => ?_) (cellM_lt k)
  rw [cellM_bit k i hi]
  by_cases a : i = 0
  · subst a; simp [h0]
  · by_cases b : i = 1
    · subst b; simp [h1]
    · rw [h2 i (by omega) hi]

theorem not_alu {op : Int} (h : op ∉ [4, 20, 36, 52, 68, 84, 100, 116, 164, 12, 28, 44, 60, 76, 92, 108, 124, 172]) : (aluT op).2.2 = false := by
  cases h2 : (aluT op).2.2
  · rfl
  · exact absurd (alu_two h2) h
theorem alu_x {op : Int} (h : (aluT op).2.1 = true) : (aluT op).2.2 = true := by
  unfold aluT at h ⊢
  split
  · rfl
  · split
    · rfl
    · rename_i h1 h2; rw [if_neg h1, if_neg h2] at h; cases h

theorem Uses_ok [HasIns G] [HasTells G] (x : In4) : FP G 168 [IV x] (.int .u32 (usesM x : Nat)) := by
  refine FP_of HasTells.h_live_Uses (Nat.le_of_ble_eq_true rfl) ?_
  have ha := Alu_ok (G := G) x
  have hbx := byX_ok (G := G) x
  have hbr := Branch_ok (G := G) x
  simp [IV, In4.cs] at ha hbx hbr ⊢
  refine callP_of ha ?_
  have mem : (x.op = 96 ∨ x.op = 97) → (aluT x.op).2.2 = false ∧ byXB x.op = false ∧ isBr x.op = false := by
    rintro (h | h) <;> rw [h] <;> decide
  have mem2 : (x.op = 3 ∨ x.op = 135) → (aluT x.op).2.2 = false ∧ byXB x.op = false ∧ isBr x.op = false := by
    rintro (h | h) <;> rw [h] <;> decide
  by_cases h96 : x.op = 96 ∨ x.op = 97
  · have hm := mem h96
    have hw : usesM x = cellM x.k := word_cell
      (by rcases h96 with h | h <;> (have hm := hm; rw [h] at hm; simp [usesP, hm.1, hm.2.2, h])) (by rcases h96 with h | h <;> (have hm := hm; rw [h] at hm; simp [usesP, hm.2.1, h]))
      (fun i h1 h2 => by simp [usesP, show ¬ i = 0 from by omega, show ¬ i = 1 from by omega, h96])
    rcases h96 with h | h <;> simp [h, beqF] <;> refine callP_of (cellL_ok x.k) ?_ <;> simp [hw]
  have n96 : ¬ x.op = 96 := fun h => h96 (.inl h)
  have n97 : ¬ x.op = 97 := fun h => h96 (.inr h)
  have hi : ∀ i, 2 ≤ i → i < 18 → usesP x i = false := fun i h1 h2 => by simp [usesP, show ¬ i = 0 from by omega, show ¬ i = 1 from by omega, n96, n97]
  by_cases h3 : x.op = 3 ∨ x.op = 135
  · have hm := mem2 h3
    have hw : usesM x = 2 := word_low (by decide) (by rcases h3 with h | h <;> (have hm := hm; rw [h] at hm; simp [usesP, hm.1, hm.2.2, h])) (by rcases h3 with h | h <;> simp [usesP, h]) hi
    rcases h3 with h | h <;> simp [h, beqF, hw]
  have n3 : ¬ x.op = 3 := fun h => h3 (.inl h)
  have n135 : ¬ x.op = 135 := fun h => h3 (.inr h)
  simp [n96, n97, n3, n135, beqF]
  refine callP_of hbx ?_
  cases hb : byXB x.op
  case true =>
    have h0 : usesP x 0 = true := by
      simp only [byXB, Bool.or_eq_true, decide_eq_true_eq] at hb
      rcases hb with hb | hb
      · simp [usesP, alu_x hb]
      · have : isBr x.op = true := by simp only [isBr, decide_eq_true_eq]; simp only [List.mem_cons, List.not_mem_nil, or_false] at hb ⊢; omega
        simp [usesP, this]
    have hw : usesM x = 3 := word_low (by decide) (by rw [h0]; rfl) (by simp [usesP, hb]) hi
    simp [hw]
  have h1 : usesP x 1 = false := by simp [usesP, hb, n3, n135]
  have fin : ∀ b : Bool, usesP x 0 = b → usesM x = b.toNat := by
    intro b h0
    cases b
    · exact word_low (by decide) (by rw [h0]; rfl) (by rw [h1]; rfl) hi
    · exact word_low (by decide) (by rw [h0]; rfl) (by rw [h1]; rfl) hi
  cases hal : (aluT x.op).2.2
  case true => simp [hal, fin true (by simp [usesP, hal])]
  simp [hal]
  refine callP_of hbr ?_
  cases hbr2 : isBr x.op
  case true => simp [fin true (by simp [usesP, hbr2])]
  by_cases e2 : x.op = 2
  · simp [e2, fin true (by simp [usesP, e2])]
  by_cases e7 : x.op = 7
  · simp [e7, fin true (by simp [usesP, e7])]
  by_cases e132 : x.op = 132
  · simp [e132, fin true (by simp [usesP, e132])]
  by_cases e22 : x.op = 22
  · simp [e22, fin true (by simp [usesP, e22])]
  simp [e2, e7, e132, e22, beqF, fin false (by simp [usesP, hal, hbr2, e2, e7, e132, e22])]

theorem Sets_ok [HasIns G] [HasTells G] (x : In4) : FP G 169 [IV x] (.int .u32 (setsM x : Nat)) := by
  refine FP_of HasTells.h_live_Sets (Nat.le_of_ble_eq_true rfl) ?_
  have ha := Alu_ok (G := G) x
  simp [IV, In4.cs] at ha ⊢
  refine callP_of ha ?_
  have one : ∀ (h0 : setsP x 0 = true) (h1 : setsP x 1 = false) (n2 : ¬ x.op = 2) (n3 : ¬ x.op = 3), setsM x = 1 := fun h0 h1 n2 n3 =>
    word_low (by decide) (by rw [h0]; rfl) (by rw [h1]; rfl) fun i a b => by simp [setsP, show ¬ i = 0 from by omega, show ¬ i = 1 from by omega, n2, n3]
  cases hal : (aluT x.op).2.2
  case true =>
    have hm := alu_two hal
    have key : ∀ p ∈ [4, 20, 36, 52, 68, 84, 100, 116, 164, 12, 28, 44, 60, 76, 92, 108, 124, (172 : Int)], decide (p ∈ [1, 97, (7 : Int)]) = false ∧ ¬ p = 2 ∧ ¬ p = 3 := by decide
    have k := key _ hm
    have : setsM x = 1 := one (by simp [setsP, hal]) (by simp only [setsP]; simp; simpa using k.1) k.2.1 k.2.2
    simp [hal, this]
  simp [hal]
  have lst : ∀ p ∈ [0, 32, 96, 135, (132 : Int)], x.op = p → setsM x = 1 := by
    intro p hp he
    have key : ∀ p ∈ [0, 32, 96, 135, (132 : Int)], decide (p ∈ [1, 97, (7 : Int)]) = false ∧ ¬ p = 2 ∧ ¬ p = 3 := by decide
    have k := key p hp
    rw [← he] at k hp
    exact one (by simp only [setsP]; simp at hp ⊢; simp [hp]) (by simp only [setsP]; simp; simpa using k.1) k.2.1 k.2.2
  by_cases e0 : x.op = 0
  · simp [e0, lst 0 (by decide) e0]
  by_cases e1 : x.op = 32
  · simp [e1, lst 32 (by decide) e1]
  by_cases e2 : x.op = 96
  · simp [e2, lst 96 (by decide) e2]
  by_cases e3 : x.op = 135
  · simp [e3, lst 135 (by decide) e3]
  by_cases e4 : x.op = 132
  · simp [e4, lst 132 (by decide) e4]
  have h0 : setsP x 0 = false := by simp [setsP, hal, e0, e1, e2, e3, e4]
  have two : ∀ (h1 : setsP x 1 = true) (n2 : ¬ x.op = 2) (n3 : ¬ x.op = 3), setsM x = 2 := fun h1 n2 n3 =>
    word_low (by decide) (by rw [h0]; rfl) (by rw [h1]; rfl) fun i a b => by simp [setsP, show ¬ i = 0 from by omega, show ¬ i = 1 from by omega, n2, n3]
  by_cases f0 : x.op = 1
  · simp [f0, beqF, two (by simp [setsP, f0]) (by omega) (by omega)]
  by_cases f1 : x.op = 97
  · simp [f1, beqF, two (by simp [setsP, f1]) (by omega) (by omega)]
  by_cases f2 : x.op = 7
  · simp [f2, beqF, two (by simp [setsP, f2]) (by omega) (by omega)]
  have h1 : setsP x 1 = false := by simp [setsP, f0, f1, f2]
  by_cases g : x.op = 2 ∨ x.op = 3
  · have hw : setsM x = cellM x.k := word_cell h0 h1 (fun i a b => by simp [setsP, show ¬ i = 0 from by omega, show ¬ i = 1 from by omega, g])
    rcases g with h | h <;> simp [h, beqF] <;> refine callP_of (cellL_ok x.k) ?_ <;> simp [hw]
  · have n2 : ¬ x.op = 2 := fun h => g (.inl h)
    have n3 : ¬ x.op = 3 := fun h => g (.inr h)
    have hw : setsM x = 0 := word_low (by decide) (by rw [h0]; rfl) (by rw [h1]; rfl) fun i a b => by simp [setsP, show ¬ i = 0 from by omega, show ¬ i = 1 from by omega, n2, n3]
    simp [e0, e1, e2, e3, e4, f0, f1, f2, n2, n3, beqF, hw]

end Go.Ev
