/- A filter's free pieces: splice.Pieces, hurdleref22.Pieces. -/
import Derived.Test.YtnlhnffijidioaaDoorWinC
namespace Go.Ev
open Go Go.RowKit
variable {G : Tbl}
set_option maxRecDepth 10000
set_option maxHeartbeats 2000000
set_option linter.unusedSimpArgs false
set_option linter.unusedVariables false

abbrev Pc := Nat × Nat
/-- Pieces from one place, of so many lengths down from one. -/
def pr (c : Nat → Bool) (a k j : Nat) : List Pc := (List.range j).flatMap fun i => if c (k - i) then [(a, k - i)] else []
theorem pr_succ (c : Nat → Bool) (a k j : Nat) : pr c a k (j + 1) = pr c a k j ++ (if c (k - j) = true then [(a, k - j)] else []) := by
  simp [pr, List.range_succ, List.flatMap_append]
theorem pr_skip (c : Nat → Bool) (a : Nat) : ∀ (d k : Nat), (∀ m, k < m → m ≤ k + d → c m = false) → ∀ j, pr c a (k + d) (d + j) = pr c a k j
  | 0, k, _, j => by simp
  | d + 1, k, h, 0 => by
    have := pr_skip c a d (k + 1) (fun m h1 h2 => h m (by omega) (by omega)) 1
    rw [show k + (d + 1) = k + 1 + d by omega, show d + 1 + 0 = d + 1 by omega, this]
    simp [pr, h (k + 1) (by omega) (by omega)]
  | d + 1, k, h, j + 1 => by
    have ih := pr_skip c a (d + 1) k h j
    rw [show d + 1 + (j + 1) = (d + 1 + j) + 1 by omega, pr_succ, ih, pr_succ]
    rw [show k + (d + 1) - (d + 1 + j) = k - j by omega]
theorem pr_len (c : Nat → Bool) (a k : Nat) : ∀ j, (pr c a k j).length ≤ j
  | 0 => by simp [pr]
  | j + 1 => by
    rw [pr_succ, List.length_append]
    have := pr_len c a k j
    split <;> simp <;> omega
def cnd (f : List In4) (most : Int) (a m : Nat) : Bool := decide ((m : Int) ≤ most) && decide ((m : Int) ≤ f.length - a) && freeZ f a m
def rows (f : List In4) (most : Int) (a : Nat) : List Pc := (List.range a).flatMap fun b => pr (cnd f most b) b 32 31
theorem rows_succ (f : List In4) (most : Int) (a : Nat) : rows f most (a + 1) = rows f most a ++ pr (cnd f most a) a 32 31 := by
  simp [rows, List.range_succ, List.flatMap_append]
theorem rows_len (f : List In4) (most : Int) : ∀ a, (rows f most a).length ≤ 31 * a
  | 0 => by simp [rows]
  | a + 1 => by
    rw [rows_succ, List.length_append]
    have := rows_len f most a
    have := pr_len (cnd f most a) a 32 31
    omega
theorem pr_none {c : Nat → Bool} (h : ∀ m, c m = false) (a k : Nat) : ∀ j, pr c a k j = []
  | 0 => rfl
  | j + 1 => by rw [pr_succ, pr_none h a k j, h]; rfl
theorem rows_none {f : List In4} (h : soundF f = false) (most : Int) : ∀ a, rows f most a = []
  | 0 => rfl
  | a + 1 => by rw [rows_succ, rows_none h most a, pr_none (fun m => by simp [cnd, freeZ, h])]; rfl
/-- From the greatest length on. -/
theorem pr_min {f : List In4} {most : Int} {a : Nat} (k : Int) (hk : k = min most (min ((f.length : Int) - a) 32)) : pr (cnd f most a) a 32 31 = pr (cnd f most a) a k.toNat (k.toNat - 1) := by
  by_cases h2 : k < 1
  · have : ∀ m, 1 ≤ m → m ≤ 32 → cnd f most a m = false := by
      intro m h1 h3
      by_cases hm : (m : Int) ≤ most
      · have : ¬ (m : Int) ≤ f.length - a := by omega
        simp [cnd, this]
      · simp [cnd, hm]
    have h3 := pr_skip (cnd f most a) a 31 1 (fun m h1 h2 => this m (by omega) (by omega)) 0
    simp only [Nat.add_zero] at h3
    rw [show k.toNat - 1 = 0 by omega, h3]
    rfl
  · have h3 := pr_skip (cnd f most a) a (32 - k.toNat) k.toNat (fun m h1 h3 => by
      by_cases hm : (m : Int) ≤ most
      · have : ¬ (m : Int) ≤ f.length - a := by omega
        simp [cnd, this]
      · simp [cnd, hm]) (k.toNat - 1)
    rw [show k.toNat + (32 - k.toNat) = 32 by omega, show 32 - k.toNat + (k.toNat - 1) = 31 by omega] at h3
    exact h3
def rowsV (l : List Pc) : List (List V) := l.map fun p => [.int .i64 (p.1 : Int), .int .i64 (p.2 : Int)]
@[simp] theorem rowsV_length (l : List Pc) : (rowsV l).length = l.length := by simp [rowsV]
@[simp] theorem rowsV_nil : rowsV [] = [] := rfl
@[simp] theorem rowsV_snoc (l : List Pc) (a m : Nat) : rowsV l ++ [[V.int .i64 (a : Int), .int .i64 (m : Int)]] = rowsV (l ++ [(a, m)]) := by simp [rowsV]
@[simp] theorem rowsV_get (l : List Pc) (i : Nat) : (rowsV l)[i]? = (l[i]?).map fun p => [.int .i64 (p.1 : Int), .int .i64 (p.2 : Int)] := by simp [rowsV]
@[simp] theorem rowsV_sz (l : List Pc) : (∀ f ∈ rowsV l, f.length = 2) = True := by
  simp only [eq_iff_iff, iff_true]
  intro f hf
  simp only [rowsV, List.mem_map] at hf
  obtain ⟨x, _, rfl⟩ := hf
  rfl

theorem Pieces_ok [HasIns G] [HasCheck G] [HasWRight G] [HasSpl G] (f : List In4) (most : Int) (hf : f.length ≤ maxLen) (hk : ∀ x ∈ f, x.k < 4294967296) (hm : -9223372036854775808 ≤ most ∧ most ≤ 9223372036854775807) :
    FP G 209 [FL f, .int .i64 most] (.vs (rowsV (rows f most f.length)) .no) := by
  refine FP_of HasSpl.h_splice_Pieces (Nat.le_of_ble_eq_true rfl) ?_
  have hso := Sound_ok (G := G) f hf hk
  simp
  refine callP_of hso ?_
  cases hs : soundF f
  · rw [rows_none hs]; simp
  have hl := sound_le hs
  simp
  refine callP_of (targets_ok f hs hk) ?_
  simp [FL]
  refine W_up f.length (fun a => [(0, FL f), (1, .int .i64 most), (5, .vs (bools (hits f f.length)) .no), (6, .vs (rowsV (rows f most a)) (.own 0)), (15, .int .i64 f.length), (16, .int .i64 a)]) (fun a => [some (.zone (rows f most a).length)]) (fun _ => True) ?_ ?_
  · simp [keep_cl, trunc, FL, rows]
  intro a ha _
  have hrl := rows_len f most a
  by_cases hlt : a < f.length
  · obtain ⟨k, hkk⟩ : ∃ k, k = min most (min ((f.length : Int) - a) 32) := ⟨_, rfl⟩
    have hpm := pr_min k hkk
    have s1 : subI .i64 (f.length : Int) (a : Int) = (f.length : Int) - a := by rw [subI64] <;> omega
    have hkm : (if 32 < if (f.length : Int) - (a : Int) < most then (f.length : Int) - (a : Int) else most then 32 else if (f.length : Int) - (a : Int) < most then (f.length : Int) - (a : Int) else most) = k := by omega
    simp (disch := omega) [ltT, FL, s1, mmGo, mmI, hkm, -Int.natCast_add]
    obtain ⟨T, hT⟩ : ∃ T : Nat → List Pc, ∀ j, T j = rows f most a ++ pr (cnd f most a) a k.toNat j := ⟨_, fun _ => rfl⟩
    have hT0 : T 0 = rows f most a := by rw [hT]; simp [pr]
    refine W_up (k.toNat - 1) (fun j => [(0, FL f), (1, .int .i64 most), (5, .vs (bools (hits f f.length)) .no), (6, .vs (rowsV (T j)) (.own 0)), (7, .int .i64 a), (8, .int .i64 (k - j)), (15, .int .i64 f.length), (16, .int .i64 a)])
      (fun j => [some (.zone (T j).length)]) (fun _ => True) ?_ ?_
    · simp [keep_cl, trunc, FL, hT0]
    intro j hj _
    have hpl := pr_len (cnd f most a) a k.toNat j
    have hll : (T j).length ≤ 31 * a + j := by rw [hT, List.length_append]; omega
    have hps := pr_succ (cnd f most a) a k.toNat j
    by_cases hjl : j < k.toNat - 1
    · have hge : (2 : Int) ≤ k - j := by omega
      have e1 : k - (j : Int) = ((k.toNat - j : Nat) : Int) := by omega
      have hfr := free_ok (G := G) f a ((k.toNat - j : Nat) : Int) hs hk
      have s2 : subI .i64 ((k.toNat - j : Nat) : Int) 1 = k - ((j + 1 : Nat) : Int) := by rw [subI64] <;> omega
      have hle : ((2 : Int) ≤ ((k.toNat - j : Nat) : Int)) = True := eq_true (by omega)
      have hcn : cnd f most a (k.toNat - j) = freeR f a ((k.toNat - j : Nat) : Int) := by
        have h1 : ((k.toNat - j : Nat) : Int) ≤ most := by omega
        have h2 : ((k.toNat - j : Nat) : Int) ≤ f.length - a := by omega
        simp [cnd, h1, h2, freeZ, hs]
      simp only [FL] at hfr
      rw [hcn] at hps
      rw [e1]
      simp (disch := omega) [hle, FL, -Int.natCast_add]
      refine callP_of hfr ?_
      cases hfb : freeR f a ((k.toNat - j : Nat) : Int)
      · rw [hfb] at hps
        have hsame : T (j + 1) = T j := by rw [hT, hT, hps]; simp
        simp (disch := omega) [s2, hjl, hsame, keep_cl, trunc, FL, -Int.natCast_add]
      · rw [hfb] at hps
        simp only [if_true] at hps
        have hsn : T (j + 1) = T j ++ [(a, k.toNat - j)] := by rw [hT, hT, hps, List.append_assoc]
        have hll2 : (T (j + 1)).length = (T j).length + 1 := by rw [hsn]; simp
        have hsn2 : rowsV (T j) ++ [[V.int .i64 (a : Int), .int .i64 ((k.toNat - j : Nat) : Int)]] = rowsV (T (j + 1)) := by rw [rowsV_snoc, hsn]
        simp (disch := omega) [leTn, hsn2, hll2, s2, hjl, keep_cl, trunc, FL, -Int.natCast_add, -rowsV_snoc]
    · have hne : j = k.toNat - 1 := by omega
      subst hne
      have hF : ((2 : Int) ≤ k - ((k.toNat - 1 : Nat) : Int)) = False := eq_false (by omega)
      have hTe : T (k.toNat - 1) = rows f most (a + 1) := by rw [hT, ← hpm, ← rows_succ]
      rw [hTe]
      simp (disch := omega) [hF, hlt, add1', keep_cl, trunc, FL, -Int.natCast_add]
  · have hne : a = f.length := by omega
    subst hne
    simp

/-- Rows as slices of two. -/
def rowsW (t : Tk) (l : List Pc) : List (List V) := l.map fun p => [.vs [[.int .i64 (p.1 : Int)], [.int .i64 (p.2 : Int)]] t]
@[simp] theorem rowsW_length (t : Tk) (l : List Pc) : (rowsW t l).length = l.length := by simp [rowsW]
@[simp] theorem rowsW_nil (t : Tk) : rowsW t [] = [] := rfl
theorem rowsW_snoc (t : Tk) (l : List Pc) (a m : Nat) : rowsW t l ++ [[V.vs [[.int .i64 (a : Int)], [.int .i64 (m : Int)]] t]] = rowsW t (l ++ [(a, m)]) := by simp [rowsW]
@[simp] theorem rowsW_get (t : Tk) (l : List Pc) (i : Nat) : (rowsW t l)[i]? = (l[i]?).map fun p => [.vs [[.int .i64 (p.1 : Int)], [.int .i64 (p.2 : Int)]] t] := by simp [rowsW]
@[simp] theorem rowsW_sz (t : Tk) (l : List Pc) : (∀ f ∈ rowsW t l, f.length = 1) = True := by
  simp only [eq_iff_iff, iff_true]
  intro f hf
  simp only [rowsW, List.mem_map] at hf
  obtain ⟨x, _, rfl⟩ := hf
  rfl
theorem PiecesR_ok [HasR2 G] [HasR5 G] [HasR17 G] [HasR22 G] (f : List In4) (most : Int) (hf : f.length ≤ 1000) (hk : ∀ x ∈ f, x.k < 4294967296) :
    FP G 214 [FL f, .int .i64 most] (.vs (rowsW .full (rows f most f.length)) .no) := by
  refine FP_of HasR22.h_hurdleref22_Pieces (Nat.le_of_ble_eq_true rfl) ?_
  simp [FL]
  refine W_up f.length (fun a => [(0, FL f), (1, .int .i64 most), (5, .vs (rowsW .full (rows f most a)) (.own 0)), (6, .int .i64 a)]) (fun a => [some (.zone (rows f most a).length)]) (fun _ => True) ?_ ?_
  · simp [keep_cl, trunc, FL, rows]
  intro a ha _
  have hrl := rows_len f most a
  by_cases hlt : a < f.length
  · simp (disch := omega) [ltT, FL, -Int.natCast_add]
    obtain ⟨T, hT⟩ : ∃ T : Nat → List Pc, ∀ j, T j = rows f most a ++ pr (cnd f most a) a 32 j := ⟨_, fun _ => rfl⟩
    have hT0 : T 0 = rows f most a := by rw [hT]; simp [pr]
    refine W_up 31 (fun j => [(0, FL f), (1, .int .i64 most), (5, .vs (rowsW .full (T j)) (.own 0)), (6, .int .i64 a), (7, .int .i64 ((32 : Int) - j))])
      (fun j => [some (.zone (T j).length)]) (fun _ => True) ?_ ?_
    · simp [keep_cl, trunc, FL, hT0]
    intro j hj _
    have hpl := pr_len (cnd f most a) a 32 j
    have hll : (T j).length ≤ 31 * a + j := by rw [hT, List.length_append]; omega
    have hps := pr_succ (cnd f most a) a 32 j
    by_cases hjl : j < 31
    · have e1 : (32 : Int) - (j : Int) = ((32 - j : Nat) : Int) := by omega
      have hle : ((2 : Int) ≤ ((32 - j : Nat) : Int)) = True := eq_true (by omega)
      have s2 : subI .i64 ((32 - j : Nat) : Int) 1 = (32 : Int) - ((j + 1 : Nat) : Int) := by rw [subI64] <;> omega
      have s1 : subI .i64 (f.length : Int) (a : Int) = (f.length : Int) - a := by rw [subI64] <;> omega
      have hfr := FreeR_ok (G := G) f a ((32 - j : Nat) : Int) (by have : maxLen = 9223372036854775807 := by decide
                                                                   omega) hk
      simp only [FL] at hfr
      have no : cnd f most a (32 - j) = false → T (j + 1) = T j := by
        intro h; rw [hT, hT, hps, h]; simp
      rw [e1]
      by_cases hm : ((32 - j : Nat) : Int) ≤ most
      · by_cases hl2 : ((32 - j : Nat) : Int) ≤ (f.length : Int) - a
        · have hcn : cnd f most a (32 - j) = freeZ f a ((32 - j : Nat) : Int) := by simp only [cnd, hm, hl2, decide_true, Bool.true_and]
          simp (disch := omega) [hle, FL, hm, s1, hl2]
          refine callP_of hfr ?_
          cases hfb : freeZ f a ((32 - j : Nat) : Int)
          · have hsame := no (hcn.trans hfb)
            simp (disch := omega) [s2, hjl, hsame, keep_cl, trunc, FL]
          · have hsn : T (j + 1) = T j ++ [(a, 32 - j)] := by rw [hT, hT, hps, hcn, hfb, List.append_assoc]; rfl
            have hll2 : (T (j + 1)).length = (T j).length + 1 := by rw [hsn]; simp
            have hsn2 : rowsW .full (T j) ++ [[V.vs [[.int .i64 (a : Int)], [.int .i64 ((32 - j : Nat) : Int)]] .full]] = rowsW .full (T (j + 1)) := by rw [rowsW_snoc, hsn]
            simp (disch := omega) [leTn, hsn2, hll2, s2, hjl, keep_cl, trunc, FL]
        · have hsame := no (by simp only [cnd, hl2, decide_false, Bool.and_false, Bool.false_and])
          simp (disch := omega) [hle, FL, hm, s1, hl2, s2, hjl, hsame, keep_cl, trunc]
      · have hsame := no (by simp only [cnd, hm, decide_false, Bool.false_and])
        simp (disch := omega) [hle, FL, hm, s2, hjl, hsame, keep_cl, trunc]
    · have hne : j = 31 := by omega
      subst hne
      have hTe : T 31 = rows f most (a + 1) := by rw [hT, ← rows_succ]
      rw [hTe]
      simp (disch := omega) [hlt, add1', keep_cl, trunc, FL, -Int.natCast_add]
  · have hne : a = f.length := by omega
    subst hne
    simp [FL]

theorem mem_pr {c : Nat → Bool} {a k : Nat} {p : Pc} : ∀ {j : Nat}, p ∈ pr c a k j → p.1 = a ∧ c p.2 = true ∧ p.2 ≤ k ∧ k < p.2 + j
  | 0, h => by simp [pr] at h
  | j + 1, h => by
    rw [pr_succ, List.mem_append] at h
    rcases h with h | h
    · obtain ⟨h1, h2, h3, h4⟩ := mem_pr h; exact ⟨h1, h2, h3, by omega⟩
    · split at h
      · rename_i hc
        simp only [List.mem_singleton] at h
        subst h
        exact ⟨rfl, hc, by simp, by simp only; omega⟩
      · cases h
theorem mem_rows {f : List In4} {most : Int} {p : Pc} : ∀ {n : Nat}, p ∈ rows f most n → p.1 < n ∧ cnd f most p.1 p.2 = true ∧ 2 ≤ p.2 ∧ p.2 ≤ 32
  | 0, h => by simp [rows] at h
  | n + 1, h => by
    rw [rows_succ, List.mem_append] at h
    rcases h with h | h
    · obtain ⟨h1, h2⟩ := mem_rows h; exact ⟨by omega, h2⟩
    · obtain ⟨h1, h2, h3, h4⟩ := mem_pr h
      exact ⟨by omega, by rw [h1]; exact h2, by omega, h3⟩
/-- One piece is told ahead of another. -/
def Ahead (p q : Pc) : Prop := p.1 < q.1 ∨ p.1 = q.1 ∧ q.2 < p.2
theorem pr_sorted (c : Nat → Bool) (a k : Nat) : ∀ j, j ≤ k → (pr c a k j).Pairwise Ahead
  | 0, _ => by simp [pr]
  | j + 1, h => by
    rw [pr_succ, List.pairwise_append]
    refine ⟨pr_sorted c a k j (by omega), ?_, ?_⟩
    · split <;> simp
    · intro p hp q hq
      split at hq
      · simp only [List.mem_singleton] at hq
        subst hq
        obtain ⟨h1, h2, h3, h4⟩ := mem_pr hp
        exact .inr ⟨h1, by simp only; omega⟩
      · cases hq
theorem rows_sorted (f : List In4) (most : Int) : ∀ n, (rows f most n).Pairwise Ahead
  | 0 => by simp [rows]
  | n + 1 => by
    rw [rows_succ, List.pairwise_append]
    refine ⟨rows_sorted f most n, pr_sorted _ _ _ _ (by decide), fun p hp q hq => .inl ?_⟩
    rw [(mem_pr hq).1]
    exact (mem_rows hp).1
end Go.Ev
