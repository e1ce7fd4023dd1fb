/- What instructions need and set, by hurdleref07. -/
import Derived.Test.YtdomogpjchpbnaaLiveA
import Derived.Test.YtdomogpjchpbnaaEvLaw07C
namespace Go.Ev
open Go Go.RowKit
variable {G : Tbl}
set_option maxRecDepth 10000
set_option maxHeartbeats 2000000
set_option linter.unusedSimpArgs false
set_option linter.unusedVariables false

theorem in_ok [HasR7 G] (n : Int) (l : List Int) (hl : l.length ≤ 9223372036854775806) : FP G 193 [.int .i64 n, .vs (ints .i64 l) .no] (.bool (decide (n ∈ l))) := by
  refine FP_of HasR7.h_hurdleref07_in (Nat.le_of_ble_eq_true rfl) ?_
  simp
  refine W_up l.length (fun i => [(0, .int .i64 n), (1, .vs (ints .i64 l) .no), (5, .int .i64 i)]) (fun _ => []) (fun i => n ∉ l.take i) ?_ ?_
  · simp [keep_cl, trunc]
  intro i hi hn
  by_cases hlt : i < l.length
  · by_cases he : l[i] = n
    · have : n ∈ l := he ▸ List.getElem_mem hlt
      simp (disch := omega) [ltT, get_in, he, this, -Int.natCast_add]
    · have hn' : n ∉ l.take (i + 1) := by
        rw [List.take_add_one, List.getElem?_eq_getElem hlt]
        simp only [Option.toList, List.mem_append, List.mem_singleton]
        rintro (h | h)
        · exact hn h
        · exact he h.symm
      simp (disch := omega) [ltT, get_in, beqF, he, add1', hlt, keep_cl, trunc, hn', -Int.natCast_add]
  · have hne : i = l.length := by omega
    subst hne
    rw [List.take_length] at hn
    simp [hn]

theorem UsesR_ok [HasR2 G] [HasR7 G] (x : In4) (part : Nat) (hp : part < 9223372036854775807) (hk : x.k < 4294967296) : FP G 194 [IV x, .int .i64 part] (.bool (usesP x part)) := by
  refine FP_of HasR7.h_hurdleref07_Uses (Nat.le_of_ble_eq_true rfl) ?_
  have ha := AluR_ok (G := G) x
  have hbr := BranchR_ok (G := G) x
  simp [IV, In4.cs] at ha hbr ⊢
  refine callP_of ha ?_
  simp
  refine callP_of hbr ?_
  have hother : isBr x.op = true → (remI x.op 16 == 13) = decide (x.op ∈ [29, 45, 61, 77]) := by
    intro h
    have key : ∀ p ∈ [21, 37, 53, 69, 29, 45, 61, (77 : Int)], (remI p 16 == 13) = decide (p ∈ [29, 45, 61, 77]) := by decide
    exact key _ (by simpa [isBr] using h)
  have hnb : isBr x.op = false → decide (x.op ∈ [29, 45, 61, 77]) = false := by
    intro h
    simp only [isBr, decide_eq_false_iff_not] at h ⊢
    intro h2; apply h; simp only [List.mem_cons, List.not_mem_nil, or_false] at h2 ⊢; omega
  have two : ∀ k : Heap → Env → Prop, True := fun _ => trivial
  have i4 := in_ok (G := G) x.op [2, 7, 132, 22] (by decide)
  have i2 := in_ok (G := G) x.op [3, 135] (by decide)
  simp only [ints, List.map_cons, List.map_nil] at i4 i2
  cases hb : isBr x.op
  · have hn := hnb hb
    simp
    by_cases p0 : part = 0
    · subst p0
      cases hal : (aluT x.op).2.2
      · simp [hal]
        refine callP_of i4 ?_
        simp [usesP, hal, hb]
      · simp [hal, usesP]
    by_cases p1 : part = 1
    · subst p1
      cases hal : (aluT x.op).2.1
      · have : FP G 193 [V.int IntKind.i64 x.op, V.vs [[V.int IntKind.i64 3], [V.int IntKind.i64 135]] Tk.no] (.bool (usesP x 1)) := by
          have : usesP x 1 = decide (x.op ∈ [3, 135]) := by simp only [usesP, byXB, hal, hn]; simp
          rw [this]; exact i2
        cases h22 : (aluT x.op).2.2 <;> simp [hal, h22, beqF] <;> refine callP_of this ?_ <;> simp
      · have h22 := alu_x hal
        simp [hal, h22, beqF, usesP, byXB]
    have hc1 : convI .u64 (x.k : Int) = ((x.k : Nat) : Int) := by unfold convI; exact IntWalk.u64_in _ ⟨by omega, by omega⟩
    have hc2 : convI .u64 (part : Int) = ((part : Nat) : Int) := by unfold convI; exact IntWalk.u64_in _ ⟨by omega, by omega⟩
    have hc3 : addI .u64 (x.k : Int) 2 = ((x.k + 2 : Nat) : Int) := by unfold addI; rw [show ((x.k : Int) + 2) = ((x.k + 2 : Nat) : Int) by omega]; exact IntWalk.u64_in _ ⟨by omega, by omega⟩
    have hp0 : ((part : Int) == 0) = false := beqF (by omega)
    have hp1 : ((part : Int) == 1) = false := beqF (by omega)
    by_cases h96 : x.op = 96
    · simp [h96, hp0, hp1, hc1, hc2, hc3, usesP, p0, p1, beqI, -Int.natCast_add]
    · by_cases h97 : x.op = 97
      · simp [h97, hp0, hp1, hc1, hc2, hc3, usesP, p0, p1, beqI, -Int.natCast_add]
      · simp [h96, h97, hp0, hp1, beqF, usesP, p0, p1]
  · have ho := hother hb
    have hna : (aluT x.op).2.2 = false ∧ (aluT x.op).2.1 = false ∧ ¬ x.op = 96 ∧ ¬ x.op = 97 := by
      have key : ∀ p ∈ [21, 37, 53, 69, 29, 45, 61, (77 : Int)], (aluT p).2.2 = false ∧ (aluT p).2.1 = false ∧ ¬ p = 96 ∧ ¬ p = 97 := by decide
      exact key _ (by simpa [isBr] using hb)
    have hp0 : ¬ part = 0 → ((part : Int) == 0) = false := fun h => beqF (by omega)
    have hp1 : ¬ part = 1 → ((part : Int) == 1) = false := fun h => beqF (by omega)
    cases hq : (remI x.op 16 == 13) <;> rw [hq] at ho <;> simp [hq]
    · by_cases p0 : part = 0
      · subst p0; simp [hna.1, usesP, hb]
      by_cases p1 : part = 1
      · subst p1
        have : FP G 193 [V.int IntKind.i64 x.op, V.vs [[V.int IntKind.i64 3], [V.int IntKind.i64 135]] Tk.no] (.bool (usesP x 1)) := by
          have : usesP x 1 = decide (x.op ∈ [3, 135]) := by simp only [usesP, byXB, hna.2.1, ← ho]; simp
          rw [this]; exact i2
        simp [hna.1, beqF]
        refine callP_of this ?_
        simp
      simp [hna.2.2.1, hna.2.2.2, hp0 p0, hp1 p1, beqF, usesP, p0, p1]
    · by_cases p0 : part = 0
      · subst p0; simp [hna.1, usesP, hb]
      by_cases p1 : part = 1
      · subst p1
        have hu : usesP x 1 = true := by simp only [usesP, byXB, ← ho]; simp
        simp [hna.1, beqF, hu]
      simp [hna.2.2.1, hna.2.2.2, hp0 p0, hp1 p1, beqF, usesP, p0, p1]

theorem SetsR_ok [HasR2 G] [HasR7 G] (x : In4) (part : Nat) (hp : part < 9223372036854775807) (hk : x.k < 4294967296) : FP G 195 [IV x, .int .i64 part] (.bool (setsP x part)) := by
  refine FP_of HasR7.h_hurdleref07_Sets (Nat.le_of_ble_eq_true rfl) ?_
  have ha := AluR_ok (G := G) x
  simp [IV, In4.cs] at ha ⊢
  refine callP_of ha ?_
  have i5 := in_ok (G := G) x.op [0, 32, 96, 135, 132] (by decide)
  have i3 := in_ok (G := G) x.op [1, 97, 7] (by decide)
  simp only [ints, List.map_cons, List.map_nil] at i5 i3
  by_cases p0 : part = 0
  · subst p0
    cases hal : (aluT x.op).2.2
    · simp [hal]
      refine callP_of i5 ?_
      simp [setsP, hal]
    · simp [hal, setsP]
  by_cases p1 : part = 1
  · subst p1
    simp [beqF]
    refine callP_of i3 ?_
    simp [setsP]
  have hc1 : convI .u64 (x.k : Int) = ((x.k : Nat) : Int) := by unfold convI; exact IntWalk.u64_in _ ⟨by omega, by omega⟩
  have hc2 : convI .u64 (part : Int) = ((part : Nat) : Int) := by unfold convI; exact IntWalk.u64_in _ ⟨by omega, by omega⟩
  have hc3 : addI .u64 (x.k : Int) 2 = ((x.k + 2 : Nat) : Int) := by unfold addI; rw [show ((x.k : Int) + 2) = ((x.k + 2 : Nat) : Int) by omega]; exact IntWalk.u64_in _ ⟨by omega, by omega⟩
  have hp0 : ((part : Int) == 0) = false := beqF (by omega)
  have hp1 : ((part : Int) == 1) = false := beqF (by omega)
  by_cases h2 : x.op = 2
  · simp [h2, hp0, hp1, hc1, hc2, hc3, setsP, p0, p1, beqI, -Int.natCast_add]
  · by_cases h3 : x.op = 3
    · simp [h3, hp0, hp1, hc1, hc2, hc3, setsP, p0, p1, beqI, -Int.natCast_add]
    · simp [h2, h3, hp0, hp1, beqF, setsP, p0, p1]

/-- Truth values. -/
def bools (l : List Bool) : List (List V) := l.map fun b => [.bool b]
@[simp] theorem bools_length (l : List Bool) : (bools l).length = l.length := by simp [bools]
@[simp] theorem bools_get (l : List Bool) (i : Nat) : (bools l)[i]? = (l[i]?).map fun b => [.bool b] := by simp [bools]
@[simp] theorem bools_nil : bools [] = [] := rfl
@[simp] theorem bools_snoc (l : List Bool) (x : Bool) : bools l ++ [[.bool x]] = bools (l ++ [x]) := by simp [bools]
@[simp] theorem bools_sz (l : List Bool) : (∀ f ∈ bools l, f.length = 1) = True := by
  simp only [eq_iff_iff, iff_true]
  intro f hf
  simp only [bools, List.mem_map] at hf
  obtain ⟨x, _, rfl⟩ := hf
  rfl

theorem Mask_ok [HasR7 G] (l : List Bool) (hl : l.length = 18) (f : Nat → Bool) (hf : ∀ i, i < 18 → l[i]? = some (f i)) : FP G 196 [.vs (bools l) .no] (.int .u32 (wordOf f 18 : Nat)) := by
  refine FP_of HasR7.h_hurdleref07_Mask (Nat.le_of_ble_eq_true rfl) ?_
  simp
  refine W_up 18 (fun i => [(0, .vs (bools l) .no), (3, .int .u32 (wordOf f i : Nat)), (4, .int .u32 (2 ^ i : Nat)), (5, .int .i64 i)]) (fun _ => []) (fun _ => True) ?_ ?_
  · simp [keep_cl, trunc, wordOf]
  intro i hi _
  by_cases hlt : i < 18
  · have h1 := wordOf_lt f i
    have h2 : 2 ^ i ≤ 2 ^ 17 := Nat.pow_le_pow_right (by decide) (by omega)
    obtain ⟨_, hg⟩ := List.getElem?_eq_some_iff.1 (hf i hlt)
    have hmul : mulI .u32 ((2 ^ i : Nat) : Int) 2 = ((2 ^ (i + 1) : Nat) : Int) := by
      unfold mulI
      rw [show (((2 ^ i : Nat) : Int) * 2) = ((2 ^ (i + 1) : Nat) : Int) by rw [Nat.pow_succ]; omega]
      exact wrap_nat32 (by rw [Nat.pow_succ]; omega)
    have hadd : addI .u32 ((wordOf f i : Nat) : Int) ((2 ^ i : Nat) : Int) = ((wordOf f i + 2 ^ i : Nat) : Int) := by
      unfold addI
      rw [← Int.natCast_add]; exact wrap_nat32 (by omega)
    cases hb : f i
    · simp (disch := omega) [ltT, hl, hg, hb, hmul, add1', hlt, keep_cl, trunc, wordOf, -Int.natCast_add, -Int.natCast_pow]
    · simp (disch := omega) [ltT, hl, hg, hb, hmul, hadd, add1', hlt, keep_cl, trunc, wordOf, -Int.natCast_add, -Int.natCast_pow]
  · have hne : i = 18 := by omega
    subst hne
    simp [-Int.natCast_add, -Int.natCast_pow]

theorem uses7_ok [HasR2 G] [HasR7 G] [HasL7 G] (x : In4) (hk : x.k < 4294967296) : FP G 215 [IV x] (.tup [.int .u32 (usesM x : Nat), .int .u32 (setsM x : Nat)]) := by
  refine FP_of HasL7.h_hurdlelaw07_uses (Nat.le_of_ble_eq_true rfl) ?_
  simp [IV]
  refine W_up 18 (fun i => [(1, .ptr 0 0), (4, .vs (bools ((List.range i).map (usesP x))) (.own 1)), (5, .vs (bools ((List.range i).map (setsP x))) (.own 2)), (6, .int .i64 i)])
    (fun i => [some (.cells x.cs), some (.zone i), some (.zone i)]) (fun _ => True) ?_ ?_
  · simp [keep_cl, trunc, In4.cs]
  intro i hi _
  by_cases hlt : i < 18
  · have hu := UsesR_ok (G := G) x i (by omega) hk
    have hs := SetsR_ok (G := G) x i (by omega) hk
    simp [IV, In4.cs] at hu hs
    simp (disch := omega) [ltT, In4.cs, -Int.natCast_add]
    refine callP_of hu ?_
    simp (disch := omega) [leTn, -Int.natCast_add]
    refine callP_of hs ?_
    simp (disch := omega) [leTn, add1', hlt, keep_cl, trunc, List.range_succ, -Int.natCast_add]
  · have hne : i = 18 := by omega
    subst hne
    simp
    refine callP_of (Mask_ok _ (by simp) (usesP x) fun i hi => by simp [hi]) ?_
    simp
    refine callP_of (Mask_ok _ (by simp) (setsP x) fun i hi => by simp [hi]) ?_
    simp [usesM, setsM]

/-- LIVETELLS. -/
theorem LiveTells_ok [HasIns G] [HasTells G] [HasR2 G] [HasR7 G] [HasL7 G] (hkn : FP G 216 [] (.bool true)) (x : In4) (hk : x.k < 4294967296) : FP G 217 [IV x] (.bool true) := by
  refine FP_of HasL7.h_hurdlelaw07_LiveTells (Nat.le_of_ble_eq_true rfl) ?_
  have h1 := uses7_ok (G := G) x hk
  have h2 := Uses_ok (G := G) x
  have h3 := Sets_ok (G := G) x
  simp [IV, In4.cs] at h1 h2 h3 ⊢
  refine callP_of h1 ?_
  simp
  refine callP_of h2 ?_
  simp
  refine callP_of h3 ?_
  simp
  refine callP_of hkn ?_
  simp

end Go.Ev
