/- What the functions of bits compute: the smaller ones. -/
import Derived.Test.YtnlhnffijidioaaDoorBitsA
namespace Go.Ev
open Go Go.RowKit
variable {G : Tbl}
set_option maxRecDepth 10000
set_option linter.unusedSimpArgs false
set_option linter.unusedVariables false

/-- What comes of arithmetic in 32 bits. -/
def doW (kind : Int) (a b : Nat) : Nat × Bool :=
  if kind = 4 then ((a + b) % 4294967296, true) else if kind = 20 then ((a + 4294967296 - b) % 4294967296, true) else if kind = 36 then (a * b % 4294967296, true)
  else if kind = 52 then (if b = 0 then (0, false) else (a / b, true)) else if kind = 68 then (a ||| b, true) else if kind = 84 then (a &&& b, true)
  else if kind = 100 then (a * 2 ^ (b % 32) % 4294967296, true) else if kind = 116 then (a / 2 ^ (b % 32), true) else if kind = 164 then (a ^^^ b, true) else (0, false)

theorem wrap32 (n : Int) : IntKind.u32.wrap n = n % 4294967296 := rfl
theorem doW_ok (hG : HasWd G) (kind : Int) (a b : Nat) (ha : a < 4294967296) (hb : b < 4294967296) :
    FP G 107 [.int .i64 kind, .int .u32 a, .int .u32 b] (.tup [.int .u32 ((doW kind a b).1 : Nat), .bool (doW kind a b).2]) := by
  refine FP_of hG.h_word_Do (Nat.le_of_ble_eq_true rfl) ?_
  simp
  by_cases h : kind = 4
  · subst h; simp [doW]; simp [addI, wrap32]
  by_cases h : kind = 20
  · subst h; simp [doW]; simp [subI, wrap32]; omega
  by_cases h : kind = 36
  · subst h; simp [doW]; simp [mulI, wrap32]
  by_cases h : kind = 52
  · subst h
    by_cases hz : b = 0
    · subst hz; simp [doW]
    · simp (disch := omega) [doW, hz, beqF]
      simp [quo32 ha hz, hz]
  by_cases h : kind = 68
  · subst h; simp [doW]; exact or32 ha hb
  by_cases h : kind = 84
  · subst h; simp [doW]; exact and32 ha hb
  by_cases h : kind = 100
  · subst h
    have h1 : b % 32 ≤ 32 := by omega
    simp (disch := omega) [doW, and31 hb, shl32 h1, ltF, -Int.natCast_emod]
  by_cases h : kind = 116
  · subst h
    have h1 : b % 32 ≤ 32 := by omega
    simp (disch := omega) [doW, and31 hb, shr32 h1, ltF, -Int.natCast_emod]
  by_cases h : kind = 164
  · subst h; simp [doW]; exact xor32 ha hb
  simp (disch := omega) [doW, beqF, *]

theorem Const_ok (hG : HasBits G) (c : Nat) : FP G 102 [.int .u32 (c : Int)] (FV [] [c]) := by
  refine FP_of hG.h_bits_Const (Nat.le_of_ble_eq_true rfl) ?_
  simp [FV, nats]
theorem Var_ok (hG : HasBits G) (i : Int) : FP G 103 [.int .i64 i] (if 0 ≤ i ∧ i < 34 then .tup [FV [i] [0, 4294967295], .int .i64 0] else .tup [FV [] [], .int .i64 1]) := by
  refine FP_of hG.h_bits_Var (Nat.le_of_ble_eq_true rfl) ?_
  by_cases h1 : i < 0
  · simp (disch := omega) [FV, nats, ints, leT, leF, ltT, ltF]
  · by_cases h2 : i < 34
    · simp (disch := omega) [FV, nats, ints, leT, leF, ltT, ltF]
    · simp (disch := omega) [FV, nats, ints, leT, leF, ltT, ltF]

theorem eq_of_get {α : Type} {a b : List α} (hl : a.length = b.length) (h : ∀ m, m < a.length → a[m]? = b[m]?) : a = b := List.ext_getElem? fun i => by
  by_cases hi : i < a.length
  · exact h i hi
  · rw [List.getElem?_eq_none (by omega), List.getElem?_eq_none (by omega)]
theorem Same_ok (hG : HasBits G) (v v' : List Int) (t t' : List Nat) (h1 : v.length ≤ 9223372036854775807) (h2 : t.length ≤ 9223372036854775807) :
    FP G 111 [FV v t, FV v' t'] (.bool (decide (v = v' ∧ t = t'))) := by
  refine FP_of hG.h_bits_Same (Nat.le_of_ble_eq_true rfl) ?_
  simp [FV]
  by_cases hv : v.length = v'.length
  · by_cases ht : t.length = t'.length
    · simp (disch := omega) [bneF]
      refine W_up v.length (fun n => [(2, .ptr 0 0), (3, .ptr 1 0), (25, .int .i64 v.length), (26, .int .i64 n)])
        (fun _ => [some (.cells [.vs (ints .i64 v) .no, .vs (nats .u32 t) .no]), some (.cells [.vs (ints .i64 v') .no, .vs (nats .u32 t') .no])]) (fun n => ∀ m, m < n → v[m]? = v'[m]?) ?_ ?_
      · simp [keep_cl, trunc]
      intro n hn hall
      by_cases hlt : n < v.length
      · simp (disch := omega) [ltT, get_in, add1', -Int.natCast_add]
        rw [condW_bool]
        split
        · rename_i he
          have : v ≠ v' := fun e => by subst e; simp at he
          simp [this]
        · rename_i he
          simp at he
          simp (disch := omega) [add1', hlt, keep_cl, trunc, -Int.natCast_add]
          intro m hm
          by_cases hmn : m = n
          · subst hmn; rw [List.getElem?_eq_getElem hlt, List.getElem?_eq_getElem (by omega), he]
          · exact hall m (by omega)
      · have hvv : v = v' := eq_of_get hv (by have : n = v.length := by omega
                                              subst this; exact hall)
        subst hvv
        simp (disch := omega) [ltF]
        refine W_up t.length (fun n => [(2, .ptr 0 0), (3, .ptr 1 0), (43, .int .i64 t.length), (44, .int .i64 n)])
          (fun _ => [some (.cells [.vs (ints .i64 v) .no, .vs (nats .u32 t) .no]), some (.cells [.vs (ints .i64 v) .no, .vs (nats .u32 t') .no])]) (fun n => ∀ m, m < n → t[m]? = t'[m]?) ?_ ?_
        · simp [keep_cl, trunc]
        intro n hn hall
        by_cases hlt : n < t.length
        · simp (disch := omega) [ltT, get_in, add1', -Int.natCast_add]
          rw [condW_bool]
          split
          · rename_i he
            have : t ≠ t' := fun e => by subst e; simp at he
            simp [this]
          · rename_i he
            simp at he
            simp (disch := omega) [add1', hlt, keep_cl, trunc, -Int.natCast_add]
            intro m hm
            by_cases hmn : m = n
            · subst hmn; rw [List.getElem?_eq_getElem hlt, List.getElem?_eq_getElem (by omega), he]
            · exact hall m (by omega)
        · have htt : t = t' := eq_of_get ht (by have : n = t.length := by omega
                                                subst this; exact hall)
          subst htt
          simp (disch := omega) [ltF]
    · simp (disch := omega) [bneT, bneF]
      intro h e; subst e; exact ht rfl
  · simp (disch := omega) [bneT]
    intro e; subst e; exact absurd rfl hv

theorem union_ok (hG : HasBits G) (a b : List Int) (hl : a.length + b.length ≤ 1000) :
    FP G 104 [.vs (ints .i64 a) .no, .vs (ints .i64 b) .no] (.vs (ints .i64 (mer a b)) .no) := by
  refine FP_of hG.h_bits_union (Nat.le_of_ble_eq_true rfl) ?_
  simp
  refine W_state (fun s : List Int × List Int × List Int => s.2.1.length + s.2.2.length)
    (fun s => [(0, .vs (ints .i64 s.2.1) .no), (1, .vs (ints .i64 s.2.2) .no), (5, .vs (ints .i64 s.1) (.own 0))]) (fun s => [some (.zone s.1.length)])
    (fun s => s.1 ++ mer s.2.1 s.2.2 = mer a b ∧ s.1.length + s.2.1.length + s.2.2.length ≤ 1000) ([], a, b) ?_ ?_
  · simp [keep_cl, trunc, hl]
  rintro ⟨out, x, y⟩ ⟨hm, hs⟩
  simp only at hm hs
  cases x with
  | nil =>
    cases y with
    | nil => simp [mer] at hm; simp [addI64, hm]
    | cons v y =>
      simp only [List.length_cons, List.length_nil] at hs
      simp (disch := omega) [addI64, ltT, ltF, leTn, ints_cons, eqF, eqT, beqF, bounds, leT]
      refine ⟨(out ++ [v], [], y), ?_⟩
      simp [mer] at hm
      simp [hm, keep_cl, trunc, ints_cons, mer, mer_nil]
      omega
  | cons u x =>
    cases y with
    | nil =>
      simp only [List.length_cons, List.length_nil] at hs
      simp (disch := omega) [addI64, ltT, ltF, leTn, ints_cons, eqF, eqT, beqF, bounds, leT]
      refine ⟨(out ++ [u], x, []), ?_⟩
      simp [mer, mer_nil] at hm
      simp [hm, keep_cl, trunc, ints_cons, mer, mer_nil]
      omega
    | cons v y =>
      simp only [List.length_cons, List.length_nil] at hs
      rw [mer] at hm
      by_cases h1 : u < v
      · simp (disch := omega) [addI64, ltT, ltF, leTn, ints_cons, eqF, eqT, beqF, bounds, leT]
        refine ⟨(out ++ [u], x, v :: y), ?_⟩
        simp [h1] at hm
        simp [hm, keep_cl, trunc, ints_cons, mer, mer_nil]
        omega
      · by_cases h2 : v < u
        · simp (disch := omega) [addI64, ltT, ltF, leTn, ints_cons, eqF, eqT, beqF, bounds, leT]
          refine ⟨(out ++ [v], u :: x, y), ?_⟩
          simp [h1, h2] at hm
          simp [hm, keep_cl, trunc, ints_cons, mer, mer_nil]
          omega
        · simp (disch := omega) [addI64, ltT, ltF, leTn, ints_cons, eqF, eqT, beqF, bounds, leT]
          refine ⟨(out ++ [u], x, y), ?_⟩
          simp [h1, h2] at hm
          simp [hm, keep_cl, trunc, ints_cons, mer, mer_nil]
          omega

/-- A value of bits, and one more bit. -/
theorem or_bit {k j b : Nat} (hk : k < 2 ^ j) (hb : b ≤ 1) : k ||| b * 2 ^ j = k + 2 ^ j * b := by
  rw [Nat.mul_comm b, Nat.or_comm, ← Nat.two_pow_add_eq_or_of_lt hk]; omega
theorem toNat_bit (n i : Nat) : n / 2 ^ i % 2 = (n.testBit i).toNat := by
  rw [Nat.testBit_eq_decide_div_mod_eq]
  rcases Nat.mod_two_eq_zero_or_one (n / 2 ^ i) with h | h <;> simp [h]
theorem and1 {b : Nat} (hb : b < 9223372036854775808) : andI .i64 (b : Int) 1 = ((b % 2 : Nat) : Int) := by
  have := and64 (a := b) (b := 1) hb (by decide)
  rw [show ((1 : Nat) : Int) = 1 from rfl] at this
  rw [this, show (1 : Nat) = 2 ^ 1 - 1 from rfl, Nat.and_two_pow_sub_one_eq_mod]

theorem at_ok (hG : HasBits G) (fv : List Int) (tab : List Nat) (vs : List Int) (n : Nat) (hl : tab.length = 2 ^ fv.length) (hs : fv.Sublist vs) (hnd : vs.Nodup) (hv : vs.length ≤ 30) (hn : n < 2 ^ 31) :
    FP G 105 [FV fv tab, .vs (ints .i64 vs) .no, .int .i64 n] (.int .u32 (sem fv tab (say vs n) : Nat)) := by
  have hfl := hs.length_le
  refine FP_of hG.h_bits_at (Nat.le_of_ble_eq_true rfl) ?_
  simp [FV]
  refine W_state (fun s : Nat × Nat => vs.length - s.1)
    (fun s => [(2, .int .i64 n), (3, .ptr 0 0), (7, .int .i64 (idx (fv.take s.2) (say vs n) : Nat)), (8, .int .i64 s.2), (11, .vs (ints .i64 vs) .no), (12, .int .i64 vs.length), (13, .int .i64 s.1)])
    (fun _ => [some (.cells [.vs (ints .i64 fv) .no, .vs (nats .u32 tab) .no])]) (fun s => s.1 ≤ vs.length ∧ s.2 ≤ fv.length ∧ (fv.drop s.2).Sublist (vs.drop s.1)) (0, 0) ?_ ?_
  · simp [keep_cl, trunc, hs, idx]
  rintro ⟨i, j⟩ ⟨hi, hj, hsub⟩
  simp only at hi hj hsub
  by_cases hlt : i < vs.length
  · have hvi : vs.drop i = vs[i] :: vs.drop (i + 1) := List.drop_eq_getElem_cons hlt
    by_cases hjl : j < fv.length
    · have hfj : fv.drop j = fv[j] :: fv.drop (j + 1) := List.drop_eq_getElem_cons hjl
      by_cases he : fv[j] = vs[i]
      · have hk : idx (fv.take j) (say vs n) < 2 ^ j := by have := idx_lt (fv.take j) (say vs n); rwa [List.length_take, Nat.min_eq_left hj] at this
        have h30 : 2 ^ j ≤ 2 ^ 30 := Nat.pow_le_pow_right (by decide) (by omega)
        have h1 : n / 2 ^ i < 9223372036854775808 := Nat.lt_of_le_of_lt (Nat.div_le_self _ _) (by omega)
        have h2 : n / 2 ^ i % 2 ≤ 1 := by omega
        have h3 : n / 2 ^ i % 2 * 2 ^ j ≤ 1 * 2 ^ j := Nat.mul_le_mul_right _ h2
        have h4 : idx (fv.take (j + 1)) (say vs n) = idx (fv.take j) (say vs n) ||| n / 2 ^ i % 2 * 2 ^ j := by
          rw [or_bit hk h2, List.take_add_one, idx_append, List.getElem?_eq_getElem hjl, List.length_take, Nat.min_eq_left hj, toNat_bit]
          simp only [Option.toList_some, idx, say, he, List.Nodup.idxOf_getElem hnd, Nat.mul_zero, Nat.add_zero]
        simp (disch := omega) [ltT, get_in, he, shr64, and1 h1, shl64, or64, add1', ltF, -Int.natCast_add, -Int.natCast_mul, -Int.natCast_pow, -Int.natCast_emod, -Int.natCast_ediv]
        refine ⟨(i + 1, j + 1), ?_⟩
        simp [keep_cl, trunc, h4, -Int.natCast_add]
        and_intros <;> first | omega | skip
        rw [hfj, hvi, he] at hsub
        exact List.cons_sublist_cons.1 hsub
      · simp (disch := omega) [ltT, get_in, add1', beqF he, -Int.natCast_add]
        refine ⟨(i + 1, j), ?_⟩
        simp [keep_cl, trunc, -Int.natCast_add]
        and_intros <;> first | omega | skip
        rw [hfj, hvi] at hsub
        rw [hfj]
        rcases List.sublist_cons_iff.1 hsub with h | ⟨r, hr, _⟩
        · exact h
        · exact absurd (List.cons.inj hr).1 he
    · simp (disch := omega) [ltT, ltF, get_in, add1', -Int.natCast_add]
      refine ⟨(i + 1, j), ?_⟩
      simp [keep_cl, trunc, -Int.natCast_add]
      and_intros <;> first | omega | skip
      rw [List.drop_eq_nil_of_le (as := fv) (by omega)]
      exact List.nil_sublist _
  · have hjl : j = fv.length := by
      rw [List.drop_eq_nil_of_le (as := vs) (by omega)] at hsub
      have := List.drop_eq_nil_iff.1 (List.sublist_nil.1 hsub)
      omega
    subst hjl
    have := idx_lt fv (say vs n)
    simp (disch := omega) [ltF, get_in, sem, List.getD_eq_getElem?_getD]
end Go.Ev
