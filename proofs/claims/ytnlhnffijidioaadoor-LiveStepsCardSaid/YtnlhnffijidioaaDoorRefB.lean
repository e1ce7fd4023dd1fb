/- What the functions of hurdleref15 and hurdleref01 compute: the rest. -/
import Derived.Test.YtnlhnffijidioaaDoorRefA
namespace Go.Ev
open Go Go.RowKit
variable {G : Tbl}
set_option maxRecDepth 10000
set_option maxHeartbeats 2000000
set_option linter.unusedSimpArgs false
set_option linter.unusedVariables false

theorem wrapU64 {n : Nat} (h : n < 18446744073709551616) : IntKind.u64.wrap (n : Int) = n := by
  show ((n : Int) % 18446744073709551616) = n
  omega
theorem convU64 {b : Nat} (hb : b < 18446744073709551616) : convI .u64 (b : Int) = (b : Int) := wrapU64 hb
theorem convU32 {b : Nat} (hb : b < 4294967296) : convI .u32 (b : Int) = (b : Int) := wrap_nat32 hb
theorem quoU64 {a b : Nat} (ha : a < 18446744073709551616) : quoI .u64 (a : Int) (b : Int) = ((a / b : Nat) : Int) := by
  unfold quoI
  rw [Int.tdiv_eq_ediv_of_nonneg (by omega)]
  have h : ((a : Int) / (b : Int)) = ((a / b : Nat) : Int) := by rw [Int.natCast_ediv]
  rw [h]
  exact wrapU64 (Nat.lt_of_le_of_lt (Nat.div_le_self a b) ha)
theorem addU64 {a b : Nat} (h : a + b < 18446744073709551616) : addI .u64 (a : Int) (b : Int) = ((a + b : Nat) : Int) := by
  unfold addI; rw [← Int.natCast_add]; exact wrapU64 h
theorem mulU64 {a b : Nat} (h : a * b < 18446744073709551616) : mulI .u64 (a : Int) (b : Int) = ((a * b : Nat) : Int) := by
  unfold mulI; rw [← Int.natCast_mul]; exact wrapU64 h

theorem Assign_ok (hG : HasRef15 G) (vs : List Int) (n : Nat) (hv : vs.length ≤ 60) (hm : ∀ v ∈ vs, 0 ≤ v ∧ v < 34) (hnd : vs.Nodup) (hn : n < 2 ^ 62) :
    FP G 117 [.vs (ints .i64 vs) .no, .int .i64 n] (.vs (nats .u32 (asgn vs (say vs n))) .no) := by
  refine FP_of hG.h_hurdleref15_Assign (Nat.le_of_ble_eq_true rfl) ?_
  simp
  refine W_up vs.length (fun j => [(0, .vs (ints .i64 vs) .no), (1, .int .i64 n), (5, .rs 0 0 34 1), (6, .int .i64 j)])
    (fun j => [some (.cells (cnats .u32 (asgn (vs.take j) (say vs n))))]) (fun _ => True) ?_ ?_
  · simp [keep_cl, trunc, asgn_nil]
  intro j hj _
  by_cases hjl : j < vs.length
  · have hm1 := hm _ (List.getElem_mem hjl)
    have hlen : (asgn (vs.take j) (say vs n)).length = 34 := by simp [asgn]
    have hset := cnats_set .u32 (asgn (vs.take j) (say vs n)) vs[j].toNat
    have hstep := asgn_step hnd (say vs n) hjl hm1.1
    have hsay : say vs n vs[j] = n.testBit j := by simp only [say]; rw [List.Nodup.idxOf_getElem hnd]
    rw [hsay] at hstep
    have hbit := toNat_bit n j
    have h0 : 0 < 2 ^ j := Nat.two_pow_pos j
    simp (disch := omega) [ltT, -Int.natCast_add]
    refine callP_of (size_ok hG j (by omega)) ?_
    cases hbb : n.testBit j
    · rw [hbb] at hstep hbit
      have hself : (asgn (vs.take j) (say vs n)).set vs[j].toNat 0 = asgn (vs.take j) (say vs n) := by
        refine List.ext_getElem (by simp) fun i h1 h2 => ?_
        rw [List.getElem_set]
        split
        · rename_i e
          simp only [asgn, List.getElem_map, List.getElem_range]
          have : (i : Int) = vs[j] := by omega
          rw [this, hsay, hbb]; simp
        · rfl
      rw [if_neg (by simp), hself] at hstep
      simp (disch := omega) [eqF, quo64, rem2, hbit, add1', keep_cl, trunc, hjl, hstep, -Int.natCast_add, -Int.natCast_pow, -Int.natCast_ediv, -Int.natCast_emod]
    · rw [hbb] at hstep hbit
      rw [if_pos rfl] at hstep
      have hs0 := hset 4294967295 (by omega)
      simp (disch := omega) [eqF, quo64, rem2, hbit, get_in, leT, ltT, leTn, hlen, add1', keep_cl, trunc, hjl, hstep, -Int.natCast_add, -Int.natCast_pow, -Int.natCast_ediv, -Int.natCast_emod]
      exact (congrArg (clL 1) hs0).trans (cnats_cl 1 _ _)
  · have hne : j = vs.length := by omega
    subst hne
    have hlen : (asgn vs (say vs n)).length = 34 := by simp [asgn]
    have hch := cnats_chunks .u32 (asgn vs (say vs n))
    rw [hlen] at hch
    have hall := cnats_pure .u32 (asgn vs (say vs n))
    simp (disch := omega) [ltF, hlen]
    simp [nats, ← hch]

theorem bit_ok (hG : HasRef15 G) (w i : Nat) (hw : w < 4294967296) (hi : i ≤ 60) : FP G 118 [.int .u32 w, .int .i64 i] (.int .i64 ((w.testBit i).toNat : Nat)) := by
  have h0 : 0 < 2 ^ i := Nat.two_pow_pos i
  have h1 : 2 ^ i ≤ 2 ^ 60 := Nat.pow_le_pow_right (by decide) hi
  have h2 := toNat_bit w i
  have h3 : w / 2 ^ i < 18446744073709551616 := Nat.lt_of_le_of_lt (Nat.div_le_self _ _) (by omega)
  have h4 : (w.testBit i).toNat < 2 := by cases w.testBit i <;> simp
  refine FP_of hG.h_hurdleref15_bit (Nat.le_of_ble_eq_true rfl) ?_
  simp [-Int.natCast_pow]
  refine callP_of (size_ok hG i (by omega)) ?_
  simp (disch := omega) [convU64, quoU64, rem2, eqF, h2, conv64, -Int.natCast_pow, -Int.natCast_ediv, -Int.natCast_emod]
theorem SameR_ok (hG : HasRef15 G) (v v' : List Int) (t t' : List Nat) (h1 : v.length ≤ 9223372036854775807) (h2 : t.length ≤ 9223372036854775807) :
    FP G 123 [FV v t, FV v' t'] (.bool (decide (v = v' ∧ t = t'))) := by
  refine FP_of hG.h_hurdleref15_Same (Nat.le_of_ble_eq_true rfl) ?_
  simp [FV]
  by_cases hv : v.length = v'.length
  · by_cases ht : t.length = t'.length
    · simp (disch := omega) [bneF]
      refine W_up v.length (fun n => [(2, .ptr 0 0), (3, .ptr 1 0), (5, .int .i64 n)])
        (fun _ => [some (.cells [.vs (ints .i64 v) .no, .vs (nats .u32 t) .no]), some (.cells [.vs (ints .i64 v') .no, .vs (nats .u32 t') .no])]) (fun n => ∀ m, m < n → v[m]? = v'[m]?) ?_ ?_
      · simp [keep_cl, trunc]
      intro n hn hall
      by_cases hlt : n < v.length
      · simp (disch := omega) [ltT, get_in, add1', -Int.natCast_add]
        rw [condW_bool]
        split
        · rename_i he
          have : v ≠ v' := fun e => by subst e; simp at he
          simp [this]
        · rename_i he
          simp at he
          simp (disch := omega) [add1', hlt, keep_cl, trunc, -Int.natCast_add]
          intro m hm
          by_cases hmn : m = n
          · subst hmn; rw [List.getElem?_eq_getElem hlt, List.getElem?_eq_getElem (by omega), he]
          · exact hall m (by omega)
      · have hvv : v = v' := eq_of_get hv (by have : n = v.length := by omega
                                              subst this; exact hall)
        subst hvv
        simp (disch := omega) [ltF]
        refine W_up t.length (fun n => [(2, .ptr 0 0), (3, .ptr 1 0), (6, .int .i64 n)])
          (fun _ => [some (.cells [.vs (ints .i64 v) .no, .vs (nats .u32 t) .no]), some (.cells [.vs (ints .i64 v) .no, .vs (nats .u32 t') .no])]) (fun n => ∀ m, m < n → t[m]? = t'[m]?) ?_ ?_
        · simp [keep_cl, trunc]
        intro n hn hall
        by_cases hlt : n < t.length
        · simp (disch := omega) [ltT, get_in, add1', -Int.natCast_add]
          rw [condW_bool]
          split
          · rename_i he
            have : t ≠ t' := fun e => by subst e; simp at he
            simp [this]
          · rename_i he
            simp at he
            simp (disch := omega) [add1', hlt, keep_cl, trunc, -Int.natCast_add]
            intro m hm
            by_cases hmn : m = n
            · subst hmn; rw [List.getElem?_eq_getElem hlt, List.getElem?_eq_getElem (by omega), he]
            · exact hall m (by omega)
        · have htt : t = t' := eq_of_get ht (by have : n = t.length := by omega
                                                subst this; exact hall)
          subst htt
          simp (disch := omega) [ltF]
    · simp (disch := omega) [bneT, bneF]
      intro h e; subst e; exact ht rfl
  · simp (disch := omega) [bneT]
    intro e; subst e; exact absurd rfl hv


theorem EvalR_ok (hG : HasRef15 G) (vs : List Int) (tab : List Nat) (r : List Nat) (R : Right vs tab) (ht : ∀ w ∈ tab, w < 4294967296) (hr : r.length = 34) (hrw : ∀ w ∈ r, w < 4294967296) :
    FP G 119 [FV vs tab, .vs (nats .u32 r) .no] (.int .u32 (val vs tab (asg r) : Nat)) := by
  have h4 := R.1
  refine FP_of hG.h_hurdleref15_Eval (Nat.le_of_ble_eq_true rfl) ?_
  simp [FV]
  refine W_up 32 (fun i => [(1, .vs (nats .u32 r) .no), (2, .ptr 0 0), (5, .int .u64 (wordOf (fun i => (sem vs tab fun v => (asg r v).testBit i).testBit i) i : Nat)), (6, .int .i64 i)])
    (fun _ => [some (.cells [.vs (ints .i64 vs) .no, .vs (nats .u32 tab) .no])]) (fun _ => True) ?_ ?_
  · simp [keep_cl, trunc, wordOf]
  intro i hi _
  by_cases hlt : i < 32
  · simp (disch := omega) [ltT, -Int.natCast_add]
    refine W_up vs.length (fun j => [(1, .vs (nats .u32 r) .no), (2, .ptr 0 0), (5, .int .u64 (wordOf (fun i => (sem vs tab fun v => (asg r v).testBit i).testBit i) i : Nat)), (6, .int .i64 i), (7, .int .i64 (idx (vs.take j) (fun v => (asg r v).testBit i) : Nat)), (8, .int .i64 j)])
      (fun _ => [some (.cells [.vs (ints .i64 vs) .no, .vs (nats .u32 tab) .no])]) (fun _ => True) ?_ ?_
    · simp [keep_cl, trunc, idx]
    intro j hj _
    by_cases hjl : j < vs.length
    · have hm := R.mem (List.getElem_mem hjl)
      have hx : vs[j].toNat < r.length := by omega
      have hrx := hrw _ (List.getElem_mem hx)
      have hk : idx (vs.take j) (fun v => (asg r v).testBit i) < 2 ^ j := by have := idx_lt (vs.take j) (fun v => (asg r v).testBit i); rwa [List.length_take, Nat.min_eq_left (by omega)] at this
      have h30 : 2 ^ j ≤ 2 ^ 30 := Nat.pow_le_pow_right (by decide) (by omega)
      have h2 : (r[vs[j].toNat].testBit i).toNat ≤ 1 := by cases r[vs[j].toNat].testBit i <;> simp
      have h3 : 2 ^ j * (r[vs[j].toNat].testBit i).toNat ≤ 2 ^ j * 1 := Nat.mul_le_mul_left _ h2
      have h5 : idx (vs.take (j + 1)) (fun v => (asg r v).testBit i) = idx (vs.take j) (fun v => (asg r v).testBit i) + 2 ^ j * (r[vs[j].toNat].testBit i).toNat := by
        rw [List.take_add_one, idx_append, List.getElem?_eq_getElem hjl, List.length_take, Nat.min_eq_left (by omega)]
        have : asg r vs[j] = r[vs[j].toNat] := by simp [asg, List.getD_eq_getElem?_getD, hx]
        simp only [Option.toList_some, idx, this, Nat.mul_zero, Nat.add_zero]
      simp (disch := omega) [ltT, -Int.natCast_add]
      refine callP_of (size_ok hG j (by omega)) ?_
      simp (disch := omega) [ltT, leT, get_in, -Int.natCast_add, -Int.natCast_pow]
      refine callP_of (bit_ok hG _ i hrx (by omega)) ?_
      simp (disch := omega) [mulN, addN, add1', keep_cl, trunc, hjl, h5, -Int.natCast_add, -Int.natCast_mul, -Int.natCast_pow]
    · have hne : j = vs.length := by omega
      subst hne
      have hk := idx_lt vs (fun v => (asg r v).testBit i)
      rw [← R.2.1] at hk
      have hw := ht _ (List.getElem_mem hk)
      have hp : 2 ^ i ≤ 2 ^ 31 := Nat.pow_le_pow_right (by decide) (by omega)
      have hu : wordOf (fun i => (sem vs tab fun v => (asg r v).testBit i).testBit i) i < 2 ^ i := wordOf_lt _ i
      have hs : sem vs tab (fun v => (asg r v).testBit i) = tab[idx vs (fun v => (asg r v).testBit i)] := by simp [sem, List.getD_eq_getElem?_getD, hk]
      have h2 : (tab[idx vs (fun v => (asg r v).testBit i)].testBit i).toNat ≤ 1 := by cases tab[idx vs (fun v => (asg r v).testBit i)].testBit i <;> simp
      have h3 : 2 ^ i * (tab[idx vs (fun v => (asg r v).testBit i)].testBit i).toNat ≤ 2 ^ i * 1 := Nat.mul_le_mul_left _ h2
      have hstep : wordOf (fun i => (sem vs tab fun v => (asg r v).testBit i).testBit i) (i + 1) = wordOf (fun i => (sem vs tab fun v => (asg r v).testBit i).testBit i) i + 2 ^ i * (tab[idx vs (fun v => (asg r v).testBit i)].testBit i).toNat := by simp only [wordOf, hs]
      simp (disch := omega) [ltF, -Int.natCast_add]
      refine callP_of (size_ok hG i (by omega)) ?_
      simp (disch := omega) [leT, get_in, -Int.natCast_add, -Int.natCast_pow]
      refine callP_of (bit_ok hG _ i hw (by omega)) ?_
      simp (disch := omega) [mulN, convU64, addU64, add1', keep_cl, trunc, hlt, hstep, -Int.natCast_add, -Int.natCast_mul, -Int.natCast_pow]
  · have hne : i = 32 := by omega
    subst hne
    have hu : val vs tab (asg r) < 2 ^ 32 := wordOf_lt _ 32
    have hc := convU32 hu
    simp only [val] at hc
    simp [val, hc]

theorem era_yes {vs : List Int} {i j : Nat} (h : i < vs.length) (hij : i ≠ j) : (vs.take (i + 1)).eraseIdx j = (vs.take i).eraseIdx j ++ [vs[i]] := by
  rw [List.take_add_one, List.getElem?_eq_getElem h]
  have hl : (vs.take i).length = i := by rw [List.length_take]; omega
  rcases Nat.lt_or_ge j i with h2 | h2
  · rw [List.eraseIdx_append_of_lt_length (by omega)]; rfl
  · rw [List.eraseIdx_append_of_length_le (by omega), List.eraseIdx_of_length_le (l := vs.take i) (by omega), hl]
    obtain ⟨k, hk⟩ : ∃ k, j - i = k + 1 := ⟨j - i - 1, by omega⟩
    rw [hk]; rfl
theorem era_no {vs : List Int} {i : Nat} (h : i < vs.length) : (vs.take (i + 1)).eraseIdx i = (vs.take i).eraseIdx i := by
  have hl : (vs.take i).length = i := by rw [List.length_take]; omega
  rw [List.take_add_one, List.getElem?_eq_getElem h, List.eraseIdx_append_of_length_le (by omega), List.eraseIdx_of_length_le (l := vs.take i) (by omega), hl, Nat.sub_self]
  simp
theorem without_ok (hG : HasRef15 G) (vs : List Int) (tab : List Nat) (j : Nat) (hv : vs.length ≤ 1000) (ht : tab.length ≤ 100000) (hj : j ≤ 60) :
    FP G 120 [FV vs tab, .int .i64 j] (FV (vs.eraseIdx j) (remT tab j)) := by
  refine FP_of hG.h_hurdleref15_without (Nat.le_of_ble_eq_true rfl) ?_
  simp [FV]
  refine W_up vs.length (fun i => [(1, .int .i64 j), (2, .ptr 0 0), (4, .ptr 1 0), (5, .ptr 2 0), (6, .int .i64 i)])
    (fun i => [some (.cells [.vs (ints .i64 vs) .no, .vs (nats .u32 tab) .no]), some (.cells [.vs [] .full, .vs [] .full]), some (.cells [.vs (ints .i64 ((vs.take i).eraseIdx j)) (.own 3), .vs [] .full]), some (.zone ((vs.take i).eraseIdx j).length)]) (fun _ => True) ?_ ?_
  · simp [keep_cl, trunc]
  intro i hi _
  by_cases hlt : i < vs.length
  · have hle : ((vs.take i).eraseIdx j).length ≤ i := Nat.le_trans (List.length_eraseIdx_le _ _) (by rw [List.length_take]; omega)
    by_cases hij : i = j
    · have hstep : (vs.take (i + 1)).eraseIdx j = (vs.take i).eraseIdx j := by subst hij; exact era_no hlt
      simp (disch := omega) [ltT, bneF, add1', keep_cl, trunc, hlt, hstep, -Int.natCast_add]
    · have hstep := era_yes hlt hij
      simp (disch := omega) [ltT, bneT, get_in, leTn, add1', keep_cl, trunc, hlt, hstep, -Int.natCast_add]
  have hne : i = vs.length := by omega
  subst hne
  simp (disch := omega) [ltF, -Int.natCast_add]
  refine W_up tab.length (fun n => [(1, .int .i64 j), (2, .ptr 0 0), (4, .ptr 1 0), (5, .ptr 2 0), (7, .int .i64 n)])
    (fun n => [some (.cells [.vs (ints .i64 vs) .no, .vs (nats .u32 tab) .no]), some (.cells [.vs [] .full, .vs [] .full]), some (.cells [.vs (ints .i64 (vs.eraseIdx j)) (.own 3), .vs (nats .u32 (preT tab j n)) (.own 4)]), some (.zone (vs.eraseIdx j).length), some (.zone (preT tab j n).length)]) (fun _ => True) ?_ ?_
  · simp [keep_cl, trunc, preT]
  intro n hn _
  by_cases hlt : n < tab.length
  · have hpl := preT_len tab j n
    have h0 : 0 < 2 ^ j := Nat.two_pow_pos j
    simp (disch := omega) [ltT, -Int.natCast_add]
    refine callP_of (size_ok hG j (by omega)) ?_
    have hbit := toNat_bit n j
    cases hb : n.testBit j
    · rw [hb] at hbit
      have hg : tab.getD n 0 = tab[n] := by simp [List.getD_eq_getElem?_getD, hlt]
      simp (disch := omega) [eqF, quo64, rem2, hbit, leTn, get_in, add1', keep_cl, trunc, hlt, preT_yes hb, hg, -Int.natCast_add, -Int.natCast_pow, -Int.natCast_ediv, -Int.natCast_emod]
    · rw [hb] at hbit
      simp (disch := omega) [eqF, quo64, rem2, hbit, add1', keep_cl, trunc, hlt, preT_no hb, -Int.natCast_add, -Int.natCast_pow, -Int.natCast_ediv, -Int.natCast_emod]
  · have hne : n = tab.length := by omega
    subst hne
    have : preT tab j tab.length = remT tab j := rfl
    simp (disch := omega) [ltF, this]
end Go.Ev
