/- What the functions of bits compute: plain, Do, Eval, Apart. -/
import Derived.Test.YtnlhnffijidioaaDoorBitsB
namespace Go.Ev
open Go Go.RowKit
variable {G : Tbl}
set_option maxRecDepth 10000
set_option maxHeartbeats 2000000
set_option linter.unusedSimpArgs false
set_option linter.unusedVariables false

def preT (tab : List Nat) (j n : Nat) : List Nat := ((List.range n).filter fun n => !n.testBit j).map fun n => tab.getD n 0
theorem preT_len (tab : List Nat) (j n : Nat) : (preT tab j n).length ≤ n := by
  have := List.length_filter_le (fun n => !n.testBit j) (List.range n)
  simp [preT] at this ⊢; exact this
theorem preT_yes {tab : List Nat} {j n : Nat} (h : n.testBit j = false) : preT tab j (n + 1) = preT tab j n ++ [tab.getD n 0] := by simp [preT, List.range_succ, List.filter_append, h]
theorem preT_no {tab : List Nat} {j n : Nat} (h : n.testBit j = true) : preT tab j (n + 1) = preT tab j n := by simp [preT, List.range_succ, List.filter_append, h]

theorem plain_ok (hG : HasBits G) (vs : List Int) (tab : List Nat) (hl : tab.length = 2 ^ vs.length) (h4 : vs.length ≤ 4) (hn : vs.Nodup) :
    ∃ vs' tab', FP G 106 [FV vs tab] (FV vs' tab') ∧ vs'.Sublist vs ∧ tab'.length = 2 ^ vs'.length ∧ (∀ p, sem vs' tab' p = sem vs tab p) ∧ ∀ v ∈ vs', dep (sem vs' tab') v := by
  suffices h : ∃ r, FP G 106 [FV vs tab] r ∧ ∃ vs' tab', r = FV vs' tab' ∧ vs'.Sublist vs ∧ tab'.length = 2 ^ vs'.length ∧ (∀ p, sem vs' tab' p = sem vs tab p) ∧ ∀ v ∈ vs', dep (sem vs' tab') v by
    obtain ⟨r, hr, vs', tab', rfl, rest⟩ := h
    exact ⟨vs', tab', hr, rest⟩
  refine FPx_of hG.h_bits_plain (Nat.le_of_ble_eq_true rfl) ?_
  simp [FV]
  refine W_state (fun s : List Int × Tk × List Nat × Nat => s.1.length * 100 + (50 - s.2.2.2))
    (fun s => [(1, .ptr 0 0), (2, .ptr 1 0), (3, .int .i64 s.2.2.2)])
    (fun s => [some (.cells [.vs (ints .i64 s.1) s.2.1, .vs (nats .u32 s.2.2.1) .no]), some (.cells [.vs [] .full, .vs [] .full])])
    (fun s => s.1.Sublist vs ∧ (s.2.1 = .no ∨ s.2.1 = .full) ∧ s.2.2.1.length = 2 ^ s.1.length ∧ (∀ p, sem s.1 s.2.2.1 p = sem vs tab p) ∧ s.2.2.2 ≤ s.1.length ∧ ∀ m, m < s.2.2.2 → cnt s.2.2.1 m = true)
    (vs, .no, tab, 0) ?_ ?_
  · simp [keep_cl, trunc, hl]
  rintro ⟨us, tk, tb, j⟩ ⟨hsub, htk, htl, hsem, hj, hcnt⟩
  simp only at hsub htk htl hsem hj hcnt
  have hul := hsub.length_le
  have hnd : us.Nodup := hn.sublist hsub
  have h2 : tb.length ≤ 16 := by rw [htl, show 16 = 2 ^ 4 from rfl]; exact Nat.pow_le_pow_right (by decide) (by omega)
  by_cases hlt : j < us.length
  · simp (disch := omega) [ltT]
    have hfl : V.nf (V.cl 0 (.agg [.vs (ints .i64 us) tk, .vs (nats .u32 tb) .no])) = FV us tb := by rcases htk with rfl | rfl <;> simp [FV]
    refine callP_of (counts_ok hG us tb j (by omega) (by omega) (tab_in (by omega) htl hlt)) ?_
    cases hc : cnt tb j
    case true =>
      simp (disch := omega) [add1', -Int.natCast_add]
      refine ⟨(us, tk, tb, j + 1), ?_⟩
      have hall : ∀ m, m < j + 1 → cnt tb m = true := fun m hm => by
        by_cases e : m = j
        · subst e; exact hc
        · exact hcnt m (by omega)
      rcases htk with rfl | rfl <;> (simp [keep_cl, trunc, hsub, htl, hsem, -Int.natCast_add]; exact ⟨by omega, by omega, hall⟩)
    case false =>
      have htc : ∀ n, Tk.cl n tk = tk := fun n => by rcases htk with rfl | rfl <;> rfl
      have hune : us ≠ [] := fun e => by simp [e] at hlt
      have hfull : (us.drop (j + 1)).take (us.length - (j + 1)) = us.drop (j + 1) := by rw [List.take_of_length_le]; simp
      have her : us.eraseIdx j = us.take j ++ us.drop (j + 1) := List.eraseIdx_eq_take_drop_succ us j
      obtain ⟨k, hk⟩ : ∃ k, us.length = k + 1 := ⟨us.length - 1, by omega⟩
      have hle : (us.take j ++ us.drop (j + 1)).length = k := by rw [← her, List.length_eraseIdx_of_lt hlt]; omega
      have remL : (remT tb j).length = 2 ^ k := remT_len (by rw [htl, hk]) (by omega)
      have hsem' : ∀ p, sem (us.take j ++ us.drop (j + 1)) (remT tb j) p = sem vs tab p := fun p => by rw [← her, sem_rem hnd htl hlt hc, hsem]
      have hsubE : (us.take j ++ us.drop (j + 1)).Sublist vs := by rw [← her]; exact (List.eraseIdx_sublist us j).trans hsub
      have hk' : min j us.length + (us.length - (j + 1)) = k := by omega
      have preT_all : preT tb j tb.length = remT tb j := rfl
      by_cases hz : j = 0
      · have htake : us.take j = [] := by rw [hz]; rfl
        by_cases hla : us.length = j + 1
        · have hdrop : us.drop (j + 1) = [] := List.drop_eq_nil_of_le (by omega)
          simp (disch := omega) [bounds, leT, addN1, leTn, ints_take, ints_drop, ints_eq_nil, ints_append, eqTn, eqFn, hfull, htake, hdrop, -Int.natCast_add]
          refine W_up tb.length (fun n => [(1, .ptr 0 0), (2, .ptr 1 0), (3, .int .i64 j), (4, .ptr 2 0), (32, .int .i64 tb.length), (33, .int .i64 n)])
            (fun n => [some (.cells [.vs (ints .i64 us) tk, .vs (nats .u32 tb) .no]), some (.cells [.vs [] .full, .vs [] .full]), some (.cells [.vs (ints .i64 (us.take j ++ us.drop (j + 1))) .full, .vs (nats .u32 (preT tb j n)) (.own 5)]), none, none, some (.zone (preT tb j n).length)])
            (fun _ => True) ?_ ?_
          · simp [keep_cl, trunc, preT, htc, htake, hdrop]
          intro n hn _
          by_cases hnl : n < tb.length
          · have hpl := preT_len tb j n
            have hb : n / 2 ^ j < 9223372036854775808 := Nat.lt_of_le_of_lt (Nat.div_le_self _ _) (by omega)
            cases hbit : n.testBit j
            · have hb0 : n / 2 ^ j % 2 = 0 := by rw [toNat_bit, hbit]; rfl
              have hg : tb.getD n 0 = tb[n] := by simp [List.getD_eq_getElem?_getD, hnl]
              simp (disch := omega) [ltT, ltF, shr64, and1 hb, hb0, leTn, get_in, add1', keep_cl, trunc, hnl, preT_yes hbit, hg, htc, -Int.natCast_add, -Int.natCast_ediv, -Int.natCast_emod]
            · have hb1 : n / 2 ^ j % 2 = 1 := by rw [toNat_bit, hbit]; rfl
              simp (disch := omega) [ltT, ltF, shr64, and1 hb, hb1, get_in, add1', keep_cl, trunc, hnl, preT_no hbit, htc, -Int.natCast_add, -Int.natCast_ediv, -Int.natCast_emod]
          · have hne : n = tb.length := by omega
            subst hne
            simp (disch := omega) [ltF, addI64]
            refine ⟨(us.eraseIdx j, .full, remT tb j, 0), ?_⟩
            simp [keep_cl, trunc, her, preT_all, remL, hsem', hsubE, htc, hk']
            omega
        · have hdrop : us.drop (j + 1) ≠ [] := fun e => by have := List.drop_eq_nil_iff.1 e; omega
          simp (disch := omega) [bounds, leT, addN1, leTn, ints_take, ints_drop, ints_eq_nil, ints_append, eqTn, eqFn, hfull, htake, hdrop, -Int.natCast_add]
          refine W_up tb.length (fun n => [(1, .ptr 0 0), (2, .ptr 1 0), (3, .int .i64 j), (4, .ptr 2 0), (32, .int .i64 tb.length), (33, .int .i64 n)])
            (fun n => [some (.cells [.vs (ints .i64 us) tk, .vs (nats .u32 tb) .no]), some (.cells [.vs [] .full, .vs [] .full]), some (.cells [.vs (ints .i64 (us.take j ++ us.drop (j + 1))) (.own 4), .vs (nats .u32 (preT tb j n)) (.own 5)]), none, some (.zone (us.length - (j + 1))), some (.zone (preT tb j n).length)])
            (fun _ => True) ?_ ?_
          · simp [keep_cl, trunc, preT, htc, htake, hdrop]
          intro n hn _
          by_cases hnl : n < tb.length
          · have hpl := preT_len tb j n
            have hb : n / 2 ^ j < 9223372036854775808 := Nat.lt_of_le_of_lt (Nat.div_le_self _ _) (by omega)
            cases hbit : n.testBit j
            · have hb0 : n / 2 ^ j % 2 = 0 := by rw [toNat_bit, hbit]; rfl
              have hg : tb.getD n 0 = tb[n] := by simp [List.getD_eq_getElem?_getD, hnl]
              simp (disch := omega) [ltT, ltF, shr64, and1 hb, hb0, leTn, get_in, add1', keep_cl, trunc, hnl, preT_yes hbit, hg, htc, -Int.natCast_add, -Int.natCast_ediv, -Int.natCast_emod]
            · have hb1 : n / 2 ^ j % 2 = 1 := by rw [toNat_bit, hbit]; rfl
              simp (disch := omega) [ltT, ltF, shr64, and1 hb, hb1, get_in, add1', keep_cl, trunc, hnl, preT_no hbit, htc, -Int.natCast_add, -Int.natCast_ediv, -Int.natCast_emod]
          · have hne : n = tb.length := by omega
            subst hne
            simp (disch := omega) [ltF, addI64]
            refine ⟨(us.eraseIdx j, .no, remT tb j, 0), ?_⟩
            simp [keep_cl, trunc, her, preT_all, remL, hsem', hsubE, htc, hk']
            omega
      · have htake : us.take j ≠ [] := fun e => by rcases List.take_eq_nil_iff.1 e with h | h; exact hz h; exact hune h
        by_cases hla : us.length = j + 1
        · have hdrop : us.drop (j + 1) = [] := List.drop_eq_nil_of_le (by omega)
          simp (disch := omega) [bounds, leT, addN1, leTn, ints_take, ints_drop, ints_eq_nil, ints_append, eqTn, eqFn, hfull, htake, hdrop, -Int.natCast_add]
          refine W_up tb.length (fun n => [(1, .ptr 0 0), (2, .ptr 1 0), (3, .int .i64 j), (4, .ptr 2 0), (32, .int .i64 tb.length), (33, .int .i64 n)])
            (fun n => [some (.cells [.vs (ints .i64 us) tk, .vs (nats .u32 tb) .no]), some (.cells [.vs [] .full, .vs [] .full]), some (.cells [.vs (ints .i64 (us.take j ++ us.drop (j + 1))) (.own 3), .vs (nats .u32 (preT tb j n)) (.own 5)]), some (.zone j), none, some (.zone (preT tb j n).length)])
            (fun _ => True) ?_ ?_
          · simp [keep_cl, trunc, preT, htc, htake, hdrop]
          intro n hn _
          by_cases hnl : n < tb.length
          · have hpl := preT_len tb j n
            have hb : n / 2 ^ j < 9223372036854775808 := Nat.lt_of_le_of_lt (Nat.div_le_self _ _) (by omega)
            cases hbit : n.testBit j
            · have hb0 : n / 2 ^ j % 2 = 0 := by rw [toNat_bit, hbit]; rfl
              have hg : tb.getD n 0 = tb[n] := by simp [List.getD_eq_getElem?_getD, hnl]
              simp (disch := omega) [ltT, ltF, shr64, and1 hb, hb0, leTn, get_in, add1', keep_cl, trunc, hnl, preT_yes hbit, hg, htc, -Int.natCast_add, -Int.natCast_ediv, -Int.natCast_emod]
            · have hb1 : n / 2 ^ j % 2 = 1 := by rw [toNat_bit, hbit]; rfl
              simp (disch := omega) [ltT, ltF, shr64, and1 hb, hb1, get_in, add1', keep_cl, trunc, hnl, preT_no hbit, htc, -Int.natCast_add, -Int.natCast_ediv, -Int.natCast_emod]
          · have hne : n = tb.length := by omega
            subst hne
            simp (disch := omega) [ltF, addI64]
            refine ⟨(us.eraseIdx j, .no, remT tb j, 0), ?_⟩
            simp [keep_cl, trunc, her, preT_all, remL, hsem', hsubE, htc, hk']
            omega
        · have hdrop : us.drop (j + 1) ≠ [] := fun e => by have := List.drop_eq_nil_iff.1 e; omega
          simp (disch := omega) [bounds, leT, addN1, leTn, ints_take, ints_drop, ints_eq_nil, ints_append, eqTn, eqFn, hfull, htake, hdrop, -Int.natCast_add]
          refine W_up tb.length (fun n => [(1, .ptr 0 0), (2, .ptr 1 0), (3, .int .i64 j), (4, .ptr 2 0), (32, .int .i64 tb.length), (33, .int .i64 n)])
            (fun n => [some (.cells [.vs (ints .i64 us) tk, .vs (nats .u32 tb) .no]), some (.cells [.vs [] .full, .vs [] .full]), some (.cells [.vs (ints .i64 (us.take j ++ us.drop (j + 1))) (.own 3), .vs (nats .u32 (preT tb j n)) (.own 5)]), some (.zone (j + (us.length - (j + 1)))), none, some (.zone (preT tb j n).length)])
            (fun _ => True) ?_ ?_
          · simp [keep_cl, trunc, preT, htc, htake, hdrop]
          intro n hn _
          by_cases hnl : n < tb.length
          · have hpl := preT_len tb j n
            have hb : n / 2 ^ j < 9223372036854775808 := Nat.lt_of_le_of_lt (Nat.div_le_self _ _) (by omega)
            cases hbit : n.testBit j
            · have hb0 : n / 2 ^ j % 2 = 0 := by rw [toNat_bit, hbit]; rfl
              have hg : tb.getD n 0 = tb[n] := by simp [List.getD_eq_getElem?_getD, hnl]
              simp (disch := omega) [ltT, ltF, shr64, and1 hb, hb0, leTn, get_in, add1', keep_cl, trunc, hnl, preT_yes hbit, hg, htc, -Int.natCast_add, -Int.natCast_ediv, -Int.natCast_emod]
            · have hb1 : n / 2 ^ j % 2 = 1 := by rw [toNat_bit, hbit]; rfl
              simp (disch := omega) [ltT, ltF, shr64, and1 hb, hb1, get_in, add1', keep_cl, trunc, hnl, preT_no hbit, htc, -Int.natCast_add, -Int.natCast_ediv, -Int.natCast_emod]
          · have hne : n = tb.length := by omega
            subst hne
            simp (disch := omega) [ltF, addI64]
            refine ⟨(us.eraseIdx j, .no, remT tb j, 0), ?_⟩
            simp [keep_cl, trunc, her, preT_all, remL, hsem', hsubE, htc, hk']
            omega
  · have hju : j = us.length := by omega
    subst hju
    simp (disch := omega) [ltF]
    refine ⟨us, tb, ?_⟩
    have hd : ∀ v ∈ us, dep (sem us tb) v := fun v hv => by
      obtain ⟨i, hi, rfl⟩ := List.mem_iff_getElem.1 hv
      exact (cnt_iff hnd htl (List.getElem?_eq_getElem hi)).1 (hcnt i hi)
    rcases htk with rfl | rfl <;> simp [FV, hsub, htl, hsem] <;> exact hd
end Go.Ev
