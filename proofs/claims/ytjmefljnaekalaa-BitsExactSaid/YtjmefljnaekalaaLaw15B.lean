/- The laws of bits, over the simplified code: the others. -/
import Derived.Test.YtjmefljnaekalaaLaw15
namespace Go.Ev
open Go Go.RowKit
variable {G : Tbl}
set_option maxRecDepth 10000
set_option maxHeartbeats 4000000
set_option linter.unusedSimpArgs false
set_option linter.unusedVariables false

theorem doW_comm {kind : Int} (h : kind = 68 ∨ kind = 84 ∨ kind = 164) (a b : Nat) : doW kind a b = doW kind b a := by
  rcases h with rfl | rfl | rfl <;> simp [doW]
  · exact Nat.or_comm _ _
  · exact Nat.and_comm _ _
  · exact Nat.xor_comm _ _
theorem mer_comm {a b : List Int} (ha : Up a) (hb : Up b) : mer a b = mer b a := up_ext (mer_up a b ha hb) (mer_up b a hb ha) fun v => by rw [mem_mer, mem_mer]; exact Or.comm
theorem mer_self {a : List Int} (ha : Up a) : mer a a = a := up_ext (mer_up a a ha ha) ha fun v => by rw [mem_mer]; exact or_self_iff
theorem DoOk.comm {kind : Int} {fv gv : List Int} {ft gt : List Nat} (h : DoOk kind fv gv ft gt) : DoOk kind gv fv gt ft := by
  obtain ⟨h1, h2, h3, h4⟩ := h
  exact ⟨h1, h3, h2, by rw [mer_comm h3.up h2.up]; exact h4⟩

theorem BitsSelf_ok (hG : HasBits G) (hR : HasRef15 G) (hL : HasLaw15 G) (kind : Int) (fv gv : List Int) (ft gt : List Nat) (hft : ∀ w ∈ ft, w < 4294967296) (hgt : ∀ w ∈ gt, w < 4294967296) :
    FP G 133 [.int .i64 kind, FV fv ft, FV gv gt] (.bool true) := by
  refine FP_of hL.h_hurdlelaw15_BitsSelf (Nat.le_of_ble_eq_true rfl) ?_
  simp [FV]
  refine callP_of (great_ok hL fv ft) ?_
  by_cases hf : fv.length > 50 ∨ ft.length > 100
  · simp [hf]
    refine callP_of (knows_ok hG hL) ?_
    simp
  simp [hf]
  refine callP_of (great_ok hL gv gt) ?_
  by_cases hg : gv.length > 50 ∨ gt.length > 100
  · simp [hg]
    refine callP_of (knows_ok hG hL) ?_
    simp
  simp [hg]
  obtain ⟨vs, tab, ok, h1, _, hp⟩ := do_both hG hR kind fv gv ft gt (by omega) (by omega) (by omega) (by omega) hft hgt
  have h2 : FP G 109 [.int .i64 kind, FV gv gt, FV fv ft] (.tup [FV vs tab, .bool ok]) := by
    obtain ⟨vs', tab', ok', h1', _, hp'⟩ := do_both hG hR kind gv fv gt ft (by omega) (by omega) (by omega) (by omega) hgt hft
    rcases hp with ⟨rfl, rfl, rfl, hn⟩ | ⟨rfl, hy, hR1, _, hs⟩
    · rcases hp' with ⟨rfl, rfl, rfl, _⟩ | ⟨_, hy, _⟩
      · exact h1'
      · exact absurd hy.comm hn
    · exact Do_is hG hy.comm hgt hft hR1 fun p => by rw [hs, doW_comm hy.1]
  have hl : vs.length ≤ 4 ∧ tab.length ≤ 16 := by
    rcases hp with ⟨_, rfl, rfl, _⟩ | ⟨_, _, hR1, _⟩
    · simp
    · exact ⟨hR1.1, tab_small hR1.1 hR1.2.1⟩
  refine callP_of h1 ?_
  simp [FV]
  refine callP_of h2 ?_
  simp [FV]
  refine callP_of (Same_ok hG vs vs tab tab (by omega) (by omega)) ?_
  simp
  refine callP_of (As_ok hL fv ft) ?_
  simp [FV]
  refine callP_of (RightR_ok hR fv ft (by omega) (by omega)) ?_
  cases hrf : rightB fv ft
  · simp
    refine callP_of (knows_ok hG hL) ?_
    simp
  have Rf := rightB_iff.1 hrf
  have Rz : Right [] [0] := right_of_C (by decide)
  have hm : (mer fv fv).length ≤ 4 := by rw [mer_self Rf.up]; exact Rf.1
  have d1 := Do_is hG (kind := 68) ⟨by decide, Rf, Rf, hm⟩ hft hft Rf fun p => by simp [doW]
  have d2 := Do_is hG (kind := 84) ⟨by decide, Rf, Rf, hm⟩ hft hft Rf fun p => by simp [doW]
  have d3 := Do_is hG (kind := 164) ⟨by decide, Rf, Rf, hm⟩ hft hft Rz fun p => by simp [doW, sem, idx]
  simp
  refine callP_of d1 ?_
  simp [FV]
  refine callP_of d2 ?_
  simp [FV]
  refine callP_of d3 ?_
  simp [FV]
  refine callP_of (Same_ok hG fv fv ft ft (by omega) (by omega)) ?_
  simp
  refine callP_of (Same_ok hG fv fv ft ft (by omega) (by omega)) ?_
  simp
  refine callP_of (Const_ok hG 0) ?_
  simp [FV]
  refine callP_of (Same_ok hG [] [] [0] [0] (by simp) (by simp)) ?_
  simp
  refine callP_of (knows_ok hG hL) ?_
  simp

theorem val_lt (vs : List Int) (tab : List Nat) (r : Int → Nat) : val vs tab r < 4294967296 := wordOf_lt _ 32
theorem val_do {kind : Int} {fv gv vs : List Int} {ft gt tab : List Nat} (h : kind = 68 ∨ kind = 84 ∨ kind = 164) (hs : ∀ p, sem vs tab p = (doW kind (sem fv ft p) (sem gv gt p)).1) (r : Int → Nat) :
    val vs tab r = (doW kind (val fv ft r) (val gv gt r)).1 := by
  refine Nat.eq_of_testBit_eq fun i => ?_
  have hv : ∀ (v : List Int) (t : List Nat), (val v t r).testBit i = (decide (i < 32) && (sem v t fun u => (r u).testBit i).testBit i) := fun v t => by rw [val, wordOf_bit]
  rcases h with rfl | rfl | rfl <;> simp only [doW] at hs ⊢ <;> simp at hs ⊢ <;> (rw [hv, hs]; simp [hv]; try (cases decide (i < 32) <;> simp))

theorem BitsValues_ok (hG : HasBits G) (hR : HasRef15 G) (hL : HasLaw15 G) (kind : Int) (fv gv : List Int) (ft gt r : List Nat) (hft : ∀ w ∈ ft, w < 4294967296) (hgt : ∀ w ∈ gt, w < 4294967296) (hr : r.length = 34) (hrw : ∀ w ∈ r, w < 4294967296) :
    FP G 135 [.int .i64 kind, FV fv ft, FV gv gt, .agg (cnats .u32 r)] (.bool true) := by
  refine FP_of hL.h_hurdlelaw15_BitsValues (Nat.le_of_ble_eq_true rfl) ?_
  simp [FV]
  refine callP_of (great_ok hL fv ft) ?_
  by_cases hf : fv.length > 50 ∨ ft.length > 100
  · simp [hf]
    refine callP_of (knows_ok hG hL) ?_
    simp
  simp [hf]
  refine callP_of (great_ok hL gv gt) ?_
  by_cases hg : gv.length > 50 ∨ gt.length > 100
  · simp [hg]
    refine callP_of (knows_ok hG hL) ?_
    simp
  simp [hg]
  obtain ⟨vs, tab, ok, h1, _, hp⟩ := do_both hG hR kind fv gv ft gt (by omega) (by omega) (by omega) (by omega) hft hgt
  refine callP_of h1 ?_
  rcases hp with ⟨rfl, rfl, rfl, hn⟩ | ⟨rfl, hy, hR1, hw, hs⟩
  · simp [FV]
    refine callP_of (knows_ok hG hL) ?_
    simp
  have htk : (cnats .u32 r).take 34 = cnats .u32 r := take_full hr
  have hrf := rightB_iff.2 hy.2.1
  have hrg := rightB_iff.2 hy.2.2.1
  have hrx := rightB_iff.2 hR1
  have hl1 := hR1.1
  have hl2 := tab_small hR1.1 hR1.2.1
  simp [FV, hr, htk]
  refine callP_of (Eval_ok hG fv ft r (by omega) (by omega) hft hr hrw) ?_
  simp [hr, htk, hrf]
  refine callP_of (Eval_ok hG gv gt r (by omega) (by omega) hgt hr hrw) ?_
  simp [hr, htk, hrg]
  refine callP_of (Eval_ok hG vs tab r (by omega) (by omega) hw hr hrw) ?_
  simp [hrx]
  refine callP_of (doW_ok hG kind _ _ (val_lt _ _ _) (val_lt _ _ _)) ?_
  have h2 : (doW kind (val fv ft (asg r)) (val gv gt (asg r))).2 = true := by rcases hy.1 with rfl | rfl | rfl <;> simp [doW]
  have h3 := val_do hy.1 hs (asg r)
  simp [h2, h3]
  refine callP_of (Right_ok hG vs tab (by omega) (by omega)) ?_
  simp [hrx]
  refine callP_of (knows_ok hG hL) ?_
  simp

theorem BitsApart_ok (hG : HasBits G) (hR : HasRef15 G) (hL : HasLaw15 G) (fv gv : List Int) (ft gt : List Nat) (hft : ∀ w ∈ ft, w < 4294967296) (hgt : ∀ w ∈ gt, w < 4294967296) :
    FP G 136 [FV fv ft, FV gv gt] (.bool true) := by
  refine FP_of hL.h_hurdlelaw15_BitsApart (Nat.le_of_ble_eq_true rfl) ?_
  simp [FV]
  refine callP_of (great_ok hL fv ft) ?_
  by_cases hf : fv.length > 50 ∨ ft.length > 100
  · simp [hf]
    refine callP_of (knows_ok hG hL) ?_
    simp
  simp [hf]
  refine callP_of (great_ok hL gv gt) ?_
  by_cases hg : gv.length > 50 ∨ gt.length > 100
  · simp [hg]
    refine callP_of (knows_ok hG hL) ?_
    simp
  simp [hg]
  have hlen : (apartF fv gv ft gt).1.length = 34 := by
    simp only [apartF]
    split
    · split <;> simp [asgn]
    · simp
  refine callP_of (Apart_ok hG fv gv ft gt (by omega) (by omega) (by omega) (by omega) hft hgt) ?_
  simp [hlen, drop_full hlen]
  refine callP_of (As_ok hL fv ft) ?_
  simp [FV]
  refine callP_of (As_ok hL gv gt) ?_
  simp
  refine callP_of (ApartR_ok hR fv gv ft gt (by omega) (by omega) (by omega) (by omega) hft hgt) ?_
  generalize apartF fv gv ft gt = A at *
  obtain ⟨r, b⟩ := A
  simp only at hlen
  simp
  refine W_up 34 (fun i => [(5, .ptr 2 0), (6, .bool b), (7, .vs (nats .u32 r) .no), (8, .bool b), (9, .int .i64 i)])
    (fun _ => [some (.cells [.vs (ints .i64 fv) .no, .vs (nats .u32 ft) .no]), some (.cells [.vs (ints .i64 gv) .no, .vs (nats .u32 gt) .no]), some (.cells (cnats .u32 r))]) (fun _ => True) ?_ ?_
  · simp [keep_cl, trunc]
  intro i hi _
  by_cases hlt : i < 34
  · have hc := cnats_get .u32 r i (by omega)
    simp (disch := omega) [ltT, leTn, hlen, hc, get_in, add1', keep_cl, trunc, hlt, -Int.natCast_add, -List.getElem?_drop]
  · have hne : i = 34 := by omega
    subst hne
    simp
    refine callP_of (knows_ok hG hL) ?_
    simp
end Go.Ev
