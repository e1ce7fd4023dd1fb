/- The laws of bits, over the simplified code: what tells forms apart, and which are right. -/
import Derived.Test.YtjmefljnaekalaaLaw15B
namespace Go.Ev
open Go Go.RowKit
variable {G : Tbl}
set_option maxRecDepth 10000
set_option maxHeartbeats 4000000
set_option linter.unusedSimpArgs false
set_option linter.unusedVariables false

theorem apart_is {fv gv : List Int} {ft gt : List Nat} (Rf : Right fv ft) (Rg : Right gv gt) :
    (∃ n, apartF fv gv ft gt = (asgn (mer fv gv) (say (mer fv gv) n), true) ∧ sem fv ft (say (mer fv gv) n) ≠ sem gv gt (say (mer fv gv) n)) ∨ (fv = gv ∧ ft = gt ∧ (apartF fv gv ft gt).2 = false) := by
  have hrf := rightB_iff.2 Rf
  have hrg := rightB_iff.2 Rg
  cases h : firstD fv gv ft gt with
  | some n =>
    left
    refine ⟨n, by simp [apartF, hrf, hrg, h], ?_⟩
    have := List.find?_some h
    simpa using this
  | none =>
    right
    rw [firstD, List.find?_range_eq_none] at h
    have : fv = gv ∧ ft = gt := canon Rf Rg fun p => by
      have e1 : sem fv ft (say (mer fv gv) (idx (mer fv gv) p)) = sem fv ft p := sem_ext fun v hv => say_idx ((mem_mer _ _).2 (.inl hv)) p
      have e2 : sem gv gt (say (mer fv gv) (idx (mer fv gv) p)) = sem gv gt p := sem_ext fun v hv => say_idx ((mem_mer _ _).2 (.inr hv)) p
      have := h (idx (mer fv gv) p) (idx_lt _ p)
      rw [e1, e2] at this
      simpa using this
    refine ⟨this.1, this.2, ?_⟩
    have hn : firstD fv gv ft gt = none := by rw [firstD, List.find?_range_eq_none]; exact h
    simp [apartF, hrf, hrg, hn]

theorem BitsExact_ok (hG : HasBits G) (hR : HasRef15 G) (hL : HasLaw15 G) (fv gv : List Int) (ft gt r : List Nat) (hft : ∀ w ∈ ft, w < 4294967296) (hgt : ∀ w ∈ gt, w < 4294967296) (hr : r.length = 34) (hrw : ∀ w ∈ r, w < 4294967296) :
    FP G 137 [FV fv ft, FV gv gt, .agg (cnats .u32 r)] (.bool true) := by
  refine FP_of hL.h_hurdlelaw15_BitsExact (Nat.le_of_ble_eq_true rfl) ?_
  simp [FV]
  refine callP_of (great_ok hL fv ft) ?_
  by_cases hf : fv.length > 50 ∨ ft.length > 100
  · simp [hf]
    refine callP_of (knows_ok hG hL) ?_
    simp
  simp [hf]
  refine callP_of (great_ok hL gv gt) ?_
  by_cases hg : gv.length > 50 ∨ gt.length > 100
  · simp [hg]
    refine callP_of (knows_ok hG hL) ?_
    simp
  simp [hg]
  refine callP_of (As_ok hL fv ft) ?_
  simp
  refine callP_of (RightR_ok hR fv ft (by omega) (by omega)) ?_
  cases hrf : rightB fv ft
  · simp
    refine callP_of (knows_ok hG hL) ?_
    simp
  simp
  refine callP_of (As_ok hL gv gt) ?_
  simp
  refine callP_of (RightR_ok hR gv gt (by omega) (by omega)) ?_
  cases hrg : rightB gv gt
  · simp
    refine callP_of (knows_ok hG hL) ?_
    simp
  have Rf := rightB_iff.1 hrf
  have Rg := rightB_iff.1 hrg
  have hlen : (apartF fv gv ft gt).1.length = 34 := by
    simp only [apartF]
    split
    · split <;> simp [asgn]
    · simp
  have htk : (cnats .u32 r).take 34 = cnats .u32 r := take_full hr
  simp
  refine callP_of (Apart_ok hG fv gv ft gt (by omega) (by omega) (by omega) (by omega) hft hgt) ?_
  simp [hlen, drop_full hlen]
  refine callP_of (Same_ok hG fv gv ft gt (by omega) (by omega)) ?_
  rcases apart_is Rf Rg with ⟨n, ha, hne⟩ | ⟨rfl, rfl, ha⟩
  · have hs : ¬ (fv = gv ∧ ft = gt) := by rintro ⟨rfl, rfl⟩; exact hne rfl
    have hM := asgn_len (mer fv gv) (say (mer fv gv) n)
    have htA : (cnats .u32 (asgn (mer fv gv) (say (mer fv gv) n))).take 34 = cnats .u32 (asgn (mer fv gv) (say (mer fv gv) n)) := take_full hM
    have e1 := val_asgn hft (fun v hv => ⟨(mem_mer fv gv).2 (.inl hv), Rf.mem hv⟩) (say (mer fv gv) n)
    have e2 := val_asgn hgt (fun v hv => ⟨(mem_mer fv gv).2 (.inr hv), Rg.mem hv⟩) (say (mer fv gv) n)
    simp only [ha, hs, decide_false]
    simp [hM, htA]
    refine callP_of (Eval_ok hG fv ft _ (by omega) (by omega) hft hM (asgn_lt _ _)) ?_
    simp [hM, htA, hrf]
    refine callP_of (Eval_ok hG gv gt _ (by omega) (by omega) hgt hM (asgn_lt _ _)) ?_
    have hb : (((sem fv ft (say (mer fv gv) n) : Nat) : Int) != ((sem gv gt (say (mer fv gv) n) : Nat) : Int)) = true := bneT (by omega)
    simp [hrg, e1, e2, hb]
    refine callP_of (knows_ok hG hL) ?_
    simp
  · simp [ha, hr, htk]
    refine callP_of (Eval_ok hG fv ft r (by omega) (by omega) hft hr hrw) ?_
    simp [hr, htk, hrf]
    refine callP_of (Eval_ok hG fv ft r (by omega) (by omega) hft hr hrw) ?_
    simp [hrf]
    refine callP_of (knows_ok hG hL) ?_
    simp

theorem BitsForms_ok (hG : HasBits G) (hR : HasRef15 G) (hL : HasLaw15 G) (fv gv : List Int) (ft gt r : List Nat) (c : Nat) (i : Int) (hft : ∀ w ∈ ft, w < 4294967296) (hgt : ∀ w ∈ gt, w < 4294967296) (hr : r.length = 34) (hrw : ∀ w ∈ r, w < 4294967296) :
    FP G 134 [FV fv ft, FV gv gt, .agg (cnats .u32 r), .int .u32 c, .int .i64 i] (.bool true) := by
  refine FP_of hL.h_hurdlelaw15_BitsForms (Nat.le_of_ble_eq_true rfl) ?_
  simp [FV]
  refine callP_of (great_ok hL fv ft) ?_
  by_cases hf : fv.length > 50 ∨ ft.length > 100
  · simp [hf]
    refine callP_of (knows_ok hG hL) ?_
    simp
  simp [hf]
  refine callP_of (great_ok hL gv gt) ?_
  by_cases hg : gv.length > 50 ∨ gt.length > 100
  · simp [hg]
    refine callP_of (knows_ok hG hL) ?_
    simp
  have htk : (cnats .u32 r).take 34 = cnats .u32 r := take_full hr
  simp [hg]
  refine callP_of (Var_ok hG i) ?_
  by_cases hi : 0 ≤ i ∧ i < 34
  · simp only [hi, and_self, if_true]
    simp [FV]
    refine callP_of (Const_ok hG c) ?_
    simp [FV, hr, htk]
    refine callP_of (Eval_ok hG fv ft r (by omega) (by omega) hft hr hrw) ?_
    simp
    refine callP_of (Right_ok hG fv ft (by omega) (by omega)) ?_
    simp
    refine callP_of (As_ok hL fv ft) ?_
    simp [FV]
    refine callP_of (RightR_ok hR fv ft (by omega) (by omega)) ?_
    simp
    refine callP_of (Same_ok hG fv gv ft gt (by omega) (by omega)) ?_
    simp
    refine callP_of (As_ok hL fv ft) ?_
    simp
    refine callP_of (As_ok hL gv gt) ?_
    simp [FV]
    refine callP_of (SameR_ok hR fv gv ft gt (by omega) (by omega)) ?_
    simp (disch := omega) [nats_cons, ltT, leT]
    refine callP_of (by simpa [FV, nats_cons, ints_cons] using As_ok hL [i] [0, 4294967295]) ?_
    simp
    refine callP_of (by simpa [FV, nats_cons, ints_cons] using SameR_ok hR [i] [i] [0, 4294967295] [0, 4294967295] (by simp) (by simp)) ?_
    simp
    refine callP_of (As_ok hL fv ft) ?_
    simp [FV]
    refine callP_of (RightR_ok hR fv ft (by omega) (by omega)) ?_
    cases hrf : rightB fv ft
    · simp
      refine callP_of (knows_ok hG hL) ?_
      simp
    have Rf := rightB_iff.1 hrf
    simp
    refine callP_of (As_ok hL fv ft) ?_
    simp [hr, htk]
    refine callP_of (row_ok hL r hr) ?_
    simp
    refine callP_of (EvalR_ok hR fv ft r Rf hft hr hrw) ?_
    simp
    refine callP_of (knows_ok hG hL) ?_
    simp
  · simp only [hi, if_false]
    simp [FV]
    refine callP_of (Const_ok hG c) ?_
    simp [FV, hr, htk]
    refine callP_of (Eval_ok hG fv ft r (by omega) (by omega) hft hr hrw) ?_
    simp
    refine callP_of (Right_ok hG fv ft (by omega) (by omega)) ?_
    simp
    refine callP_of (As_ok hL fv ft) ?_
    simp [FV]
    refine callP_of (RightR_ok hR fv ft (by omega) (by omega)) ?_
    simp
    refine callP_of (Same_ok hG fv gv ft gt (by omega) (by omega)) ?_
    simp
    refine callP_of (As_ok hL fv ft) ?_
    simp
    refine callP_of (As_ok hL gv gt) ?_
    simp [FV]
    refine callP_of (SameR_ok hR fv gv ft gt (by omega) (by omega)) ?_
    rcases Int.lt_or_le i 0 with h0 | h0
    · simp (disch := omega) [nats_cons, ltT, leF, leT]
      refine callP_of (As_ok hL fv ft) ?_
      simp [FV]
      refine callP_of (RightR_ok hR fv ft (by omega) (by omega)) ?_
      cases hrf : rightB fv ft
      · simp
        refine callP_of (knows_ok hG hL) ?_
        simp
      have Rf := rightB_iff.1 hrf
      simp
      refine callP_of (As_ok hL fv ft) ?_
      simp [hr, htk]
      refine callP_of (row_ok hL r hr) ?_
      simp
      refine callP_of (EvalR_ok hR fv ft r Rf hft hr hrw) ?_
      simp
      refine callP_of (knows_ok hG hL) ?_
      simp
    · simp (disch := omega) [nats_cons, ltF, leT]
      refine callP_of (As_ok hL fv ft) ?_
      simp [FV]
      refine callP_of (RightR_ok hR fv ft (by omega) (by omega)) ?_
      cases hrf : rightB fv ft
      · simp
        refine callP_of (knows_ok hG hL) ?_
        simp
      have Rf := rightB_iff.1 hrf
      simp
      refine callP_of (As_ok hL fv ft) ?_
      simp [hr, htk]
      refine callP_of (row_ok hL r hr) ?_
      simp
      refine callP_of (EvalR_ok hR fv ft r Rf hft hr hrw) ?_
      simp
      refine callP_of (knows_ok hG hL) ?_
      simp
end Go.Ev
