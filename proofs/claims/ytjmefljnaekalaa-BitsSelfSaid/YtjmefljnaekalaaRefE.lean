/- What hurdleref15's Apart computes. -/
import Derived.Test.YtjmefljnaekalaaRefD
namespace Go.Ev
open Go Go.RowKit
variable {G : Tbl}
set_option maxRecDepth 10000
set_option maxHeartbeats 4000000
set_option linter.unusedSimpArgs false
set_option linter.unusedVariables false

theorem ApartR_ok (hG : HasRef15 G) (fv gv : List Int) (ft gt : List Nat) (hfl : fv.length ≤ 9223372036854775806) (hgl : gv.length ≤ 9223372036854775806) (hfl' : ft.length ≤ 9223372036854775807) (hgl' : gt.length ≤ 9223372036854775807)
    (hft : ∀ w ∈ ft, w < 4294967296) (hgt : ∀ w ∈ gt, w < 4294967296) :
    FP G 124 [FV fv ft, FV gv gt] (.tup [.vs (nats .u32 (apartF fv gv ft gt).1) .no, .bool (apartF fv gv ft gt).2]) := by
  refine FP_of hG.h_hurdleref15_Apart (Nat.le_of_ble_eq_true rfl) ?_
  have hch := cnats_chunks .u32 (zeros 34)
  rw [zeros_length] at hch
  have hn34 : nats .u32 (zeros 34) = chunks 1 34 (cnats .u32 (zeros 34)) := hch.symm
  simp [FV]
  refine callP_of (RightR_ok hG fv ft (by omega) hfl') ?_
  cases hrf : rightB fv ft
  · simp [apartF, hrf, hn34]
  simp
  refine callP_of (RightR_ok hG gv gt (by omega) hgl') ?_
  cases hrg : rightB gv gt
  · simp [apartF, hrf, hrg, hn34]
  have Rf := rightB_iff.1 hrf
  have Rg := rightB_iff.1 hrg
  simp
  refine callP_of (SameR_ok hG fv gv ft gt (by omega) (by omega)) ?_
  by_cases hs : fv = gv ∧ ft = gt
  · obtain ⟨rfl, rfl⟩ := hs
    have hfirst : firstD fv fv ft ft = none := by simp [firstD]
    simp [apartF, hrf, hfirst, hn34]
  have hbm : bothL fv gv 34 = mer fv gv := bothL_mer Rf.up Rg.up (fun v hv => Rf.mem hv) (fun v hv => Rg.mem hv)
  have hboth := Both_ok hG fv gv ft gt hfl hgl
  rw [hbm] at hboth
  simp only [hs, decide_false]
  simp
  refine callP_of hboth ?_
  have hup := mer_up fv gv Rf.up Rg.up
  have hnd := hup.nodup
  have hml := mer_len fv gv
  have h4f := Rf.1
  have h4g := Rg.1
  have hm34 : ∀ v ∈ mer fv gv, 0 ≤ v ∧ v < 34 := fun v hv => by
    rcases (mem_mer _ _).1 hv with h | h
    · exact Rf.mem h
    · exact Rg.mem h
  have hfm : ∀ v ∈ fv, v ∈ mer fv gv ∧ 0 ≤ v ∧ v < 34 := fun v hv => ⟨(mem_mer _ _).2 (.inl hv), Rf.mem hv⟩
  have hgm : ∀ v ∈ gv, v ∈ mer fv gv ∧ 0 ≤ v ∧ v < 34 := fun v hv => ⟨(mem_mer _ _).2 (.inr hv), Rg.mem hv⟩
  have h256 : 2 ^ (mer fv gv).length ≤ 256 := by rw [show 256 = 2 ^ 8 from rfl]; exact Nat.pow_le_pow_right (by decide) (by omega)
  generalize hM : mer fv gv = M at *
  simp
  refine W_up (2 ^ M.length) (fun n => [(2, .ptr 0 0), (3, .ptr 1 0), (6, .vs (ints .i64 M) .no), (7, .int .i64 n)])
    (fun n => [some (.cells [.vs (ints .i64 fv) .no, .vs (nats .u32 ft) .no]), some (.cells [.vs (ints .i64 gv) .no, .vs (nats .u32 gt) .no])])
    (fun n => ∀ m, m < n → sem fv ft (say M m) = sem gv gt (say M m)) ?_ ?_
  · simp [keep_cl, trunc]
  intro n hn hall
  simp (disch := omega) [-Int.natCast_add, -Int.natCast_pow]
  refine callP_of (size_ok hG M.length (by omega)) ?_
  by_cases hlt : n < 2 ^ M.length
  · simp (disch := omega) [ltT, -Int.natCast_add, -Int.natCast_pow]
    refine callP_of (Assign_ok hG M n (by omega) hm34 hnd (by omega)) ?_
    simp [-Int.natCast_add, -Int.natCast_pow]
    refine callP_of (EvalR_ok hG fv ft _ Rf hft (asgn_len _ _) (asgn_lt _ _)) ?_
    simp [-Int.natCast_add, -Int.natCast_pow]
    refine callP_of (EvalR_ok hG gv gt _ Rg hgt (asgn_len _ _) (asgn_lt _ _)) ?_
    rw [val_asgn hft hfm, val_asgn hgt hgm]
    by_cases he : sem fv ft (say M n) = sem gv gt (say M n)
    · simp (disch := omega) [he, add1', keep_cl, trunc, hlt, -Int.natCast_pow, -Int.natCast_add]
      intro m hm
      by_cases hmn : m = n
      · subst hmn; exact he
      · exact hall m (by omega)
    · have hfirst : firstD fv gv ft gt = some n := by
        rw [firstD, hM, List.find?_range_eq_some]
        exact ⟨by simpa using he, by simpa using hlt, fun m hm => by simpa using hall m hm⟩
      have hap : apartF fv gv ft gt = (asgn M (say M n), true) := by simp [apartF, hrf, hrg, hfirst, hM]
      simp (disch := omega) [he, bneT, hap, -Int.natCast_pow, -Int.natCast_add]
  · have hne : n = 2 ^ M.length := by omega
    subst hne
    have hfirst : firstD fv gv ft gt = none := by
      rw [firstD, hM, List.find?_range_eq_none]
      exact fun m hm => by simpa using hall m hm
    have hap : apartF fv gv ft gt = (zeros 34, false) := by simp [apartF, hrf, hrg, hfirst]
    simp (disch := omega) [ltF, hap, hn34, -Int.natCast_pow]
end Go.Ev
