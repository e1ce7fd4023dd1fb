/- What hurdleref15's Do and Apart compute. -/
import Derived.Test.YtjmefljnaekalaaRefC
namespace Go.Ev
open Go Go.RowKit
variable {G : Tbl}
set_option maxRecDepth 10000
set_option maxHeartbeats 4000000
set_option linter.unusedSimpArgs false
set_option linter.unusedVariables false

theorem asg_asgn {M : List Int} {p : Int → Bool} {v : Int} (hv : v ∈ M) (h0 : 0 ≤ v) (h1 : v < 34) : asg (asgn M p) v = if p v then 4294967295 else 0 := by
  have h2 : v.toNat < 34 := by omega
  have h3 : ((v.toNat : Nat) : Int) = v := by omega
  simp [asg, asgn, List.getD_eq_getElem?_getD, h2, h3, hv]
theorem asgn_len (M : List Int) (p : Int → Bool) : (asgn M p).length = 34 := by simp [asgn]
theorem asgn_lt (M : List Int) (p : Int → Bool) : ∀ w ∈ asgn M p, w < 4294967296 := by
  intro w hw
  simp only [asgn, List.mem_map] at hw
  obtain ⟨i, _, rfl⟩ := hw
  split <;> omega
theorem val_asgn {fv M : List Int} {ft : List Nat} (hft : ∀ w ∈ ft, w < 4294967296) (hs : ∀ v ∈ fv, v ∈ M ∧ 0 ≤ v ∧ v < 34) (p : Int → Bool) : val fv ft (asg (asgn M p)) = sem fv ft p :=
  val_full hft p fun v hv => asg_asgn (hs v hv).1 (hs v hv).2.1 (hs v hv).2.2

theorem DoR15_ok (hG : HasRef15 G) (kind : Int) (fv gv : List Int) (ft gt : List Nat) (hfl : fv.length ≤ 9223372036854775806) (hgl : gv.length ≤ 9223372036854775806) (hfl' : ft.length ≤ 9223372036854775807) (hgl' : gt.length ≤ 9223372036854775807)
    (hft : ∀ w ∈ ft, w < 4294967296) (hgt : ∀ w ∈ gt, w < 4294967296) :
    ∃ r, FP G 121 [.int .i64 kind, FV fv ft, FV gv gt] r ∧
      ((¬ DoOk kind fv gv ft gt ∧ r = .tup [FV [] [], .bool false]) ∨
       (DoOk kind fv gv ft gt ∧ ∃ vs tab, r = .tup [FV vs tab, .bool true] ∧ Right vs tab ∧ (∀ w ∈ tab, w < 4294967296) ∧ ∀ p, sem vs tab p = (doW kind (sem fv ft p) (sem gv gt p)).1)) := by
  refine FPx_of hG.h_hurdleref15_Do (Nat.le_of_ble_eq_true rfl) ?_
  simp [FV]
  by_cases hk : kind = 68 ∨ kind = 84 ∨ kind = 164
  case neg =>
    have h1 : kind ≠ 68 := fun e => hk (.inl e)
    have h2 : kind ≠ 84 := fun e => hk (.inr (.inl e))
    have h3 : kind ≠ 164 := fun e => hk (.inr (.inr e))
    simp [h1, h2, h3, bneT, DoOk, FV]
  cases hrf : rightB fv ft
  · have hnr : ¬ Right fv ft := fun h => by rw [rightB_iff.2 h] at hrf; cases hrf
    rcases hk with rfl | rfl | rfl <;> (simp; refine callP_of (RightR_ok hG fv ft (by omega) hfl') ?_; simp [hrf, DoOk, hnr, FV])
  cases hrg : rightB gv gt
  · have hnr : ¬ Right gv gt := fun h => by rw [rightB_iff.2 h] at hrg; cases hrg
    rcases hk with rfl | rfl | rfl <;> (simp; refine callP_of (RightR_ok hG fv ft (by omega) hfl') ?_; simp [hrf]; refine callP_of (RightR_ok hG gv gt (by omega) hgl') ?_; simp [hrg, DoOk, hnr, FV])
  have Rf := rightB_iff.1 hrf
  have Rg := rightB_iff.1 hrg
  have hbm : bothL fv gv 34 = mer fv gv := bothL_mer Rf.up Rg.up (fun v hv => Rf.mem hv) (fun v hv => Rg.mem hv)
  have hboth := Both_ok hG fv gv ft gt hfl hgl
  rw [hbm] at hboth
  have hup := mer_up fv gv Rf.up Rg.up
  have hnd := hup.nodup
  have hm34 : ∀ v ∈ mer fv gv, 0 ≤ v ∧ v < 34 := fun v hv => by
    rcases (mem_mer _ _).1 hv with h | h
    · exact Rf.mem h
    · exact Rg.mem h
  have hfm : ∀ v ∈ fv, v ∈ mer fv gv ∧ 0 ≤ v ∧ v < 34 := fun v hv => ⟨(mem_mer _ _).2 (.inl hv), Rf.mem hv⟩
  have hgm : ∀ v ∈ gv, v ∈ mer fv gv ∧ 0 ≤ v ∧ v < 34 := fun v hv => ⟨(mem_mer _ _).2 (.inr hv), Rg.mem hv⟩
  by_cases hm : (mer fv gv).length ≤ 4
  case neg =>
    rcases hk with rfl | rfl | rfl <;> (simp; refine callP_of (RightR_ok hG fv ft (by omega) hfl') ?_; simp [hrf]; refine callP_of (RightR_ok hG gv gt (by omega) hgl') ?_; simp [hrg]
                                        refine callP_of hboth ?_; simp (disch := omega) [ltT, DoOk, hm, FV])
  have hok : DoOk kind fv gv ft gt := ⟨hk, Rf, Rg, hm⟩
  have hint : ∀ p, (doW kind (sem fv ft p) (sem gv gt p)).1 < 4294967296 := fun p => doW_lt hk (sem_lt hft p) (sem_lt hgt p)
  have hdoW := fun (a b : Nat) (ha : a < 4294967296) (hb : b < 4294967296) => DoR_ok hG kind a b ha hb
  generalize hM : mer fv gv = M at *
  have h16 : 2 ^ M.length ≤ 16 := by rw [show 16 = 2 ^ 4 from rfl]; exact Nat.pow_le_pow_right (by decide) hm
  generalize hT : (fun n => (doW kind (sem fv ft (say M n)) (sem gv gt (say M n))).1) = T at *
  have hTsem : ∀ p, sem M ((List.range (2 ^ M.length)).map T) p = (doW kind (sem fv ft p) (sem gv gt p)).1 := fun p => by
    have hlt := idx_lt M p
    have e1 : sem fv ft (say M (idx M p)) = sem fv ft p := sem_ext fun v hv => say_idx (hfm v hv).1 p
    have e2 : sem gv gt (say M (idx M p)) = sem gv gt p := sem_ext fun v hv => say_idx (hgm v hv).1 p
    rw [sem]
    simp [List.getD_eq_getElem?_getD, hlt, ← hT, e1, e2]
  have hTlt : ∀ n, T n < 4294967296 := fun n => by rw [← hT]; exact hint _
  have hkk : ((kind != 68) = false) ∨ ((kind != 68) = true ∧ (kind != 84) = false) ∨ ((kind != 68) = true ∧ (kind != 84) = true ∧ (kind != 164) = false) := by
    rcases hk with h | h | h
    · exact .inl (bneF h)
    · exact .inr (.inl ⟨bneT (by omega), bneF h⟩)
    · exact .inr (.inr ⟨bneT (by omega), bneT (by omega), bneF h⟩)
  rcases hkk with h1 | ⟨h1, h2⟩ | ⟨h1, h2, h3⟩
  · simp [h1]; refine callP_of (RightR_ok hG fv ft (by omega) hfl') ?_; simp [hrf]; refine callP_of (RightR_ok hG gv gt (by omega) hgl') ?_; simp [hrg]
    refine callP_of hboth ?_
    simp (disch := omega) [ltF, -Int.natCast_add]
    refine W_up (2 ^ M.length) (fun n => [(0, .int .i64 kind), (4, .ptr 0 0), (5, .ptr 1 0), (6, .ptr 2 0), (8, .vs (ints .i64 M) .no), (9, .ptr 3 0), (10, .int .i64 n)])
      (fun n => [some (.cells [.vs (ints .i64 fv) .no, .vs (nats .u32 ft) .no]), some (.cells [.vs (ints .i64 gv) .no, .vs (nats .u32 gt) .no]), some (.cells [.vs [] .full, .vs [] .full]),
        some (.cells [.vs (ints .i64 M) .no, .vs (nats .u32 ((List.range n).map T)) (.own 4)]), some (.zone n)]) (fun _ => True) ?_ ?_
    · simp [keep_cl, trunc]
    intro n hn _
    simp (disch := omega) [-Int.natCast_add, -Int.natCast_pow]
    refine callP_of (size_ok hG M.length (by omega)) ?_
    by_cases hlt : n < 2 ^ M.length
    · simp (disch := omega) [ltT, -Int.natCast_add, -Int.natCast_pow]
      refine callP_of (Assign_ok hG M n (by omega) hm34 hnd (by omega)) ?_
      simp [-Int.natCast_add, -Int.natCast_pow]
      refine callP_of (EvalR_ok hG fv ft _ Rf hft (asgn_len _ _) (asgn_lt _ _)) ?_
      simp [-Int.natCast_add, -Int.natCast_pow]
      refine callP_of (EvalR_ok hG gv gt _ Rg hgt (asgn_len _ _) (asgn_lt _ _)) ?_
      rw [val_asgn hft hfm, val_asgn hgt hgm]
      simp [-Int.natCast_add, -Int.natCast_pow]
      refine callP_of (hdoW _ _ (sem_lt hft _) (sem_lt hgt _)) ?_
      have hTn : (doW kind (sem fv ft (say M n)) (sem gv gt (say M n))).1 = T n := congrFun hT n
      rw [hTn]
      simp (disch := omega) [leTn, add1', keep_cl, trunc, hlt, List.range_succ, -Int.natCast_pow, -Int.natCast_add]
    have hne : n = 2 ^ M.length := by omega
    subst hne
    simp (disch := omega) [ltF, -Int.natCast_pow]
    have hs1 : subI .i64 (M.length : Int) 1 = (M.length : Int) - 1 := subI64 (by omega) (by omega)
    refine W_state (fun s : List Int × List Nat × Tk × Nat => s.2.2.2)
      (fun s => [(6, .ptr 2 0), (9, .ptr 3 0), (14, .int .i64 ((s.2.2.2 : Int) - 1))])
      (fun s => [some (.cells [.vs (ints .i64 fv) .no, .vs (nats .u32 ft) .no]), some (.cells [.vs (ints .i64 gv) .no, .vs (nats .u32 gt) .no]), some (.cells [.vs [] .full, .vs [] .full]),
        some (.cells [.vs (ints .i64 s.1) .no, .vs (nats .u32 s.2.1) s.2.2.1]), some (.zone (2 ^ M.length))])
      (fun s => s.2.2.2 ≤ s.1.length ∧ s.1.Sublist M ∧ s.2.1.length = 2 ^ s.1.length ∧ (∀ n, Tk.cl n s.2.2.1 = s.2.2.1 ∨ n < 5) ∧ (∀ p, sem s.1 s.2.1 p = (doW kind (sem fv ft p) (sem gv gt p)).1) ∧ ∀ v ∈ s.1.drop s.2.2.2, dep (sem s.1 s.2.1) v)
      (M, (List.range (2 ^ M.length)).map T, .own 4, M.length) ?_ ?_
    · simp [keep_cl, trunc, hs1, hTsem, -Int.natCast_pow]
      intro n
      by_cases h : 4 < n
      · left; simp [Tk.cl, h]
      · right; omega
    rintro ⟨us, tb, tk, J⟩ ⟨hJ, hsub, htl, htk, hsem, hdep⟩
    simp only at hJ hsub htl htk hsem hdep
    have hul := hsub.length_le
    have hund : us.Nodup := hnd.sublist hsub
    have htk5 : Tk.cl 5 tk = tk := (htk 5).resolve_right (by omega)
    have h16b : tb.length ≤ 16 := by rw [htl, show 16 = 2 ^ 4 from rfl]; exact Nat.pow_le_pow_right (by decide) (by omega)
    cases J with
    | zero =>
      simp
      have hR : Right us tb := Right.of (by omega) htl (hup.sublist hsub) (fun v hv => hm34 v (hsub.subset hv)) (fun v hv => hdep v (by simpa using hv))
      have hw : ∀ w ∈ tb, w < 4294967296 := fun w hw => by
        obtain ⟨n, hn, rfl⟩ := List.mem_iff_getElem.1 hw
        rw [tab_get hund htl hn, hsem]
        exact hint _
      first | exact ⟨hok, us, tb, ⟨rfl, rfl⟩, hR, hw, hsem⟩ | exact .inr ⟨hok, us, tb, ⟨rfl, rfl⟩, hR, hw, hsem⟩
    | succ j =>
      have hjl : j < us.length := by omega
      have he : (((j + 1 : Nat) : Int) - 1) = (j : Int) := by omega
      simp (disch := omega) [he, leT, -Int.natCast_add]
      refine W_up tb.length (fun m => [(6, .ptr 2 0), (9, .ptr 3 0), (14, .int .i64 j), (15, .bool (anyU tb j m)), (16, .int .i64 m)])
        (fun _ => [some (.cells [.vs (ints .i64 fv) .no, .vs (nats .u32 ft) .no]), some (.cells [.vs (ints .i64 gv) .no, .vs (nats .u32 gt) .no]), some (.cells [.vs [] .full, .vs [] .full]),
          some (.cells [.vs (ints .i64 us) .no, .vs (nats .u32 tb) tk]), some (.zone (2 ^ M.length))]) (fun _ => True) ?_ ?_
      · simp [keep_cl, trunc, anyU, htk5]
      intro m hm' _
      by_cases hml : m < tb.length
      · have hin : m ^^^ 2 ^ j < tb.length := by
          rw [htl] at hml ⊢
          exact Nat.xor_lt_two_pow hml (Nat.pow_lt_pow_right (by decide) hjl)
        have hx1 : tb[m]? = some tb[m] := List.getElem?_eq_getElem hml
        have hx2 : tb[m ^^^ 2 ^ j]? = some (tb[m ^^^ 2 ^ j]'hin) := List.getElem?_eq_getElem hin
        have hstep : anyU tb j (m + 1) = (anyU tb j m || tb[m] != tb[m ^^^ 2 ^ j]'hin) := by
          simp only [anyU, List.range_succ, List.any_append, List.any_cons, List.any_nil, Bool.or_false, hx1, hx2]
          congr 1
        cases hu : anyU tb j m
        · rw [hu, Bool.false_or] at hstep
          simp (disch := omega) [ltT, get_in, -Int.natCast_add, -Int.natCast_pow]
          refine callP_of (turned_ok hG m j (by omega) (by omega)) ?_
          have hx3 : ((tb[m] : Int) != (tb[m ^^^ 2 ^ j]'hin : Int)) = (tb[m] != tb[m ^^^ 2 ^ j]'hin) := by
            rw [Bool.eq_iff_iff]; simp
          simp (disch := omega) [get_in, add1', keep_cl, trunc, hml, hin, hstep, hx3, htk5, -Int.natCast_add, -Int.natCast_pow]
        · rw [hu, Bool.true_or] at hstep
          simp (disch := omega) [ltT, add1', keep_cl, trunc, hml, hstep, htk5, -Int.natCast_add]
      have hne : m = tb.length := by omega
      have hcu : anyU tb j m = cnt tb j := by rw [hne]; rfl
      have hv : us[j]? = some us[j] := List.getElem?_eq_getElem hjl
      have hdrop : us.drop j = us[j] :: us.drop (j + 1) := List.drop_eq_getElem_cons hjl
      have hs2 : subI .i64 (j : Int) 1 = (j : Int) - 1 := subI64 (by omega) (by omega)
      cases hc : cnt tb j
      · simp (disch := omega) [ltF, hcu, hc, -Int.natCast_add]
        refine callP_of (without_ok hG us tb j (by omega) (by omega) (by omega)) ?_
        simp (disch := omega) [FV, hs2]
        obtain ⟨k, hk'⟩ : ∃ k, us.length = k + 1 := ⟨us.length - 1, by omega⟩
        have hle : (us.eraseIdx j).length = k := by rw [List.length_eraseIdx_of_lt hjl]; omega
        have remL : (remT tb j).length = 2 ^ k := remT_len (by rw [htl, hk']) (by omega)
        have hsr := sem_rem hund htl hjl hc
        have hff : sem (us.eraseIdx j) (remT tb j) = sem us tb := funext hsr
        have hdr : (us.eraseIdx j).drop j = us.drop (j + 1) := by
          rw [List.eraseIdx_eq_take_drop_succ, List.drop_append_of_le_length (by rw [List.length_take]; omega), List.drop_take]; simp
        refine ⟨(us.eraseIdx j, remT tb j, .no, j), ?_⟩
        simp only [hle, remL, hff, hdr, hsr, hsem]
        refine ⟨by omega, ⟨by omega, (List.eraseIdx_sublist us j).trans hsub, trivial, fun n => .inl rfl, fun p => trivial, hdep⟩, ?_, ?_⟩
        · simp [keep_cl]
        · simp [trunc]
      · simp (disch := omega) [ltF, hcu, hc, hs2, -Int.natCast_add]
        refine ⟨(us, tb, tk, j), ?_⟩
        refine ⟨by simp, ⟨by simp; omega, hsub, htl, htk, hsem, fun v hv' => ?_⟩, ?_, ?_⟩
        · simp only [hdrop, List.mem_cons] at hv'
          rcases hv' with e | e
          · subst e; exact (cnt_iff hund htl hv).1 hc
          · exact hdep v e
        · simp [keep_cl]
        · simp [trunc, htk5]
  · simp [h1, h2]; refine callP_of (RightR_ok hG fv ft (by omega) hfl') ?_; simp [hrf]; refine callP_of (RightR_ok hG gv gt (by omega) hgl') ?_; simp [hrg]
    refine callP_of hboth ?_
    simp (disch := omega) [ltF, -Int.natCast_add]
    refine W_up (2 ^ M.length) (fun n => [(0, .int .i64 kind), (4, .ptr 0 0), (5, .ptr 1 0), (6, .ptr 2 0), (8, .vs (ints .i64 M) .no), (9, .ptr 3 0), (10, .int .i64 n)])
      (fun n => [some (.cells [.vs (ints .i64 fv) .no, .vs (nats .u32 ft) .no]), some (.cells [.vs (ints .i64 gv) .no, .vs (nats .u32 gt) .no]), some (.cells [.vs [] .full, .vs [] .full]),
        some (.cells [.vs (ints .i64 M) .no, .vs (nats .u32 ((List.range n).map T)) (.own 4)]), some (.zone n)]) (fun _ => True) ?_ ?_
    · simp [keep_cl, trunc]
    intro n hn _
    simp (disch := omega) [-Int.natCast_add, -Int.natCast_pow]
    refine callP_of (size_ok hG M.length (by omega)) ?_
    by_cases hlt : n < 2 ^ M.length
    · simp (disch := omega) [ltT, -Int.natCast_add, -Int.natCast_pow]
      refine callP_of (Assign_ok hG M n (by omega) hm34 hnd (by omega)) ?_
      simp [-Int.natCast_add, -Int.natCast_pow]
      refine callP_of (EvalR_ok hG fv ft _ Rf hft (asgn_len _ _) (asgn_lt _ _)) ?_
      simp [-Int.natCast_add, -Int.natCast_pow]
      refine callP_of (EvalR_ok hG gv gt _ Rg hgt (asgn_len _ _) (asgn_lt _ _)) ?_
      rw [val_asgn hft hfm, val_asgn hgt hgm]
      simp [-Int.natCast_add, -Int.natCast_pow]
      refine callP_of (hdoW _ _ (sem_lt hft _) (sem_lt hgt _)) ?_
      have hTn : (doW kind (sem fv ft (say M n)) (sem gv gt (say M n))).1 = T n := congrFun hT n
      rw [hTn]
      simp (disch := omega) [leTn, add1', keep_cl, trunc, hlt, List.range_succ, -Int.natCast_pow, -Int.natCast_add]
    have hne : n = 2 ^ M.length := by omega
    subst hne
    simp (disch := omega) [ltF, -Int.natCast_pow]
    have hs1 : subI .i64 (M.length : Int) 1 = (M.length : Int) - 1 := subI64 (by omega) (by omega)
    refine W_state (fun s : List Int × List Nat × Tk × Nat => s.2.2.2)
      (fun s => [(6, .ptr 2 0), (9, .ptr 3 0), (14, .int .i64 ((s.2.2.2 : Int) - 1))])
      (fun s => [some (.cells [.vs (ints .i64 fv) .no, .vs (nats .u32 ft) .no]), some (.cells [.vs (ints .i64 gv) .no, .vs (nats .u32 gt) .no]), some (.cells [.vs [] .full, .vs [] .full]),
        some (.cells [.vs (ints .i64 s.1) .no, .vs (nats .u32 s.2.1) s.2.2.1]), some (.zone (2 ^ M.length))])
      (fun s => s.2.2.2 ≤ s.1.length ∧ s.1.Sublist M ∧ s.2.1.length = 2 ^ s.1.length ∧ (∀ n, Tk.cl n s.2.2.1 = s.2.2.1 ∨ n < 5) ∧ (∀ p, sem s.1 s.2.1 p = (doW kind (sem fv ft p) (sem gv gt p)).1) ∧ ∀ v ∈ s.1.drop s.2.2.2, dep (sem s.1 s.2.1) v)
      (M, (List.range (2 ^ M.length)).map T, .own 4, M.length) ?_ ?_
    · simp [keep_cl, trunc, hs1, hTsem, -Int.natCast_pow]
      intro n
      by_cases h : 4 < n
      · left; simp [Tk.cl, h]
      · right; omega
    rintro ⟨us, tb, tk, J⟩ ⟨hJ, hsub, htl, htk, hsem, hdep⟩
    simp only at hJ hsub htl htk hsem hdep
    have hul := hsub.length_le
    have hund : us.Nodup := hnd.sublist hsub
    have htk5 : Tk.cl 5 tk = tk := (htk 5).resolve_right (by omega)
    have h16b : tb.length ≤ 16 := by rw [htl, show 16 = 2 ^ 4 from rfl]; exact Nat.pow_le_pow_right (by decide) (by omega)
    cases J with
    | zero =>
      simp
      have hR : Right us tb := Right.of (by omega) htl (hup.sublist hsub) (fun v hv => hm34 v (hsub.subset hv)) (fun v hv => hdep v (by simpa using hv))
      have hw : ∀ w ∈ tb, w < 4294967296 := fun w hw => by
        obtain ⟨n, hn, rfl⟩ := List.mem_iff_getElem.1 hw
        rw [tab_get hund htl hn, hsem]
        exact hint _
      first | exact ⟨hok, us, tb, ⟨rfl, rfl⟩, hR, hw, hsem⟩ | exact .inr ⟨hok, us, tb, ⟨rfl, rfl⟩, hR, hw, hsem⟩
    | succ j =>
      have hjl : j < us.length := by omega
      have he : (((j + 1 : Nat) : Int) - 1) = (j : Int) := by omega
      simp (disch := omega) [he, leT, -Int.natCast_add]
      refine W_up tb.length (fun m => [(6, .ptr 2 0), (9, .ptr 3 0), (14, .int .i64 j), (15, .bool (anyU tb j m)), (16, .int .i64 m)])
        (fun _ => [some (.cells [.vs (ints .i64 fv) .no, .vs (nats .u32 ft) .no]), some (.cells [.vs (ints .i64 gv) .no, .vs (nats .u32 gt) .no]), some (.cells [.vs [] .full, .vs [] .full]),
          some (.cells [.vs (ints .i64 us) .no, .vs (nats .u32 tb) tk]), some (.zone (2 ^ M.length))]) (fun _ => True) ?_ ?_
      · simp [keep_cl, trunc, anyU, htk5]
      intro m hm' _
      by_cases hml : m < tb.length
      · have hin : m ^^^ 2 ^ j < tb.length := by
          rw [htl] at hml ⊢
          exact Nat.xor_lt_two_pow hml (Nat.pow_lt_pow_right (by decide) hjl)
        have hx1 : tb[m]? = some tb[m] := List.getElem?_eq_getElem hml
        have hx2 : tb[m ^^^ 2 ^ j]? = some (tb[m ^^^ 2 ^ j]'hin) := List.getElem?_eq_getElem hin
        have hstep : anyU tb j (m + 1) = (anyU tb j m || tb[m] != tb[m ^^^ 2 ^ j]'hin) := by
          simp only [anyU, List.range_succ, List.any_append, List.any_cons, List.any_nil, Bool.or_false, hx1, hx2]
          congr 1
        cases hu : anyU tb j m
        · rw [hu, Bool.false_or] at hstep
          simp (disch := omega) [ltT, get_in, -Int.natCast_add, -Int.natCast_pow]
          refine callP_of (turned_ok hG m j (by omega) (by omega)) ?_
          have hx3 : ((tb[m] : Int) != (tb[m ^^^ 2 ^ j]'hin : Int)) = (tb[m] != tb[m ^^^ 2 ^ j]'hin) := by
            rw [Bool.eq_iff_iff]; simp
          simp (disch := omega) [get_in, add1', keep_cl, trunc, hml, hin, hstep, hx3, htk5, -Int.natCast_add, -Int.natCast_pow]
        · rw [hu, Bool.true_or] at hstep
          simp (disch := omega) [ltT, add1', keep_cl, trunc, hml, hstep, htk5, -Int.natCast_add]
      have hne : m = tb.length := by omega
      have hcu : anyU tb j m = cnt tb j := by rw [hne]; rfl
      have hv : us[j]? = some us[j] := List.getElem?_eq_getElem hjl
      have hdrop : us.drop j = us[j] :: us.drop (j + 1) := List.drop_eq_getElem_cons hjl
      have hs2 : subI .i64 (j : Int) 1 = (j : Int) - 1 := subI64 (by omega) (by omega)
      cases hc : cnt tb j
      · simp (disch := omega) [ltF, hcu, hc, -Int.natCast_add]
        refine callP_of (without_ok hG us tb j (by omega) (by omega) (by omega)) ?_
        simp (disch := omega) [FV, hs2]
        obtain ⟨k, hk'⟩ : ∃ k, us.length = k + 1 := ⟨us.length - 1, by omega⟩
        have hle : (us.eraseIdx j).length = k := by rw [List.length_eraseIdx_of_lt hjl]; omega
        have remL : (remT tb j).length = 2 ^ k := remT_len (by rw [htl, hk']) (by omega)
        have hsr := sem_rem hund htl hjl hc
        have hff : sem (us.eraseIdx j) (remT tb j) = sem us tb := funext hsr
        have hdr : (us.eraseIdx j).drop j = us.drop (j + 1) := by
          rw [List.eraseIdx_eq_take_drop_succ, List.drop_append_of_le_length (by rw [List.length_take]; omega), List.drop_take]; simp
        refine ⟨(us.eraseIdx j, remT tb j, .no, j), ?_⟩
        simp only [hle, remL, hff, hdr, hsr, hsem]
        refine ⟨by omega, ⟨by omega, (List.eraseIdx_sublist us j).trans hsub, trivial, fun n => .inl rfl, fun p => trivial, hdep⟩, ?_, ?_⟩
        · simp [keep_cl]
        · simp [trunc]
      · simp (disch := omega) [ltF, hcu, hc, hs2, -Int.natCast_add]
        refine ⟨(us, tb, tk, j), ?_⟩
        refine ⟨by simp, ⟨by simp; omega, hsub, htl, htk, hsem, fun v hv' => ?_⟩, ?_, ?_⟩
        · simp only [hdrop, List.mem_cons] at hv'
          rcases hv' with e | e
          · subst e; exact (cnt_iff hund htl hv).1 hc
          · exact hdep v e
        · simp [keep_cl]
        · simp [trunc, htk5]
  · simp [h1, h2, h3]; refine callP_of (RightR_ok hG fv ft (by omega) hfl') ?_; simp [hrf]; refine callP_of (RightR_ok hG gv gt (by omega) hgl') ?_; simp [hrg]
    refine callP_of hboth ?_
    simp (disch := omega) [ltF, -Int.natCast_add]
    refine W_up (2 ^ M.length) (fun n => [(0, .int .i64 kind), (4, .ptr 0 0), (5, .ptr 1 0), (6, .ptr 2 0), (8, .vs (ints .i64 M) .no), (9, .ptr 3 0), (10, .int .i64 n)])
      (fun n => [some (.cells [.vs (ints .i64 fv) .no, .vs (nats .u32 ft) .no]), some (.cells [.vs (ints .i64 gv) .no, .vs (nats .u32 gt) .no]), some (.cells [.vs [] .full, .vs [] .full]),
        some (.cells [.vs (ints .i64 M) .no, .vs (nats .u32 ((List.range n).map T)) (.own 4)]), some (.zone n)]) (fun _ => True) ?_ ?_
    · simp [keep_cl, trunc]
    intro n hn _
    simp (disch := omega) [-Int.natCast_add, -Int.natCast_pow]
    refine callP_of (size_ok hG M.length (by omega)) ?_
    by_cases hlt : n < 2 ^ M.length
    · simp (disch := omega) [ltT, -Int.natCast_add, -Int.natCast_pow]
      refine callP_of (Assign_ok hG M n (by omega) hm34 hnd (by omega)) ?_
      simp [-Int.natCast_add, -Int.natCast_pow]
      refine callP_of (EvalR_ok hG fv ft _ Rf hft (asgn_len _ _) (asgn_lt _ _)) ?_
      simp [-Int.natCast_add, -Int.natCast_pow]
      refine callP_of (EvalR_ok hG gv gt _ Rg hgt (asgn_len _ _) (asgn_lt _ _)) ?_
      rw [val_asgn hft hfm, val_asgn hgt hgm]
      simp [-Int.natCast_add, -Int.natCast_pow]
      refine callP_of (hdoW _ _ (sem_lt hft _) (sem_lt hgt _)) ?_
      have hTn : (doW kind (sem fv ft (say M n)) (sem gv gt (say M n))).1 = T n := congrFun hT n
      rw [hTn]
      simp (disch := omega) [leTn, add1', keep_cl, trunc, hlt, List.range_succ, -Int.natCast_pow, -Int.natCast_add]
    have hne : n = 2 ^ M.length := by omega
    subst hne
    simp (disch := omega) [ltF, -Int.natCast_pow]
    have hs1 : subI .i64 (M.length : Int) 1 = (M.length : Int) - 1 := subI64 (by omega) (by omega)
    refine W_state (fun s : List Int × List Nat × Tk × Nat => s.2.2.2)
      (fun s => [(6, .ptr 2 0), (9, .ptr 3 0), (14, .int .i64 ((s.2.2.2 : Int) - 1))])
      (fun s => [some (.cells [.vs (ints .i64 fv) .no, .vs (nats .u32 ft) .no]), some (.cells [.vs (ints .i64 gv) .no, .vs (nats .u32 gt) .no]), some (.cells [.vs [] .full, .vs [] .full]),
        some (.cells [.vs (ints .i64 s.1) .no, .vs (nats .u32 s.2.1) s.2.2.1]), some (.zone (2 ^ M.length))])
      (fun s => s.2.2.2 ≤ s.1.length ∧ s.1.Sublist M ∧ s.2.1.length = 2 ^ s.1.length ∧ (∀ n, Tk.cl n s.2.2.1 = s.2.2.1 ∨ n < 5) ∧ (∀ p, sem s.1 s.2.1 p = (doW kind (sem fv ft p) (sem gv gt p)).1) ∧ ∀ v ∈ s.1.drop s.2.2.2, dep (sem s.1 s.2.1) v)
      (M, (List.range (2 ^ M.length)).map T, .own 4, M.length) ?_ ?_
    · simp [keep_cl, trunc, hs1, hTsem, -Int.natCast_pow]
      intro n
      by_cases h : 4 < n
      · left; simp [Tk.cl, h]
      · right; omega
    rintro ⟨us, tb, tk, J⟩ ⟨hJ, hsub, htl, htk, hsem, hdep⟩
    simp only at hJ hsub htl htk hsem hdep
    have hul := hsub.length_le
    have hund : us.Nodup := hnd.sublist hsub
    have htk5 : Tk.cl 5 tk = tk := (htk 5).resolve_right (by omega)
    have h16b : tb.length ≤ 16 := by rw [htl, show 16 = 2 ^ 4 from rfl]; exact Nat.pow_le_pow_right (by decide) (by omega)
    cases J with
    | zero =>
      simp
      have hR : Right us tb := Right.of (by omega) htl (hup.sublist hsub) (fun v hv => hm34 v (hsub.subset hv)) (fun v hv => hdep v (by simpa using hv))
      have hw : ∀ w ∈ tb, w < 4294967296 := fun w hw => by
        obtain ⟨n, hn, rfl⟩ := List.mem_iff_getElem.1 hw
        rw [tab_get hund htl hn, hsem]
        exact hint _
      first | exact ⟨hok, us, tb, ⟨rfl, rfl⟩, hR, hw, hsem⟩ | exact .inr ⟨hok, us, tb, ⟨rfl, rfl⟩, hR, hw, hsem⟩
    | succ j =>
      have hjl : j < us.length := by omega
      have he : (((j + 1 : Nat) : Int) - 1) = (j : Int) := by omega
      simp (disch := omega) [he, leT, -Int.natCast_add]
      refine W_up tb.length (fun m => [(6, .ptr 2 0), (9, .ptr 3 0), (14, .int .i64 j), (15, .bool (anyU tb j m)), (16, .int .i64 m)])
        (fun _ => [some (.cells [.vs (ints .i64 fv) .no, .vs (nats .u32 ft) .no]), some (.cells [.vs (ints .i64 gv) .no, .vs (nats .u32 gt) .no]), some (.cells [.vs [] .full, .vs [] .full]),
          some (.cells [.vs (ints .i64 us) .no, .vs (nats .u32 tb) tk]), some (.zone (2 ^ M.length))]) (fun _ => True) ?_ ?_
      · simp [keep_cl, trunc, anyU, htk5]
      intro m hm' _
      by_cases hml : m < tb.length
      · have hin : m ^^^ 2 ^ j < tb.length := by
          rw [htl] at hml ⊢
          exact Nat.xor_lt_two_pow hml (Nat.pow_lt_pow_right (by decide) hjl)
        have hx1 : tb[m]? = some tb[m] := List.getElem?_eq_getElem hml
        have hx2 : tb[m ^^^ 2 ^ j]? = some (tb[m ^^^ 2 ^ j]'hin) := List.getElem?_eq_getElem hin
        have hstep : anyU tb j (m + 1) = (anyU tb j m || tb[m] != tb[m ^^^ 2 ^ j]'hin) := by
          simp only [anyU, List.range_succ, List.any_append, List.any_cons, List.any_nil, Bool.or_false, hx1, hx2]
          congr 1
        cases hu : anyU tb j m
        · rw [hu, Bool.false_or] at hstep
          simp (disch := omega) [ltT, get_in, -Int.natCast_add, -Int.natCast_pow]
          refine callP_of (turned_ok hG m j (by omega) (by omega)) ?_
          have hx3 : ((tb[m] : Int) != (tb[m ^^^ 2 ^ j]'hin : Int)) = (tb[m] != tb[m ^^^ 2 ^ j]'hin) := by
            rw [Bool.eq_iff_iff]; simp
          simp (disch := omega) [get_in, add1', keep_cl, trunc, hml, hin, hstep, hx3, htk5, -Int.natCast_add, -Int.natCast_pow]
        · rw [hu, Bool.true_or] at hstep
          simp (disch := omega) [ltT, add1', keep_cl, trunc, hml, hstep, htk5, -Int.natCast_add]
      have hne : m = tb.length := by omega
      have hcu : anyU tb j m = cnt tb j := by rw [hne]; rfl
      have hv : us[j]? = some us[j] := List.getElem?_eq_getElem hjl
      have hdrop : us.drop j = us[j] :: us.drop (j + 1) := List.drop_eq_getElem_cons hjl
      have hs2 : subI .i64 (j : Int) 1 = (j : Int) - 1 := subI64 (by omega) (by omega)
      cases hc : cnt tb j
      · simp (disch := omega) [ltF, hcu, hc, -Int.natCast_add]
        refine callP_of (without_ok hG us tb j (by omega) (by omega) (by omega)) ?_
        simp (disch := omega) [FV, hs2]
        obtain ⟨k, hk'⟩ : ∃ k, us.length = k + 1 := ⟨us.length - 1, by omega⟩
        have hle : (us.eraseIdx j).length = k := by rw [List.length_eraseIdx_of_lt hjl]; omega
        have remL : (remT tb j).length = 2 ^ k := remT_len (by rw [htl, hk']) (by omega)
        have hsr := sem_rem hund htl hjl hc
        have hff : sem (us.eraseIdx j) (remT tb j) = sem us tb := funext hsr
        have hdr : (us.eraseIdx j).drop j = us.drop (j + 1) := by
          rw [List.eraseIdx_eq_take_drop_succ, List.drop_append_of_le_length (by rw [List.length_take]; omega), List.drop_take]; simp
        refine ⟨(us.eraseIdx j, remT tb j, .no, j), ?_⟩
        simp only [hle, remL, hff, hdr, hsr, hsem]
        refine ⟨by omega, ⟨by omega, (List.eraseIdx_sublist us j).trans hsub, trivial, fun n => .inl rfl, fun p => trivial, hdep⟩, ?_, ?_⟩
        · simp [keep_cl]
        · simp [trunc]
      · simp (disch := omega) [ltF, hcu, hc, hs2, -Int.natCast_add]
        refine ⟨(us, tb, tk, j), ?_⟩
        refine ⟨by simp, ⟨by simp; omega, hsub, htl, htk, hsem, fun v hv' => ?_⟩, ?_, ?_⟩
        · simp only [hdrop, List.mem_cons] at hv'
          rcases hv' with e | e
          · subst e; exact (cnt_iff hund htl hv).1 hc
          · exact hdep v e
        · simp [keep_cl]
        · simp [trunc, htk5]
end Go.Ev
