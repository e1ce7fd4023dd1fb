/- What the functions of bits compute: Do, Eval, Apart. -/
import Derived.Test.YtnlhnffijidioaaDoorBitsE
namespace Go.Ev
open Go Go.RowKit
variable {G : Tbl}
set_option maxRecDepth 10000
set_option maxHeartbeats 2000000
set_option linter.unusedSimpArgs false
set_option linter.unusedVariables false

theorem sem_lt {vs : List Int} {tab : List Nat} (h : ∀ w ∈ tab, w < 4294967296) (p : Int → Bool) : sem vs tab p < 4294967296 := by
  simp only [sem, List.getD_eq_getElem?_getD]
  cases hq : tab[idx vs p]? with
  | none => simp
  | some w => exact h w (List.mem_of_getElem? hq)

theorem tell_ok (hG : HasBits G) (kind : Int) (fv gv vs : List Int) (ft gt : List Nat) (b3 b5 b6 : Option Blk) (x : V) (n : Nat)
    (hf : ft.length = 2 ^ fv.length) (hg : gt.length = 2 ^ gv.length) (hft : ∀ w ∈ ft, w < 4294967296) (hgt : ∀ w ∈ gt, w < 4294967296)
    (hfs : fv.Sublist vs) (hgs : gv.Sublist vs) (hnd : vs.Nodup) (hv : vs.length ≤ 30) (hn : n < 2 ^ 31)
    (H : Heap) (hH : H = [some (.cells [.int .i64 kind]), some (.cells [.vs (ints .i64 fv) .no, .vs (nats .u32 ft) .no]), some (.cells [.vs (ints .i64 gv) .no, .vs (nats .u32 gt) .no]), b3, some (.cells [.vs (ints .i64 vs) .no, x]), b5, b6]) :
    Big G (.F 108 [.int .i64 n, .ptr 0 0, .ptr 1 0, .ptr 4 0, .ptr 2 0] H (.int .u32 ((doW kind (sem fv ft (say vs n)) (sem gv gt (say vs n))).1 : Nat)) H) := by
  subst hH
  refine F_of hG.h_bits_Do_1 (Nat.le_of_ble_eq_true rfl) ?_
  simp
  refine callP_of (at_ok hG fv ft vs n hf hfs hnd hv hn) ?_
  simp
  refine callP_of (at_ok hG gv gt vs n hg hgs hnd hv hn) ?_
  simp
  refine callP_of (doW_ok hG.toHasWd kind _ _ (sem_lt hft _) (sem_lt hgt _)) ?_
  simp

/-- Which forms something can be done with. -/
def DoOk (kind : Int) (fv gv : List Int) (ft gt : List Nat) : Prop := (kind = 68 ∨ kind = 84 ∨ kind = 164) ∧ Right fv ft ∧ Right gv gt ∧ (mer fv gv).length ≤ 4
theorem doW_lt {kind : Int} {a b : Nat} (h : kind = 68 ∨ kind = 84 ∨ kind = 164) (ha : a < 4294967296) (hb : b < 4294967296) : (doW kind a b).1 < 4294967296 := by
  rcases h with rfl | rfl | rfl <;> simp [doW]
  · exact Nat.or_lt_two_pow (n := 32) ha hb
  · exact Nat.and_lt_two_pow (n := 32) _ hb
  · exact Nat.xor_lt_two_pow (n := 32) ha hb

theorem Do_ok (hG : HasBits G) (kind : Int) (fv gv : List Int) (ft gt : List Nat) (hfl : fv.length ≤ 9223372036854775807) (hgl : gv.length ≤ 9223372036854775807) (hfl' : ft.length ≤ 9223372036854775807) (hgl' : gt.length ≤ 9223372036854775807)
    (hft : ∀ w ∈ ft, w < 4294967296) (hgt : ∀ w ∈ gt, w < 4294967296) :
    ∃ r, FP G 109 [.int .i64 kind, FV fv ft, FV gv gt] r ∧
      ((¬ DoOk kind fv gv ft gt ∧ r = .tup [FV [] [], .bool false]) ∨
       (DoOk kind fv gv ft gt ∧ ∃ vs tab, r = .tup [FV vs tab, .bool true] ∧ Right vs tab ∧ (∀ w ∈ tab, w < 4294967296) ∧ ∀ p, sem vs tab p = (doW kind (sem fv ft p) (sem gv gt p)).1)) := by
  refine FPx_of hG.h_bits_Do (Nat.le_of_ble_eq_true rfl) ?_
  simp [FV]
  by_cases hk : kind = 68 ∨ kind = 84 ∨ kind = 164
  case neg =>
    have h1 : kind ≠ 68 := fun e => hk (.inl e)
    have h2 : kind ≠ 84 := fun e => hk (.inr (.inl e))
    have h3 : kind ≠ 164 := fun e => hk (.inr (.inr e))
    simp [h1, h2, h3, bneT, DoOk, FV]
  have bad : ∀ b : Bool, rightB fv ft = b → True := fun _ _ => trivial
  cases hrf : rightB fv ft
  · have hnr : ¬ Right fv ft := fun h => by rw [rightB_iff.2 h] at hrf; cases hrf
    rcases hk with rfl | rfl | rfl <;> (simp; refine callP_of (Right_ok hG fv ft hfl hfl') ?_; simp [hrf, DoOk, hnr, FV])
  cases hrg : rightB gv gt
  · have hnr : ¬ Right gv gt := fun h => by rw [rightB_iff.2 h] at hrg; cases hrg
    rcases hk with rfl | rfl | rfl <;> (simp; refine callP_of (Right_ok hG fv ft hfl hfl') ?_; simp [hrf]; refine callP_of (Right_ok hG gv gt hgl hgl') ?_; simp [hrg, DoOk, hnr, FV])
  have Rf := rightB_iff.1 hrf
  have Rg := rightB_iff.1 hrg
  have hml := mer_len fv gv
  have h4f := Rf.1
  have h4g := Rg.1
  by_cases hm : (mer fv gv).length ≤ 4
  case neg =>
    rcases hk with rfl | rfl | rfl <;> (simp; refine callP_of (Right_ok hG fv ft hfl hfl') ?_; simp [hrf]; refine callP_of (Right_ok hG gv gt hgl hgl') ?_; simp [hrg]
                                        refine callP_of (union_ok hG fv gv (by omega)) ?_; simp (disch := omega) [ltT, DoOk, hm, FV])
  have hup := mer_up fv gv Rf.up Rg.up
  have hnd := hup.nodup
  have hfs : fv.Sublist (mer fv gv) := up_sub Rf.up hup fun v hv => (mem_mer _ _).2 (.inl hv)
  have hgs : gv.Sublist (mer fv gv) := up_sub Rg.up hup fun v hv => (mem_mer _ _).2 (.inr hv)
  have hok : DoOk kind fv gv ft gt := ⟨hk, Rf, Rg, hm⟩
  have h16 : 2 ^ (mer fv gv).length ≤ 16 := by rw [show 16 = 2 ^ 4 from rfl]; exact Nat.pow_le_pow_right (by decide) hm
  obtain ⟨vs', tab', hp, hsub, htl, hsem, hdep⟩ := plain_ok hG (mer fv gv) ((List.range (2 ^ (mer fv gv).length)).map fun n => (doW kind (sem fv ft (say (mer fv gv) n)) (sem gv gt (say (mer fv gv) n))).1) (by simp) hm hnd
  have hval : ∀ p, sem vs' tab' p = (doW kind (sem fv ft p) (sem gv gt p)).1 := fun p => by
    rw [hsem]
    have hlt := idx_lt (mer fv gv) p
    have e1 : sem fv ft (say (mer fv gv) (idx (mer fv gv) p)) = sem fv ft p := sem_ext fun v hv => say_idx ((mem_mer _ _).2 (.inl hv)) p
    have e2 : sem gv gt (say (mer fv gv) (idx (mer fv gv) p)) = sem gv gt p := sem_ext fun v hv => say_idx ((mem_mer _ _).2 (.inr hv)) p
    rw [sem]
    simp [List.getD_eq_getElem?_getD, hlt, e1, e2]
  have hup' : Up vs' := hup.sublist hsub
  have hR : Right vs' tab' := by
    refine Right.of (Nat.le_trans hsub.length_le hm) htl hup' (fun v hv => ?_) hdep
    rcases (mem_mer _ _).1 (hsub.subset hv) with h | h
    · exact Rf.mem h
    · exact Rg.mem h
  have hw : ∀ w ∈ tab', w < 4294967296 := fun w hw => by
    obtain ⟨n, hn, rfl⟩ := List.mem_iff_getElem.1 hw
    rw [tab_get hup'.nodup htl hn, hval]
    exact doW_lt hk (sem_lt hft _) (sem_lt hgt _)
  have fin : DoOk kind fv gv ft gt ∧ ∃ vs tab, V.tup [FV vs' tab', .bool true] = .tup [FV vs tab, .bool true] ∧ Right vs tab ∧ (∀ w ∈ tab, w < 4294967296) ∧ ∀ p, sem vs tab p = (doW kind (sem fv ft p) (sem gv gt p)).1 :=
    ⟨hok, vs', tab', rfl, hR, hw, hval⟩
  rcases hk with rfl | rfl | rfl
  · simp; refine callP_of (Right_ok hG fv ft hfl hfl') ?_; simp [hrf]; refine callP_of (Right_ok hG gv gt hgl hgl') ?_; simp [hrg]
    refine callP_of (union_ok hG fv gv (by omega)) ?_
    simp (disch := omega) [ltT, ltF, shl1, -Int.natCast_pow]
    refine W_up (2 ^ (mer fv gv).length) (fun n => [(6, .ptr 3 0), (8, .ptr 4 0), (9, .fn 108 [.ptr 0 0, .ptr 1 0, .ptr 4 0, .ptr 2 0]), (47, .int .i64 (2 ^ (mer fv gv).length : Nat)), (48, .int .i64 n)])
      (fun n => [some (.cells [.int .i64 68]), some (.cells [.vs (ints .i64 fv) .no, .vs (nats .u32 ft) .no]), some (.cells [.vs (ints .i64 gv) .no, .vs (nats .u32 gt) .no]), some (.cells [.vs [] .full, .vs [] .full]),
        some (.cells [.vs (ints .i64 (mer fv gv)) .no, .vs (nats .u32 ((List.range n).map fun n => (doW 68 (sem fv ft (say (mer fv gv) n)) (sem gv gt (say (mer fv gv) n))).1)) (.own 5)]), some (.zone n)])
      (fun _ => True) ?_ ?_
    · simp [keep_cl, trunc, -Int.natCast_pow]
    intro n hn _
    by_cases hlt : n < 2 ^ (mer fv gv).length
    · simp (disch := omega) [ltT, -Int.natCast_pow, -Int.natCast_add]
      refine callV_of (tell_ok hG 68 fv gv (mer fv gv) ft gt _ _ _ _ n Rf.2.1 Rg.2.1 hft hgt hfs hgs hnd (by omega) (by omega) _ rfl) (by simp [trunc]) ?_
      simp (disch := omega) [leTn, add1', trunc, keep_cl, hlt, List.range_succ, -Int.natCast_pow, -Int.natCast_add]
    · have hne : n = 2 ^ (mer fv gv).length := by omega
      subst hne
      simp (disch := omega) [ltF, -Int.natCast_pow]
      refine callP_of hp ?_
      simp [FV]
      exact ⟨fin.1, vs', tab', ⟨rfl, rfl⟩, hR, hw, hval⟩
  · simp; refine callP_of (Right_ok hG fv ft hfl hfl') ?_; simp [hrf]; refine callP_of (Right_ok hG gv gt hgl hgl') ?_; simp [hrg]
    refine callP_of (union_ok hG fv gv (by omega)) ?_
    simp (disch := omega) [ltT, ltF, shl1, -Int.natCast_pow]
    refine W_up (2 ^ (mer fv gv).length) (fun n => [(6, .ptr 3 0), (8, .ptr 4 0), (9, .fn 108 [.ptr 0 0, .ptr 1 0, .ptr 4 0, .ptr 2 0]), (47, .int .i64 (2 ^ (mer fv gv).length : Nat)), (48, .int .i64 n)])
      (fun n => [some (.cells [.int .i64 84]), some (.cells [.vs (ints .i64 fv) .no, .vs (nats .u32 ft) .no]), some (.cells [.vs (ints .i64 gv) .no, .vs (nats .u32 gt) .no]), some (.cells [.vs [] .full, .vs [] .full]),
        some (.cells [.vs (ints .i64 (mer fv gv)) .no, .vs (nats .u32 ((List.range n).map fun n => (doW 84 (sem fv ft (say (mer fv gv) n)) (sem gv gt (say (mer fv gv) n))).1)) (.own 5)]), some (.zone n)])
      (fun _ => True) ?_ ?_
    · simp [keep_cl, trunc, -Int.natCast_pow]
    intro n hn _
    by_cases hlt : n < 2 ^ (mer fv gv).length
    · simp (disch := omega) [ltT, -Int.natCast_pow, -Int.natCast_add]
      refine callV_of (tell_ok hG 84 fv gv (mer fv gv) ft gt _ _ _ _ n Rf.2.1 Rg.2.1 hft hgt hfs hgs hnd (by omega) (by omega) _ rfl) (by simp [trunc]) ?_
      simp (disch := omega) [leTn, add1', trunc, keep_cl, hlt, List.range_succ, -Int.natCast_pow, -Int.natCast_add]
    · have hne : n = 2 ^ (mer fv gv).length := by omega
      subst hne
      simp (disch := omega) [ltF, -Int.natCast_pow]
      refine callP_of hp ?_
      simp [FV]
      exact ⟨fin.1, vs', tab', ⟨rfl, rfl⟩, hR, hw, hval⟩
  · simp; refine callP_of (Right_ok hG fv ft hfl hfl') ?_; simp [hrf]; refine callP_of (Right_ok hG gv gt hgl hgl') ?_; simp [hrg]
    refine callP_of (union_ok hG fv gv (by omega)) ?_
    simp (disch := omega) [ltT, ltF, shl1, -Int.natCast_pow]
    refine W_up (2 ^ (mer fv gv).length) (fun n => [(6, .ptr 3 0), (8, .ptr 4 0), (9, .fn 108 [.ptr 0 0, .ptr 1 0, .ptr 4 0, .ptr 2 0]), (47, .int .i64 (2 ^ (mer fv gv).length : Nat)), (48, .int .i64 n)])
      (fun n => [some (.cells [.int .i64 164]), some (.cells [.vs (ints .i64 fv) .no, .vs (nats .u32 ft) .no]), some (.cells [.vs (ints .i64 gv) .no, .vs (nats .u32 gt) .no]), some (.cells [.vs [] .full, .vs [] .full]),
        some (.cells [.vs (ints .i64 (mer fv gv)) .no, .vs (nats .u32 ((List.range n).map fun n => (doW 164 (sem fv ft (say (mer fv gv) n)) (sem gv gt (say (mer fv gv) n))).1)) (.own 5)]), some (.zone n)])
      (fun _ => True) ?_ ?_
    · simp [keep_cl, trunc, -Int.natCast_pow]
    intro n hn _
    by_cases hlt : n < 2 ^ (mer fv gv).length
    · simp (disch := omega) [ltT, -Int.natCast_pow, -Int.natCast_add]
      refine callV_of (tell_ok hG 164 fv gv (mer fv gv) ft gt _ _ _ _ n Rf.2.1 Rg.2.1 hft hgt hfs hgs hnd (by omega) (by omega) _ rfl) (by simp [trunc]) ?_
      simp (disch := omega) [leTn, add1', trunc, keep_cl, hlt, List.range_succ, -Int.natCast_pow, -Int.natCast_add]
    · have hne : n = 2 ^ (mer fv gv).length := by omega
      subst hne
      simp (disch := omega) [ltF, -Int.natCast_pow]
      refine callP_of hp ?_
      simp [FV]
      exact ⟨fin.1, vs', tab', ⟨rfl, rfl⟩, hR, hw, hval⟩

/-- A row of numbers as an assignment. -/
def asg (r : List Nat) : Int → Nat := fun v => r.getD v.toNat 0
theorem and_bit (w i : Nat) : w &&& 2 ^ i = 2 ^ i * (w.testBit i).toNat := by
  refine Nat.eq_of_testBit_eq fun j => ?_
  rw [Nat.testBit_and, Nat.testBit_two_pow, Nat.testBit_two_pow_mul]
  by_cases h : i = j
  · subst h; cases w.testBit i <;> simp
  · by_cases h2 : i ≤ j
    · have : (w.testBit i).toNat < 2 ^ (j - i) := Nat.lt_of_lt_of_le (by cases w.testBit i <;> simp : (w.testBit i).toNat < 2 ^ 1) (Nat.pow_le_pow_right (by decide) (by omega))
      rw [Nat.testBit_lt_two_pow this]; simp [h]
    · simp [h, h2]
theorem and1w {b : Nat} (hb : b < 4294967296) : andI .u32 (b : Int) 1 = ((b % 2 : Nat) : Int) := by
  have := and32 (a := b) (b := 1) hb (by decide)
  rw [show ((1 : Nat) : Int) = 1 from rfl] at this
  rw [this, show (1 : Nat) = 2 ^ 1 - 1 from rfl, Nat.and_two_pow_sub_one_eq_mod]
theorem conv64 {b : Nat} (hb : b < 9223372036854775808) : convI .i64 (b : Int) = (b : Int) := wrap_nat64 hb
theorem shl1w {i : Nat} (hi : i < 32) : shlI .u32 1 (i : Int) = ((2 ^ i : Nat) : Int) := by
  have := shl32 (a := 1) (j := i) (by omega)
  rw [Nat.one_mul, Nat.mod_eq_of_lt (show 2 ^ i < 4294967296 from Nat.pow_lt_pow_right (a := 2) (n := 32) (by decide) hi)] at this
  exact this
theorem wordOf_step {f : Nat → Bool} {i : Nat} (w : Nat) (h : f i = w.testBit i) : wordOf f i ||| (w &&& 2 ^ i) = wordOf f (i + 1) := by
  rw [and_bit, wordOf, h, Nat.or_comm, ← Nat.two_pow_add_eq_or_of_lt (wordOf_lt f i)]; omega

theorem Eval_ok (hG : HasBits G) (vs : List Int) (tab : List Nat) (r : List Nat) (hl : vs.length ≤ 9223372036854775807) (hl' : tab.length ≤ 9223372036854775807)
    (ht : ∀ w ∈ tab, w < 4294967296) (hr : r.length = 34) (hrw : ∀ w ∈ r, w < 4294967296) :
    FP G 110 [FV vs tab, .agg (cnats .u32 r)] (.tup [.int .u32 (if rightB vs tab then (val vs tab (asg r) : Nat) else (0 : Nat)), .bool (rightB vs tab)]) := by
  refine FP_of hG.h_bits_Eval (Nat.le_of_ble_eq_true rfl) ?_
  simp [FV]
  refine callP_of (Right_ok hG vs tab hl hl') ?_
  cases hR : rightB vs tab
  · simp
  have R := rightB_iff.1 hR
  have h4 := R.1
  simp
  refine W_up 32 (fun i => [(2, .ptr 0 0), (3, .ptr 1 0), (6, .int .u32 (wordOf (fun i => (sem vs tab fun v => (asg r v).testBit i).testBit i) i : Nat)), (14, .int .i64 i)])
    (fun _ => [some (.cells [.vs (ints .i64 vs) .no, .vs (nats .u32 tab) .no]), some (.cells (cnats .u32 r))]) (fun _ => True) ?_ ?_
  · simp [keep_cl, trunc, wordOf]
  intro i hi _
  by_cases hlt : i < 32
  · simp (disch := omega) [ltT, -Int.natCast_add]
    refine W_up vs.length (fun j => [(2, .ptr 0 0), (3, .ptr 1 0), (6, .int .u32 (wordOf (fun i => (sem vs tab fun v => (asg r v).testBit i).testBit i) i : Nat)), (7, .int .i64 i), (8, .int .i64 (idx (vs.take j) (fun v => (asg r v).testBit i) : Nat)), (14, .int .i64 i), (18, .vs (ints .i64 vs) .no), (19, .int .i64 vs.length), (20, .int .i64 j)])
      (fun _ => [some (.cells [.vs (ints .i64 vs) .no, .vs (nats .u32 tab) .no]), some (.cells (cnats .u32 r))]) (fun _ => True) ?_ ?_
    · simp [keep_cl, trunc, idx]
    intro j hj _
    by_cases hjl : j < vs.length
    · have hm := R.mem (List.getElem_mem hjl)
      have hx : vs[j].toNat < r.length := by omega
      have hcell := cnats_get .u32 r vs[j].toNat hx
      have hrx := hrw _ (List.getElem_mem hx)
      have hd : r[vs[j].toNat] / 2 ^ i < 4294967296 := Nat.lt_of_le_of_lt (Nat.div_le_self _ _) hrx
      have hk : idx (vs.take j) (fun v => (asg r v).testBit i) < 2 ^ j := by have := idx_lt (vs.take j) (fun v => (asg r v).testBit i); rwa [List.length_take, Nat.min_eq_left (by omega)] at this
      have h30 : 2 ^ j ≤ 2 ^ 30 := Nat.pow_le_pow_right (by decide) (by omega)
      have h2 : r[vs[j].toNat] / 2 ^ i % 2 ≤ 1 := by omega
      have h3 : r[vs[j].toNat] / 2 ^ i % 2 * 2 ^ j ≤ 1 * 2 ^ j := Nat.mul_le_mul_right _ h2
      have h5 : idx (vs.take (j + 1)) (fun v => (asg r v).testBit i) = idx (vs.take j) (fun v => (asg r v).testBit i) ||| r[vs[j].toNat] / 2 ^ i % 2 * 2 ^ j := by
        rw [or_bit hk h2, List.take_add_one, idx_append, List.getElem?_eq_getElem hjl, List.length_take, Nat.min_eq_left (by omega), toNat_bit]
        have : asg r vs[j] = r[vs[j].toNat] := by simp [asg, List.getD_eq_getElem?_getD, hx]
        simp only [Option.toList_some, idx, this, Nat.mul_zero, Nat.add_zero]
      simp (disch := omega) [ltT, ltF, leT, get_in, leTn, hcell, shr32, and1w hd, conv64, shl64, or64, add1', keep_cl, trunc, hjl, h5, -Int.natCast_add, -Int.natCast_mul, -Int.natCast_pow, -Int.natCast_emod, -Int.natCast_ediv, -List.getElem?_drop]
    · have hne : j = vs.length := by omega
      subst hne
      have hk := idx_lt vs (fun v => (asg r v).testBit i)
      rw [← R.2.1] at hk
      have hw := ht _ (List.getElem_mem hk)
      have hp : 2 ^ i < 4294967296 := Nat.pow_lt_pow_right (a := 2) (n := 32) (by decide) hlt
      have hu : wordOf (fun i => (sem vs tab fun v => (asg r v).testBit i).testBit i) i < 4294967296 := Nat.lt_trans (wordOf_lt _ i) hp
      have ha : tab[idx vs (fun v => (asg r v).testBit i)] &&& 2 ^ i < 4294967296 := Nat.lt_of_le_of_lt Nat.and_le_left hw
      have hs : sem vs tab (fun v => (asg r v).testBit i) = tab[idx vs (fun v => (asg r v).testBit i)] := by simp [sem, List.getD_eq_getElem?_getD, hk]
      have hstep := wordOf_step (f := fun i => (sem vs tab fun v => (asg r v).testBit i).testBit i) (i := i) (tab[idx vs (fun v => (asg r v).testBit i)]) (by simp only [hs])
      simp (disch := omega) [ltF, leT, get_in, shl1w hlt, and32, or32, hstep, add1', keep_cl, trunc, hlt, -Int.natCast_add, -Int.natCast_pow]
  · have hne : i = 32 := by omega
    subst hne
    simp [val]

/-- A number of variables' words: all ones where it says so. -/
def asgn (vs : List Int) (p : Int → Bool) : List Nat := (List.range 34).map fun (i : Nat) => if (i : Int) ∈ vs ∧ p (i : Int) = true then 4294967295 else 0
theorem asgn_nil (p : Int → Bool) : asgn [] p = zeros 34 := by simp [asgn, zeros]; rfl
theorem asgn_step {vs : List Int} (hn : vs.Nodup) (p : Int → Bool) {j : Nat} (hj : j < vs.length) (h0 : 0 ≤ vs[j]) :
    asgn (vs.take (j + 1)) p = (asgn (vs.take j) p).set vs[j].toNat (if p vs[j] then 4294967295 else 0) := by
  refine List.ext_getElem (by simp [asgn]) fun i h1 h2 => ?_
  simp only [asgn, List.getElem_map, List.getElem_range, List.getElem_set]
  have hmem : vs.take (j + 1) = vs.take j ++ [vs[j]] := by rw [List.take_add_one, List.getElem?_eq_getElem hj]; rfl
  have e1 : ((i : Int) ∈ vs.take (j + 1)) ↔ ((i : Int) ∈ vs.take j ∨ (i : Int) = vs[j]) := by rw [hmem]; simp only [List.mem_append, List.mem_singleton]
  by_cases e : vs[j].toNat = i
  · rw [if_pos e]
    have : (i : Int) = vs[j] := by omega
    have hin := e1.2 (.inr this)
    rw [this] at hin
    simp only [this, hin, true_and]
  · rw [if_neg e]
    have : ¬ (i : Int) = vs[j] := by omega
    simp only [e1, this, or_false]
/-- The first number that tells two forms apart. -/
def firstD (fv gv : List Int) (ft gt : List Nat) : Option Nat := (List.range (2 ^ (mer fv gv).length)).find? fun n => sem fv ft (say (mer fv gv) n) != sem gv gt (say (mer fv gv) n)
noncomputable def apartF (fv gv : List Int) (ft gt : List Nat) : List Nat × Bool :=
  if rightB fv ft = true ∧ rightB gv gt = true then (match firstD fv gv ft gt with
    | some n => (asgn (mer fv gv) (say (mer fv gv) n), true)
    | none => (zeros 34, false)) else (zeros 34, false)
theorem Apart_ok (hG : HasBits G) (fv gv : List Int) (ft gt : List Nat) (hfl : fv.length ≤ 9223372036854775807) (hgl : gv.length ≤ 9223372036854775807) (hfl' : ft.length ≤ 9223372036854775807) (hgl' : gt.length ≤ 9223372036854775807)
    (hft : ∀ w ∈ ft, w < 4294967296) (hgt : ∀ w ∈ gt, w < 4294967296) :
    FP G 112 [FV fv ft, FV gv gt] (.tup [.agg (cnats .u32 (apartF fv gv ft gt).1), .bool (apartF fv gv ft gt).2]) := by
  refine FP_of hG.h_bits_Apart (Nat.le_of_ble_eq_true rfl) ?_
  simp [FV]
  refine callP_of (Right_ok hG fv ft hfl hfl') ?_
  cases hrf : rightB fv ft
  · simp [apartF, hrf]
  simp [-List.reduceReplicate]
  refine callP_of (Right_ok hG gv gt hgl hgl') ?_
  cases hrg : rightB gv gt
  · simp [apartF, hrf, hrg]
  have Rf := rightB_iff.1 hrf
  have Rg := rightB_iff.1 hrg
  have hml := mer_len fv gv
  have h4f := Rf.1
  have h4g := Rg.1
  simp [-List.reduceReplicate]
  refine callP_of (union_ok hG fv gv (by omega)) ?_
  have hup := mer_up fv gv Rf.up Rg.up
  have hnd := hup.nodup
  have hfs : fv.Sublist (mer fv gv) := up_sub Rf.up hup fun v hv => (mem_mer _ _).2 (.inl hv)
  have hgs : gv.Sublist (mer fv gv) := up_sub Rg.up hup fun v hv => (mem_mer _ _).2 (.inr hv)
  have h256 : 2 ^ (mer fv gv).length ≤ 256 := by rw [show 256 = 2 ^ 8 from rfl]; exact Nat.pow_le_pow_right (by decide) (by omega)
  have hm34 : ∀ v ∈ mer fv gv, 0 ≤ v ∧ v < 34 := fun v hv => by
    rcases (mem_mer _ _).1 hv with h | h
    · exact Rf.mem h
    · exact Rg.mem h
  generalize hM : mer fv gv = M at *
  simp (disch := omega) [ltT, ltF, shl1, -Int.natCast_pow]
  refine W_up (2 ^ M.length) (fun n => [(2, .ptr 0 0), (3, .ptr 1 0), (4, .ptr 2 0), (6, .ptr 3 0), (7, .vs (ints .i64 M) .no), (27, .int .i64 (2 ^ M.length : Nat)), (28, .int .i64 n)])
    (fun n => [some (.cells [.vs (ints .i64 fv) .no, .vs (nats .u32 ft) .no]), some (.cells [.vs (ints .i64 gv) .no, .vs (nats .u32 gt) .no]), some (.cells (cnats .u32 (zeros 34))), some (.cells (cnats .u32 (zeros 34)))])
    (fun n => ∀ m, m < n → sem fv ft (say M m) = sem gv gt (say M m)) ?_ ?_
  · simp [keep_cl, trunc, -Int.natCast_pow]
  intro n hn hall
  by_cases hlt : n < 2 ^ M.length
  · simp (disch := omega) [ltT, -Int.natCast_pow, -Int.natCast_add]
    refine callP_of (at_ok hG fv ft M n Rf.2.1 hfs hnd (by omega) (by omega)) ?_
    simp [-Int.natCast_pow, -Int.natCast_add]
    refine callP_of (at_ok hG gv gt M n Rg.2.1 hgs hnd (by omega) (by omega)) ?_
    by_cases he : sem fv ft (say M n) = sem gv gt (say M n)
    · simp (disch := omega) [he, add1', keep_cl, trunc, hlt, -Int.natCast_pow, -Int.natCast_add]
      intro m hm
      by_cases hmn : m = n
      · subst hmn; exact he
      · exact hall m (by omega)
    · have hfirst : firstD fv gv ft gt = some n := by
        rw [firstD, hM, List.find?_range_eq_some]
        exact ⟨by simpa using he, by simpa using hlt, fun m hm => by simpa using hall m hm⟩
      have hap : apartF fv gv ft gt = (asgn M (say M n), true) := by simp [apartF, hrf, hrg, hfirst, hM]
      simp (disch := omega) [he, beqF, keep_cl, trunc, -Int.natCast_pow, -Int.natCast_add]
      refine W_up M.length (fun j => [(4, .ptr 2 0), (6, .ptr 3 0), (8, .int .i64 n), (40, .vs (ints .i64 M) .no), (41, .int .i64 M.length), (42, .int .i64 j)])
        (fun j => [some (.cells [.vs (ints .i64 fv) .no, .vs (nats .u32 ft) .no]), some (.cells [.vs (ints .i64 gv) .no, .vs (nats .u32 gt) .no]), some (.cells (cnats .u32 (zeros 34))), some (.cells (cnats .u32 (asgn (M.take j) (say M n))))])
        (fun j => True) ?_ ?_
      · simp [keep_cl, trunc, asgn_nil]
      intro j hj _
      by_cases hjl : j < M.length
      · have hm := hm34 _ (List.getElem_mem hjl)
        have hlen : (asgn (M.take j) (say M n)).length = 34 := by simp [asgn]
        have hset := cnats_set .u32 (asgn (M.take j) (say M n)) M[j].toNat
        have hb : n / 2 ^ j < 9223372036854775808 := Nat.lt_of_le_of_lt (Nat.div_le_self _ _) (by omega)
        have hstep := asgn_step hnd (say M n) hjl hm.1
        have hsay : say M n M[j] = n.testBit j := by simp only [say]; rw [List.Nodup.idxOf_getElem hnd]
        rw [hsay] at hstep
        have hbit := toNat_bit n j
        cases hbb : n.testBit j
        · rw [hbb] at hstep hbit
          have hs0 := hset 0 (by omega)
          have hmc : mulI .u32 4294967295 (convI .u32 0) = 0 := by decide
          simp (disch := omega) [ltT, ltF, leT, get_in, shr64, and1 hb, hbit, add1', keep_cl, trunc, hjl, hstep, leTn, hlen, hmc, hs0, -Int.natCast_pow, -Int.natCast_add, -Int.natCast_ediv, -Int.natCast_emod]
          have h3 : clL 4 ((cnats .u32 (asgn (M.take j) (say M n))).take M[j].toNat ++ V.int .u32 0 :: (cnats .u32 (asgn (M.take j) (say M n))).drop (M[j].toNat + 1)) = cnats .u32 ((asgn (M.take j) (say M n)).set M[j].toNat 0) := (congrArg (clL 4) hs0).trans (cnats_cl 4 _ _)
          exact h3
        · rw [hbb] at hstep hbit
          have hs0 := hset 4294967295 (by omega)
          have hmc : mulI .u32 4294967295 (convI .u32 1) = 4294967295 := by decide
          simp (disch := omega) [ltT, ltF, leT, get_in, shr64, and1 hb, hbit, add1', keep_cl, trunc, hjl, hstep, leTn, hlen, hmc, hs0, -Int.natCast_pow, -Int.natCast_add, -Int.natCast_ediv, -Int.natCast_emod]
          have h3 : clL 4 ((cnats .u32 (asgn (M.take j) (say M n))).take M[j].toNat ++ V.int .u32 4294967295 :: (cnats .u32 (asgn (M.take j) (say M n))).drop (M[j].toNat + 1)) = cnats .u32 ((asgn (M.take j) (say M n)).set M[j].toNat 4294967295) := (congrArg (clL 4) hs0).trans (cnats_cl 4 _ _)
          exact h3
      · have hne : j = M.length := by omega
        subst hne
        have hl34 : (asgn M (say M n)).length = 34 := by simp [asgn]
        simp (disch := omega) [ltF, hap, hl34, take_full hl34, drop_full hl34]
  · have hne : n = 2 ^ M.length := by omega
    subst hne
    have hfirst : firstD fv gv ft gt = none := by
      rw [firstD, hM, List.find?_range_eq_none]
      exact fun m hm => by simpa using hall m hm
    have hap : apartF fv gv ft gt = (zeros 34, false) := by simp [apartF, hrf, hrg, hfirst]
    simp (disch := omega) [ltF, hap, -Int.natCast_pow]
end Go.Ev
