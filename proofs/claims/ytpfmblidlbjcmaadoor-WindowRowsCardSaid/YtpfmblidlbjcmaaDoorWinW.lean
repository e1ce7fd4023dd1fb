/- Windows that are run, and their variables' numbers: plain. -/
import Derived.Test.YtpfmblidlbjcmaaDoorRunW
import Derived.Test.YtpfmblidlbjcmaaDoorWinA
import Derived.Test.YtpfmblidlbjcmaaDoorEvSplC
import Derived.Test.YtpfmblidlbjcmaaDoorEvLaw17C
namespace Go.Ev
open Go Go.RowKit
variable {G : Tbl}
set_option maxRecDepth 10000
set_option maxHeartbeats 2000000
set_option linter.unusedSimpArgs false
set_option linter.unusedVariables false

/-- A window, run: the state, and how many instructions were done. -/
def runW (d : Da) : List In4 → St → St × Nat
  | [], s => (s, 0)
  | x :: w, s => if (stepS s x d).2 then ((runW d w (stepS s x d).1).1, (runW d w (stepS s x d).1).2 + 1) else (s, 0)
theorem runW_le (d : Da) : ∀ (w : List In4) (s : St), (runW d w s).2 ≤ w.length
  | [], s => Nat.zero_le _
  | x :: w, s => by
    have := runW_le d w (stepS s x d).1
    simp only [runW, List.length_cons]
    split
    · simp only; omega
    · simp
theorem runW_ok {d : Da} (hd : d.ok) : ∀ (w : List In4) (s : St), s.ok → (∀ x ∈ w, x.k < 4294967296) → (runW d w s).1.ok
  | [], s, hs, _ => hs
  | x :: w, s, hs, hk => by
    have := runW_ok hd w (stepS s x d).1 (stepS_ok' hs (hk x (by simp)) hd) (fun y hy => hk y (by simp [hy]))
    simp only [runW]
    split
    · exact this
    · exact hs
theorem runW_append (d : Da) (v : List In4) : ∀ (w : List In4) (s : St), runW d (w ++ v) s = if (runW d w s).2 < w.length then runW d w s else ((runW d v (runW d w s).1).1, (runW d w s).2 + (runW d v (runW d w s).1).2)
  | [], s => by simp [runW]
  | x :: w, s => by
    have ih := runW_append d v w (stepS s x d).1
    simp only [List.cons_append, runW, List.length_cons]
    by_cases hg : (stepS s x d).2 = true
    case neg => simp [hg]
    case pos =>
      simp only [hg, if_true]
      rw [ih]
      by_cases h : (runW d w (stepS s x d).1).2 < w.length
      · rw [if_pos h, if_pos (by omega)]
      · rw [if_neg h, if_neg (by omega)]
        simp only [Prod.mk.injEq, true_and]
        omega
theorem winB_append {w v : List In4} (h : winB (w ++ v) = true) : winB w = true ∧ winB v = true := by
  simp only [winB, Bool.and_eq_true, decide_eq_true_eq, List.length_append, List.all_append] at h ⊢
  exact ⟨⟨by omega, h.2.1⟩, ⟨by omega, h.2.2⟩⟩
theorem winB_nil : winB [] = true := by simp [winB]

/-- The variables' numbers. -/
def asgL (s : St) (d : Da) : List Nat := s.a :: s.x :: (s.m ++ wordsD d)
def stO (v : List Nat) : St := ⟨v.getD 0 0, v.getD 1 0, (v.drop 2).take 16⟩
theorem asgL_len {s : St} {d : Da} (hs : s.ok) (hd : d.ok) : (asgL s d).length = 34 := by
  simp [asgL, hs.2.2.1, wordsD_len hd.2.2.2.1]
theorem asgL_lt {s : St} {d : Da} (hs : s.ok) (hd : d.ok) : ∀ x ∈ asgL s d, x < 4294967296 := by
  intro x hx
  simp only [asgL, List.mem_cons, List.mem_append] at hx
  rcases hx with rfl | rfl | hx | hx
  · exact hs.1
  · exact hs.2.1
  · exact hs.2.2.2 x hx
  · exact wordsD_lt hd x hx
theorem stO_asgL {s : St} {d : Da} (hs : s.ok) : stO (asgL s d) = s := by
  simp only [stO, asgL, List.getD_cons_zero, List.getD_cons_succ, List.drop_succ_cons, List.drop_zero]
  rw [List.take_left' hs.2.2.1]
theorem ofW_words {d : Da} (hd : d.ok) : ofW (wordsD d) = d := by
  obtain ⟨nr, ar, ip, as⟩ := d
  obtain ⟨h1, h2, h3, h4, h5⟩ := hd
  simp only at h1 h2 h3 h4 h5
  match as, h4 with
  | [a0, a1, a2, a3, a4, a5], _ =>
    simp only [List.mem_cons, List.not_mem_nil, or_false, forall_eq_or_imp, forall_eq] at h5
    simp only [wordsD, ofW, two, lo, hi, List.range_succ, List.range_zero, List.nil_append, List.map_append, List.map_cons, List.map_nil, List.cons_append, List.flatMap_cons, List.flatMap_nil, List.getD_cons_zero, List.getD_cons_succ, Nat.mul_zero, Nat.mul_one, Nat.reduceMul, Nat.reduceAdd, List.cons.injEq, and_true, Da.mk.injEq, true_and]
    and_intros <;> omega
/-- The record of the last numbers, as it is put together. -/
def wAt (v : List Nat) (i : Nat) : List Nat := (v.drop 18).take i ++ zeros (16 - i)
theorem wAt_len {v : List Nat} (hl : v.length = 34) {i : Nat} (hi : i ≤ 16) : (wAt v i).length = 16 := by
  simp [wAt, hl]; omega
theorem wAt_lt {v : List Nat} (hv : ∀ x ∈ v, x < 4294967296) (i : Nat) : ∀ x ∈ wAt v i, x < 4294967296 := by
  intro x hx
  simp only [wAt, List.mem_append, zeros, List.mem_replicate] at hx
  rcases hx with hx | hx
  · exact hv x (List.mem_of_mem_drop (List.mem_of_mem_take hx))
  · omega
theorem wAt_set {v : List Nat} (hl : v.length = 34) {i : Nat} (hi : i < 16) : (wAt v i).set i (v[18 + i]'(by omega)) = wAt v (i + 1) := by
  apply List.ext_getElem?
  intro j
  have hg : ∀ i, i ≤ 16 → ∀ j, (wAt v i)[j]? = if j < i then v[18 + j]? else if j < 16 then some 0 else none := by
    intro i hi j
    rw [wAt, List.getElem?_append, List.length_take, List.length_drop, hl, List.getElem?_take, List.getElem?_drop]
    by_cases h1 : j < i
    · rw [if_pos (by omega), if_pos h1, if_pos h1]
    · rw [if_neg (by omega), if_neg h1]
      by_cases h2 : j < 16
      · rw [if_pos h2]; simp [zeros, List.getElem?_replicate]; omega
      · rw [if_neg h2]; simp [zeros, List.getElem?_replicate]; omega
  rw [List.getElem?_set, wAt_len hl (by omega), hg i (by omega), hg (i + 1) (by omega)]
  by_cases e : i = j
  · subst e
    rw [if_pos rfl, if_pos hi, if_pos (by omega), List.getElem?_eq_getElem (by omega)]
  · rw [if_neg e]
    by_cases h1 : j < i
    · rw [if_pos h1, if_pos (by omega)]
    · rw [if_neg h1]
      by_cases h2 : j < i + 1
      · omega
      · rw [if_neg h2]
theorem with_wAt {v : List Nat} (hl : v.length = 34) (hv : ∀ x ∈ v, x < 4294967296) {i : Nat} (hi : i < 16) : withS (ofW (wAt v i)) (4 * i) (v[18 + i]'(by omega)) = ofW (wAt v (i + 1)) := by
  rw [withS, if_pos ⟨by omega, by omega⟩, words_of (wAt_len hl (by omega)) (wAt_lt hv i), show 4 * i / 4 = i by omega, wAt_set hl hi]
theorem wAt_16 {v : List Nat} (hl : v.length = 34) : wAt v 16 = v.drop 18 := by
  rw [wAt, show zeros (16 - 16) = [] from rfl, List.append_nil, List.take_of_length_le (by simp [hl])]
theorem wAt_0 (v : List Nat) : wAt v 0 = zeros 16 := by simp [wAt]
theorem asgL_drop {s : St} {d : Da} (hs : s.ok) : (asgL s d).drop 18 = wordsD d := by
  simp only [asgL, List.drop_succ_cons]
  rw [List.drop_left' hs.2.2.1]
theorem stO_ok {v : List Nat} (hl : v.length = 34) (hv : ∀ x ∈ v, x < 4294967296) : (stO v).ok := by
  have hg : ∀ i, v.getD i 0 < 4294967296 := by
    intro i
    rw [List.getD]
    cases h : v[i]? with
    | none => decide
    | some z => exact hv z (List.mem_of_getElem? h)
  exact ⟨hg 0, hg 1, by simp [stO, hl], fun x hx => hv x (List.mem_of_mem_drop (List.mem_of_mem_take hx))⟩
theorem asgL_back {v : List Nat} (hl : v.length = 34) (hv : ∀ x ∈ v, x < 4294967296) : asgL (stO v) (ofW (v.drop 18)) = v := by
  rw [asgL, words_of (by simp [hl]) (fun x hx => hv x (List.mem_of_mem_drop hx))]
  match v, hl with
  | a :: b :: t, hl =>
    simp only [stO, List.getD_cons_zero, List.getD_cons_succ, List.drop_succ_cons, List.drop_zero, List.cons.injEq, true_and]
    rw [List.take_append_drop]
end Go.Ev

/- Windows that are run, by window and by hurdleref17; the laws WindowRuns, WindowRows, WindowNone. -/
namespace Go.Ev
open Go Go.RowKit
variable {G : Tbl}
set_option maxRecDepth 10000
set_option maxHeartbeats 4000000
set_option linter.unusedSimpArgs false
set_option linter.unusedVariables false

theorem WinRun_no [HasIns G] [HasCheck G] [HasWRight G] [HasWinRun G] (w : List In4) (s : St) (d : Da) (hf : w.length ≤ maxLen) (hk : ∀ x ∈ w, x.k < 4294967296) (hl : s.m.length = 16) (hw : winB w = false) :
    FP G 292 [FL w, SV s, DV d] (.tup [SV s, .int .i64 0]) := by
  refine FP_of HasWinRun.h_window_Run (Nat.le_of_ble_eq_true rfl) ?_
  have hr := WRight_ok (G := G) w hf hk
  rw [hw] at hr
  have htk := take_full (k := .u32) hl
  simp [FL] at hr
  simp [FL, SV, DV, St.cs, Da.cs]
  refine callP_of hr ?_
  simp [hl, htk]

theorem WinRun_ok [HasWd G] [HasNeg G] [HasIns G] [HasCheck G] [HasData G] [HasStep G] [HasWRight G] [HasWinRun G] (w : List In4) (s : St) (d : Da) (hf : w.length ≤ maxLen) (hk : ∀ x ∈ w, x.k < 4294967296) (hs : s.ok) (hd : d.ok) (hw : winB w = true) :
    FP G 292 [FL w, SV s, DV d] (.tup [SV (runW d w s).1, .int .i64 ((runW d w s).2 : Nat)]) := by
  refine FP_of HasWinRun.h_window_Run (Nat.le_of_ble_eq_true rfl) ?_
  have hr := WRight_ok (G := G) w hf hk
  rw [hw] at hr
  have hwl : w.length ≤ 32 := by simp only [winB, Bool.and_eq_true, decide_eq_true_eq] at hw; exact hw.1
  have hl := hs.2.2.1
  have htk := take_full (k := .u32) hl
  have h6 := hd.2.2.2.1
  have ht6 := take_full (k := .u64) h6
  obtain ⟨R, hR⟩ : ∃ R, R = runW d w s := ⟨_, rfl⟩
  have hRl := runW_le d w s
  have hRo := runW_ok hd w s hs hk
  rw [← hR] at hRl hRo ⊢
  simp [FL] at hr
  simp [FL, SV, DV, St.cs, Da.cs]
  refine callP_of hr ?_
  simp [hl, htk]
  refine W_state (fun z : St × Nat => w.length - z.2) (fun z => [(0, FL w), (4, .ptr 0 0), (5, .ptr 1 0), (6, .ptr 2 0), (16, FL w), (17, .int .i64 w.length), (18, .int .i64 z.2)])
    (fun z => [some (.cells z.1.cs), some (.cells d.cs), some (.cells (cnats .u32 (zeros 18)))])
    (fun z => z.2 ≤ w.length ∧ z.1.ok ∧ (runW d (w.drop z.2) z.1).1 = R.1 ∧ z.2 + (runW d (w.drop z.2) z.1).2 = R.2) (s, 0) ?_ ?_
  · refine ⟨⟨Nat.zero_le _, hs, by simp [hR], by simp [hR]⟩, ?_, ?_⟩
    · simp [keep_cl, FL]
    · simp [trunc, Da.cs, St.cs]
  rintro ⟨t, i⟩ ⟨hi, ht, hr1, hr2⟩
  simp only at hi ht hr1 hr2
  have hl1 := ht.2.2.1
  have htk1 := take_full (k := .u32) hl1
  by_cases hlt : i < w.length
  · obtain ⟨x, hfx⟩ : ∃ x, x = w[i] := ⟨_, rfl⟩
    have hg : w[i]? = some x := by rw [List.getElem?_eq_getElem hlt, hfx]
    have hgv := hfx.symm
    have hdr := List.drop_eq_getElem_cons hlt
    rw [hgv] at hdr
    have hkk := hk x (hgv ▸ List.getElem_mem hlt)
    have hcs : x.cs = [.int .i64 x.op, .int .i64 x.jt, .int .i64 x.jf, .int .u32 (x.k : Int)] := rfl
    have hst := Step_ok (G := G) t x d ht hkk hd
    have hso := stepS_ok' ht hkk hd
    have hl2 := hso.2.2.1
    have htk2 := take_full (k := .u32) hl2
    have hdf := drop_full (k := .u32) hl1
    have hz16 : cnats .u32 (zeros 18) = .int .u32 0 :: .int .u32 0 :: cnats .u32 (zeros 16) := rfl
    rw [hdr] at hr1 hr2
    simp only [runW] at hr1 hr2
    simp [SV, IV, DV, hcs, St.cs, Da.cs] at hst
    simp (disch := omega) [ltT, FL, hg, hgv, hcs, St.cs, Da.cs, hl1, htk1, h6, ht6, -Int.natCast_add]
    refine callP_of hst ?_
    cases hok : (stepS t x d).2
    · rw [hok] at hr1 hr2
      simp only [Bool.false_eq_true, if_false] at hr1 hr2
      simp [hl1, htk1, hl2, htk2, hdf, hz16, -Int.natCast_add]
      rw [← hr1, ← hr2]
      simp [St.cs]
    · rw [hok] at hr1 hr2
      simp only [if_true] at hr1 hr2
      simp (disch := omega) [hl1, htk1, hl2, htk2, hdf, add1', -Int.natCast_add]
      refine ⟨((stepS t x d).1, i + 1), by simp only; omega, ⟨by simp only; omega, hso, hr1, by simp only; omega⟩, ?_, ?_⟩
      · simp [keep_cl, FL, -Int.natCast_add]
      · simp [trunc, Da.cs, St.cs, hl1, htk1, hl2, htk2, hdf]
  · have hne : i = w.length := by omega
    subst hne
    rw [List.drop_length] at hr1 hr2
    simp only [runW] at hr1 hr2
    have hz16 : cnats .u32 (zeros 18) = .int .u32 0 :: .int .u32 0 :: cnats .u32 (zeros 16) := rfl
    simp [FL, St.cs, Da.cs, hl1, htk1, hz16]
    rw [← hr1, ← hr2]
    simp [St.cs]

theorem WinRunR_ok [HasR2 G] [hR1 : HasR1 G] [HasR1n G] [HasR4 G] [HasR6s G] [HasR17r G] (w : List In4) (s : St) (d : Da) (hf : w.length ≤ 1000000) (hk : ∀ x ∈ w, x.k < 4294967296) (hs : s.ok) (hd : d.ok) :
    FP G 297 [FL w, SV s, DV d] (.tup [SV (runW d w s).1, .int .i64 ((runW d w s).2 : Nat)]) := by
  refine FP_of HasR17r.h_hurdleref17_Run (Nat.le_of_ble_eq_true rfl) ?_
  have hl := hs.2.2.1
  have htk := take_full (k := .u32) hl
  have h6 := hd.2.2.2.1
  have ht6 := take_full (k := .u64) h6
  obtain ⟨R, hR⟩ : ∃ R, R = runW d w s := ⟨_, rfl⟩
  have hRl := runW_le d w s
  have hRo := runW_ok hd w s hs hk
  rw [← hR] at hRl hRo ⊢
  simp [FL, SV, DV, St.cs, Da.cs]
  refine W_state (fun z : St × Nat => w.length - z.2) (fun z => [(0, FL w), (4, .ptr 0 0), (5, .ptr 1 0), (6, .ptr 2 0), (8, .int .i64 z.2), (9, .int .i64 z.2)])
    (fun z => [some (.cells z.1.cs), some (.cells d.cs), some (.cells (cnats .u32 (zeros 18)))])
    (fun z => z.2 ≤ w.length ∧ z.1.ok ∧ (runW d (w.drop z.2) z.1).1 = R.1 ∧ z.2 + (runW d (w.drop z.2) z.1).2 = R.2) (s, 0) ?_ ?_
  · refine ⟨⟨Nat.zero_le _, hs, by simp [hR], by simp [hR]⟩, ?_, ?_⟩
    · simp [keep_cl, FL]
    · simp [trunc, Da.cs, St.cs]
  rintro ⟨t, i⟩ ⟨hi, ht, hr1, hr2⟩
  simp only at hi ht hr1 hr2
  have hl1 := ht.2.2.1
  have htk1 := take_full (k := .u32) hl1
  have hz16 : cnats .u32 (zeros 18) = .int .u32 0 :: .int .u32 0 :: cnats .u32 (zeros 16) := rfl
  by_cases hlt : i < w.length
  · obtain ⟨x, hfx⟩ : ∃ x, x = w[i] := ⟨_, rfl⟩
    have hg : w[i]? = some x := by rw [List.getElem?_eq_getElem hlt, hfx]
    have hgv := hfx.symm
    have hdr := List.drop_eq_getElem_cons hlt
    rw [hgv] at hdr
    have hkk := hk x (hgv ▸ List.getElem_mem hlt)
    have hcs : x.cs = [.int .i64 x.op, .int .i64 x.jt, .int .i64 x.jf, .int .u32 (x.k : Int)] := rfl
    have hst := Step6_ok (G := G) t x d ht hkk hd
    have hso := stepS_ok' ht hkk hd
    have hl2 := hso.2.2.1
    have htk2 := take_full (k := .u32) hl2
    have hdf := drop_full (k := .u32) hl1
    rw [hdr] at hr1 hr2
    simp only [runW] at hr1 hr2
    simp [SV, IV, DV, hcs, St.cs, Da.cs] at hst
    simp (disch := omega) [ltT, FL, hg, hgv, hcs, St.cs, Da.cs, hl1, htk1, h6, ht6, -Int.natCast_add]
    refine callP_of hst ?_
    cases hok : (stepS t x d).2
    · rw [hok] at hr1 hr2
      simp only [Bool.false_eq_true, if_false] at hr1 hr2
      simp [hl1, htk1, hl2, htk2, hdf, hz16, -Int.natCast_add]
      rw [← hr1, ← hr2]
      simp [St.cs]
    · rw [hok] at hr1 hr2
      simp only [if_true] at hr1 hr2
      simp (disch := omega) [hl1, htk1, hl2, htk2, hdf, add1', -Int.natCast_add]
      refine ⟨((stepS t x d).1, i + 1), by simp only; omega, ⟨by simp only; omega, hso, hr1, by simp only; omega⟩, ?_, ?_⟩
      · simp [keep_cl, FL, -Int.natCast_add]
      · simp [trunc, Da.cs, St.cs, hl1, htk1, hl2, htk2, hdf]
  · have hne : i = w.length := by omega
    subst hne
    rw [List.drop_length] at hr1 hr2
    simp only [runW] at hr1 hr2
    simp (disch := omega) [ltF, FL, St.cs, Da.cs, hl1, htk1, hz16]
    rw [← hr1, ← hr2]
    simp [St.cs]
end Go.Ev

/- The laws WindowRuns, WindowRows, WindowNone. -/
namespace Go.Ev
open Go Go.RowKit
variable {G : Tbl}
set_option maxRecDepth 10000
set_option maxHeartbeats 4000000
set_option linter.unusedSimpArgs false
set_option linter.unusedVariables false

theorem IL_nilP (l : List In4) : (IL l = []) = (l = []) := propext (IL_eq_nil l)
theorem great17_ok [HasL17 G] (w : List In4) : FP G 300 [FL w] (.bool (decide (100 < w.length))) := by
  refine FP_of HasL17.h_hurdlelaw17_great (Nat.le_of_ble_eq_true rfl) ?_
  have : ((100 : Int) < (w.length : Int)) = (100 < w.length) := propext (by omega)
  simp [FL, this]
theorem e16_of (l : List Nat) (h : l.length = 16) : eqks [Kd.int, .int, .int, .int, .int, .int, .int, .int, .int, .int, .int, .int, .int, .int, .int, .int] (cnats .u32 l) (cnats .u32 l) = some true := by
  have e16 := eqks_nats (n := 16) (a := l) (b := l) h h
  rw [show List.replicate 16 Kd.int = [Kd.int, .int, .int, .int, .int, .int, .int, .int, .int, .int, .int, .int, .int, .int, .int, .int] from rfl] at e16
  simpa only [decide_true] using e16

/-- WINDOWRUNS. -/
theorem WindowRuns_ok [HasWd G] [HasNeg G] [HasIns G] [HasCheck G] [HasData G] [HasStep G] [HasWRight G] [HasWinRun G] [HasR2 G] [hR1 : HasR1 G] [HasR1n G] [HasR4 G] [HasR5o G] [HasR6s G] [HasR17 G] [HasR17r G] [HasL17 G] (hkn : FP G 299 [] (.bool true))
    (w : List In4) (s : St) (d : Da) (hf : w.length ≤ maxLen) (hk : ∀ x ∈ w, x.k < 4294967296) (hs : s.ok) (hd : d.ok) : FP G 301 [FL w, SV s, DV d] (.bool true) := by
  refine FP_of HasL17.h_hurdlelaw17_WindowRuns (Nat.le_of_ble_eq_true rfl) ?_
  have hgr := great17_ok (G := G) w
  have hl := hs.2.2.1
  have htk := take_full (k := .u32) hl
  have h6 := hd.2.2.2.1
  have ht6 := take_full (k := .u64) h6
  simp only [FL] at hgr
  simp [FL, SV, DV, St.cs, Da.cs]
  refine callP_of hgr ?_
  by_cases hb : 100 < w.length
  · simp [hb]
    refine callP_of hkn ?_
    simp
  have hr := WRight_ok (G := G) w hf hk
  have hr17 := Right17_ok (G := G) w (by omega) hk
  simp only [FL] at hr hr17
  simp [hb, hl, htk, h6, ht6]
  cases hw : winB w
  · rw [hw] at hr hr17
    have hru := WinRun_no (G := G) w s d hf hk hl hw
    simp [FL, SV, DV, St.cs, Da.cs] at hru
    refine callP_of hru ?_
    simp [hl, htk]
    refine callP_of hr ?_
    simp
    refine callP_of hr17 ?_
    simp
    refine callP_of hr17 ?_
    simp [hl, htk, e16_of _ hl]
    refine callP_of hkn ?_
    simp
  · rw [hw] at hr hr17
    have hru := WinRun_ok (G := G) w s d hf hk hs hd hw
    have hrr := WinRunR_ok (G := G) w s d (by omega) hk hs hd
    have hso := runW_ok hd w s hs hk
    have hl2 := hso.2.2.1
    have htk2 := take_full (k := .u32) hl2
    simp [FL, SV, DV, St.cs, Da.cs] at hru hrr
    refine callP_of hru ?_
    simp [hl, htk, hl2, htk2]
    refine callP_of hr ?_
    simp
    refine callP_of hr17 ?_
    simp
    refine callP_of hr17 ?_
    simp [hl, htk, hl2, htk2, h6, ht6]
    refine callP_of hrr ?_
    simp [hl, htk, hl2, htk2, e16_of _ hl2]
    refine callP_of hkn ?_
    simp

def Z19 : List V := [.int .i64 0, .int .i64 0, .int .i64 0, .int .i64 0, .int .i64 0, .int .i64 0, .int .i64 0, .int .i64 0, .int .i64 0, .int .i64 0, .int .i64 0, .int .i64 0, .int .i64 0, .int .i64 0, .int .i64 0, .int .i64 0, .int .i64 0, .int .i64 0, .vs [] .full]
/-- A nil book has no values of a window. -/
theorem Of_nil [HasWinOf G] (w : List In4) (a b c : List V) : Big G (.F 296 [.nilp, .vs (IL w) .no] [some (.cells a), some (.cells b), some (.cells c), none] (.tup [.agg Z19, .bool false]) [some (.cells a), some (.cells b), some (.cells c), none, some (.cells Z19)]) := by
  refine F_of HasWinOf.h_window_Of (Nat.le_of_ble_eq_true rfl) ?_
  simp [Z19]

/-- WINDOWNONE. -/
theorem WindowNone_ok [HasWd G] [HasNeg G] [HasIns G] [HasCheck G] [HasData G] [HasStep G] [HasWRight G] [HasWinRun G] [HasWinOf G] [HasL17 G] (hkn : FP G 299 [] (.bool true))
    (w : List In4) (s : St) (d : Da) (hf : w.length ≤ maxLen) (hk : ∀ x ∈ w, x.k < 4294967296) (hs : s.ok) (hd : d.ok) : FP G 304 [FL w, SV s, DV d] (.bool true) := by
  refine FP_of HasL17.h_hurdlelaw17_WindowNone (Nat.le_of_ble_eq_true rfl) ?_
  have hgr := great17_ok (G := G) w
  have hl := hs.2.2.1
  have htk := take_full (k := .u32) hl
  have h6 := hd.2.2.2.1
  have ht6 := take_full (k := .u64) h6
  simp only [FL] at hgr
  simp [FL, SV, DV, St.cs, Da.cs]
  refine callP_of hgr ?_
  by_cases hb : 100 < w.length
  · simp [hb]
    refine callP_of hkn ?_
    simp
  have hru := WinRun_ok (G := G) [] s d (Nat.zero_le _) (by simp) hs hd winB_nil
  have hr := WRight_ok (G := G) [] (Nat.zero_le _) (by simp)
  rw [winB_nil] at hr
  simp [FL, SV, DV, St.cs, Da.cs, runW] at hru hr
  simp [hb, hl, htk, h6, ht6]
  refine callP_of hru ?_
  simp [hl, htk]
  refine callS_of (Of_nil w _ _ _) ?_
  simp [trunc, Z19, keep_cl, hl, htk]
  refine callP_of hr ?_
  simp [hl, htk, e16_of _ hl]
  refine callP_of hkn ?_
  simp

/-- WINDOWROWS. -/
theorem WindowRows_ok [HasWd G] [HasNeg G] [HasIns G] [HasCheck G] [HasData G] [HasStep G] [HasWRight G] [HasWinRun G] [HasR2 G] [HasR5o G] [HasR17 G] [HasL17 G] (hkn : FP G 299 [] (.bool true))
    (w v : List In4) (s : St) (d : Da) (hf : w.length ≤ maxLen) (hfv : v.length ≤ maxLen) (hk : ∀ x ∈ w, x.k < 4294967296) (hkv : ∀ x ∈ v, x.k < 4294967296) (hs : s.ok) (hd : d.ok) : FP G 303 [FL w, FL v, SV s, DV d] (.bool true) := by
  refine FP_of HasL17.h_hurdlelaw17_WindowRows (Nat.le_of_ble_eq_true rfl) ?_
  have hgw := great17_ok (G := G) w
  have hgv := great17_ok (G := G) v
  have hl := hs.2.2.1
  have htk := take_full (k := .u32) hl
  have h6 := hd.2.2.2.1
  have ht6 := take_full (k := .u64) h6
  simp only [FL] at hgw hgv
  simp [FL, SV, DV, St.cs, Da.cs]
  refine callP_of hgw ?_
  by_cases hb : 100 < w.length
  · simp [hb]
    refine callP_of hkn ?_
    simp
  simp [hb]
  refine callP_of hgv ?_
  by_cases hb2 : 100 < v.length
  · simp [hb2]
    refine callP_of hkn ?_
    simp
  have hkg : ∀ x ∈ w ++ v, x.k < 4294967296 := fun x hx => by
    rcases List.mem_append.1 hx with h | h
    · exact hk x h
    · exact hkv x h
  have hmx : (4000000000 : Nat) ≤ maxLen := by decide
  have hgl : (w ++ v).length ≤ 200 := by rw [List.length_append]; omega
  have q1 : (w.length * 32 ≤ 140737488355328) = True := eq_true (by omega)
  have q2 : ((w.length + v.length) * 32 ≤ 140737488355328) = True := eq_true (by omega)
  have q3 : (v.length * 32 ≤ 140737488355328) = True := eq_true (by omega)
  have hrg := WRight_ok (G := G) (w ++ v) (by omega) hkg
  have hrg17 := Right17_ok (G := G) (w ++ v) (by omega) hkg
  have hrw := WRight_ok (G := G) w hf hk
  have hrv := WRight_ok (G := G) v hfv hkv
  cases hwg : winB (w ++ v)
  · rw [hwg] at hrg hrg17
    simp [FL] at hrg hrg17
    by_cases hwe : w = []
    · subst hwe
      by_cases hve : v = []
      · subst hve; rw [List.append_nil, winB_nil] at hwg; cases hwg
      simp [hb2, q3, IL_nilP, hve]
      refine callP_of hrg ?_
      simp
      refine callP_of hrg17 ?_
      simp
      refine callP_of hkn ?_
      simp
    by_cases hve : v = []
    · subst hve
      rw [List.append_nil] at hrg hrg17
      simp [hb2, q1, IL_nilP, hwe]
      refine callP_of hrg ?_
      simp
      refine callP_of hrg17 ?_
      simp
      refine callP_of hkn ?_
      simp
    simp [hb2, q1, q2, IL_nilP, hwe, hve, IL_append]
    refine callP_of hrg ?_
    simp
    refine callP_of hrg17 ?_
    simp
    refine callP_of hkn ?_
    simp
  obtain ⟨hww, hwv⟩ := winB_append hwg
  rw [hwg] at hrg
  rw [hww] at hrw
  rw [hwv] at hrv
  have hru := WinRun_ok (G := G) w s d hf hk hs hd hww
  have hso := runW_ok hd w s hs hk
  have hru2 := WinRun_ok (G := G) v (runW d w s).1 d hfv hkv hso hd hwv
  have hso2 := runW_ok hd v (runW d w s).1 hso hkv
  have hrug := WinRun_ok (G := G) (w ++ v) s d (by omega) hkg hs hd hwg
  have hsog := runW_ok hd (w ++ v) s hs hkg
  have hap := runW_append d v w s
  have hle := runW_le d w s
  have hle2 := runW_le d v (runW d w s).1
  rw [hap] at hrug hsog
  obtain ⟨R, hR⟩ : ∃ R, R = (if (runW d w s).2 < w.length then runW d w s else ((runW d v (runW d w s).1).1, (runW d w s).2 + (runW d v (runW d w s).1).2)) := ⟨_, rfl⟩
  rw [← hR] at hrug hsog
  have h1 := hso.2.2.1
  have h2 := take_full (k := .u32) h1
  have k1 := hso2.2.2.1
  have k2 := take_full (k := .u32) k1
  have g1 := hsog.2.2.1
  have g2 := take_full (k := .u32) g1
  have hadd : addI .i64 ((runW d w s).2 : Int) ((runW d v (runW d w s).1).2 : Int) = (((runW d w s).2 + (runW d v (runW d w s).1).2 : Nat) : Int) := addN (by omega)
  by_cases hwe : w = []
  · have hg' : w ++ v = v := by rw [hwe]; rfl
    have hwe' : (w = []) = True := eq_true hwe
    rw [hg'] at hrg hrug
    simp [FL, SV, DV, St.cs, Da.cs] at hrg hru hru2 hrug hrw hrv
    by_cases hve : v = []
    · have hve' : (v = []) = True := eq_true hve
      have hwz : IL w = [] := by rw [hwe]; rfl
      have hvz : IL v = [] := by rw [hve]; rfl
      rw [hvz] at hrg hrug hru2 hrv
      rw [hwz] at hru hrw
      simp [hb2, hwz, hvz]
      refine callP_of hrg ?_
      simp [hl, htk, h6, ht6, h1, h2, k1, k2]
      refine callP_of hru ?_
      simp [hl, htk, h6, ht6, h1, h2, k1, k2]
      refine callP_of hru2 ?_
      simp [hl, htk, h6, ht6, h1, h2, k1, k2]
      refine callP_of hrug ?_
      simp [hl, htk, h6, ht6, h1, h2, k1, k2, g1, g2]
      refine callP_of hrw ?_
      simp [hl, htk, h6, ht6, h1, h2, k1, k2, g1, g2]
      refine callP_of hrv ?_
      by_cases hlt : (runW d w s).2 < w.length
      · exfalso
        rw [hwe] at hlt
        exact absurd hlt (Nat.not_lt_zero _)
      · rw [if_neg hlt] at hR
        subst hR
        have c1 : (((runW d w s).2 : Int) < (w.length : Int)) = False := eq_false (by omega)
        have c0 : (((runW d w s).2 : Int) < 0) = False := eq_false (by omega)
        simp [hl, htk, h6, ht6, h1, h2, g1, g2, c1, c0, hadd, e16_of _ k1, -Int.natCast_add]
        refine callP_of hkn ?_
        simp
    · have hve' : (v = []) = False := eq_false hve
      have hwz : IL w = [] := by rw [hwe]; rfl
      rw [hwz] at hru hrw
      simp [hb2, q3, IL_nilP, hwz, hve']
      refine callP_of hrg ?_
      simp [hl, htk, h6, ht6, h1, h2, k1, k2]
      refine callP_of hru ?_
      simp [hl, htk, h6, ht6, h1, h2, k1, k2]
      refine callP_of hru2 ?_
      simp [hl, htk, h6, ht6, h1, h2, k1, k2]
      refine callP_of hrug ?_
      simp [hl, htk, h6, ht6, h1, h2, k1, k2, g1, g2]
      refine callP_of hrw ?_
      simp [hl, htk, h6, ht6, h1, h2, k1, k2, g1, g2]
      refine callP_of hrv ?_
      by_cases hlt : (runW d w s).2 < w.length
      · exfalso
        rw [hwe] at hlt
        exact absurd hlt (Nat.not_lt_zero _)
      · rw [if_neg hlt] at hR
        subst hR
        have c1 : (((runW d w s).2 : Int) < (w.length : Int)) = False := eq_false (by omega)
        have c0 : (((runW d w s).2 : Int) < 0) = False := eq_false (by omega)
        simp [hl, htk, h6, ht6, h1, h2, g1, g2, c1, c0, hadd, e16_of _ k1, -Int.natCast_add]
        refine callP_of hkn ?_
        simp
  by_cases hve : v = []
  · have hg' : w ++ v = w := by rw [hve, List.append_nil]
    have hvz : IL v = [] := by rw [hve]; rfl
    rw [hg'] at hrg hrug
    simp [FL, SV, DV, St.cs, Da.cs] at hrg hru hru2 hrug hrw hrv
    rw [hvz] at hru2 hrv
    simp [hb2, q1, IL_nilP, hwe, hvz]
    refine callP_of hrg ?_
    simp [hl, htk, h6, ht6, h1, h2, k1, k2]
    refine callP_of hru ?_
    simp [hl, htk, h6, ht6, h1, h2, k1, k2]
    refine callP_of hru2 ?_
    simp [hl, htk, h6, ht6, h1, h2, k1, k2]
    refine callP_of hrug ?_
    simp [hl, htk, h6, ht6, h1, h2, k1, k2, g1, g2]
    refine callP_of hrw ?_
    simp [hl, htk, h6, ht6, h1, h2, k1, k2, g1, g2]
    refine callP_of hrv ?_
    by_cases hlt : (runW d w s).2 < w.length
    · rw [if_pos hlt] at hR
      subst hR
      have c1 : (((runW d w s).2 : Int) < (w.length : Int)) = True := eq_true (by omega)
      simp [hl, htk, h6, ht6, h1, h2, g1, g2, c1, e16_of _ h1]
      refine callP_of hkn ?_
      simp
    · rw [if_neg hlt] at hR
      subst hR
      have c1 : (((runW d w s).2 : Int) < (w.length : Int)) = False := eq_false (by omega)
      simp [hl, htk, h6, ht6, h1, h2, g1, g2, c1, hadd, e16_of _ k1, -Int.natCast_add]
      refine callP_of hkn ?_
      simp
  simp [FL, SV, DV, St.cs, Da.cs] at hrg hru hru2 hrug hrw hrv
  simp [hb2, q1, q2, IL_nilP, hwe, hve, IL_append]
  refine callP_of hrg ?_
  simp [hl, htk, h6, ht6, h1, h2, k1, k2]
  refine callP_of hru ?_
  simp [hl, htk, h6, ht6, h1, h2, k1, k2]
  refine callP_of hru2 ?_
  simp [hl, htk, h6, ht6, h1, h2, k1, k2]
  refine callP_of hrug ?_
  simp [hl, htk, h6, ht6, h1, h2, k1, k2, g1, g2]
  refine callP_of hrw ?_
  simp [hl, htk, h6, ht6, h1, h2, k1, k2, g1, g2]
  refine callP_of hrv ?_
  by_cases hlt : (runW d w s).2 < w.length
  · rw [if_pos hlt] at hR
    subst hR
    have c1 : (((runW d w s).2 : Int) < (w.length : Int)) = True := eq_true (by omega)
    simp [hl, htk, h6, ht6, h1, h2, g1, g2, c1, e16_of _ h1]
    refine callP_of hkn ?_
    simp
  · rw [if_neg hlt] at hR
    subst hR
    have c1 : (((runW d w s).2 : Int) < (w.length : Int)) = False := eq_false (by omega)
    simp [hl, htk, h6, ht6, h1, h2, g1, g2, c1, hadd, e16_of _ k1, -Int.natCast_add]
    refine callP_of hkn ?_
    simp
end Go.Ev

/- The variables' numbers, and back; the law WindowAssigns. -/
namespace Go.Ev
open Go Go.RowKit
variable {G : Tbl}
set_option maxRecDepth 10000
set_option maxHeartbeats 4000000
set_option linter.unusedSimpArgs false
set_option linter.unusedVariables false

/-- The numbers, filled in one by one. -/
def asAt (s : St) (d : Da) (i : Nat) : List Nat := s.a :: s.x :: (s.m ++ ((wordsD d).take i ++ zeros (16 - i)))
theorem asAt_len {s : St} {d : Da} (hs : s.ok) (hd : d.ok) {i : Nat} (hi : i ≤ 16) : (asAt s d i).length = 34 := by
  simp [asAt, hs.2.2.1, wordsD_len hd.2.2.2.1]; omega
theorem asAt_16 {s : St} {d : Da} (hd : d.ok) : asAt s d 16 = asgL s d := by
  rw [asAt, show zeros (16 - 16) = [] from rfl, List.append_nil, List.take_of_length_le (by rw [wordsD_len hd.2.2.2.1]; exact Nat.le_refl _), asgL]
theorem asAt_set {s : St} {d : Da} (hs : s.ok) (hd : d.ok) {i : Nat} (hi : i < 16) : (asAt s d i).set (18 + i) ((wordsD d).getD i 0) = asAt s d (i + 1) := by
  have hw := wordsD_len hd.2.2.2.1
  have hm := hs.2.2.1
  have hg : (wordsD d).getD i 0 = (wordsD d)[i]'(by omega) := by simp [List.getD, List.getElem?_eq_getElem (show i < (wordsD d).length by omega)]
  rw [hg]
  have e1 : 18 + i = (16 + i) + 1 + 1 := by omega
  simp only [asAt, e1, List.set_cons_succ]
  congr 2
  rw [List.set_append_right _ _ (by omega), hm, show 16 + i - 16 = i by omega]
  congr 1
  rw [List.set_append_right _ _ (by rw [List.length_take]; omega), List.length_take, Nat.min_eq_left (by omega), Nat.sub_self, List.take_succ_eq_append_getElem (by omega), List.append_assoc]
  congr 1
  rw [show 16 - i = (16 - (i + 1)) + 1 by omega]
  rfl

theorem WinAssign_ok [HasData G] [HasWinAsg G] (s : St) (d : Da) (hs : s.ok) (hd : d.ok) : FP G 293 [SV s, DV d] (.agg (cnats .u32 (asgL s d))) := by
  refine FP_of HasWinAsg.h_window_Assign (Nat.le_of_ble_eq_true rfl) ?_
  have hl := hs.2.2.1
  have htk := take_full (k := .u32) hl
  have h6 := hd.2.2.2.1
  have ht6 := take_full (k := .u64) h6
  have hz : cnats .u32 (zeros 34) = .int .u32 0 :: .int .u32 0 :: cnats .u32 (zeros 32) := rfl
  have hz2 : (cnats .u32 (zeros 32)).drop 16 = cnats .u32 (zeros 16) := rfl
  have h0 : asAt s d 0 = s.a :: s.x :: (s.m ++ zeros 16) := by simp [asAt]
  have hcap : ∀ l m : List Nat, cnats .u32 (l ++ m) = cnats .u32 l ++ cnats .u32 m := fun l m => by simp [cnats]
  simp [SV, DV, St.cs, Da.cs, hz, hl, htk, hz2]
  refine W_up 16 (fun i => [(3, .ptr 1 0), (4, .ptr 2 0), (5, .ptr 3 0), (17, .int .i64 i)])
    (fun i => [some (.cells s.cs), some (.cells d.cs), some (.cells (cnats .u32 (zeros 34))), some (.cells (cnats .u32 (asAt s d i)))]) (fun _ => True) ?_ ?_
  · have hj : clL 4 (cnats .u32 s.m ++ cnats .u32 (zeros 16)) = cnats .u32 (s.m ++ zeros 16) := by rw [← hcap]; simp
    simp [keep_cl, trunc, St.cs, Da.cs, h0, hz, hj]
    rfl
  intro i hi _
  by_cases hlt : i < 16
  · have hw := Word_ok (G := G) d (4 * i) hd (by omega)
    have hw2 : wordS d (4 * i) = ((wordsD d).getD i 0, true) := by rw [wordS, if_pos ⟨by omega, by omega⟩, show 4 * i / 4 = i by omega]
    rw [hw2] at hw
    have hal := asAt_len hs hd hi
    have cs := cnats_set .u32 (asAt s d i) (18 + i) ((wordsD d).getD i 0) (by omega)
    rw [asAt_set hs hd hlt] at cs
    obtain ⟨x, hx⟩ : ∃ x, x = (wordsD d).getD i 0 := ⟨_, rfl⟩
    rw [← hx] at cs hw
    have e1 : addI .i64 18 (i : Int) = ((18 + i : Nat) : Int) := by rw [show (18 : Int) = ((18 : Nat) : Int) from rfl]; exact addN (by omega)
    have e2 : mulI .i64 4 (i : Int) = ((4 * i : Nat) : Int) := by unfold mulI; rw [show (4 : Int) * (i : Int) = ((4 * i : Nat) : Int) by omega]; exact IntWalk.i64_in _ ⟨by omega, by omega⟩
    have e3 : convI .u32 ((4 * i : Nat) : Int) = ((4 * i : Nat) : Int) := by unfold convI; exact IntWalk.u32_in _ ⟨by omega, by omega⟩
    simp [DV, Da.cs, -Int.natCast_mul] at hw
    simp (disch := omega) [ltT, leTn, e1, e2, e3, Da.cs, h6, ht6, -Int.natCast_add, -Int.natCast_mul]
    refine callP_of hw ?_
    simp (disch := omega) [ltT, leTn, hal, cs, hlt, add1', keep_cl, trunc, St.cs, Da.cs, h6, ht6, -Int.natCast_add, -Int.natCast_mul]
  · have hne : i = 16 := by omega
    subst hne
    have hal := asgL_len hs hd
    have ht := take_full (k := .u32) hal
    have e16 := asAt_16 (s := s) hd
    simp [e16, hal, ht]

theorem WinState_ok [HasData G] [HasWith G] [HasWinState G] (v : List Nat) (hl : v.length = 34) (hv : ∀ x ∈ v, x < 4294967296) : FP G 294 [.agg (cnats .u32 v)] (.tup [SV (stO v), DV (ofW (v.drop 18))]) := by
  refine FP_of HasWinState.h_window_State (Nat.le_of_ble_eq_true rfl) ?_
  have htk := take_full (k := .u32) hl
  obtain ⟨a, hva⟩ : ∃ a, a = v[0] := ⟨_, rfl⟩
  obtain ⟨x, hvx⟩ : ∃ x, x = v[1] := ⟨_, rfl⟩
  have c0 : (cnats .u32 v).take 1 = [.int .u32 (a : Nat)] := by have := cnats_get .u32 v 0 (by omega); rwa [List.drop_zero, ← hva] at this
  have c1 : (cnats .u32 v).tail.take 1 = [.int .u32 (x : Nat)] := by have := cnats_get .u32 v 1 (by omega); rwa [List.drop_one, ← hvx] at this
  obtain ⟨m, hm⟩ : ∃ m, m = (v.drop 2).take 16 := ⟨_, rfl⟩
  have hml : m.length = 16 := by rw [hm]; simp [hl]
  have cm : ((cnats .u32 v).drop 2).take 16 = cnats .u32 m := by rw [hm]; simp [cnats, List.map_drop, List.map_take]
  have hmk := take_full (k := .u32) hml
  have hst : stO v = ⟨a, x, m⟩ := by
    rw [hva, hvx, hm]
    simp [stO, List.getD, List.getElem?_eq_getElem (show 0 < v.length by omega), List.getElem?_eq_getElem (show 1 < v.length by omega)]
  have hz : cnats .u32 (zeros 18) = .int .u32 0 :: .int .u32 0 :: cnats .u32 (zeros 16) := rfl
  have hz2 : (cnats .u32 (zeros 16)).drop 16 = [] := rfl
  have h0 : ofW (wAt v 0) = ⟨0, 0, 0, zeros 6⟩ := by rw [wAt_0]; rfl
  have hz6 : cnats .u64 (zeros 6) = [.int .u64 0, .int .u64 0, .int .u64 0, .int .u64 0, .int .u64 0, .int .u64 0] := rfl
  simp [hl, htk, c0, c1, cm, hz, hz2, hml, hmk]
  refine W_up 16 (fun i => [(1, .ptr 0 0), (2, .ptr 1 0), (3, .ptr 2 0), (4, .ptr 3 0), (5, .ptr 4 0), (16, .int .i64 i)])
    (fun i => [some (.cells (cnats .u32 v)), some (.cells (cnats .u32 (zeros 18))), some (.cells ZD), some (.cells (St.cs ⟨a, x, m⟩)), some (.cells (ofW (wAt v i)).cs)]) (fun _ => True) ?_ ?_
  · simp [keep_cl, trunc, St.cs, Da.cs, h0, hz, hz6, ZD]
  intro i hi _
  have hok := ofW_ok (wAt_len hl hi) (wAt_lt hv i)
  have h6 := hok.2.2.2.1
  have ht6 := take_full (k := .u64) h6
  by_cases hlt : i < 16
  · have hw := With_ok (G := G) (ofW (wAt v i)) (4 * i) (v[18 + i]'(by omega)) hok (by omega) (hv _ (List.getElem_mem _))
    rw [with_wAt hl hv hlt] at hw
    have hok2 := ofW_ok (wAt_len hl (show i + 1 ≤ 16 by omega)) (wAt_lt hv (i + 1))
    have k6 := hok2.2.2.2.1
    have kt6 := take_full (k := .u64) k6
    have cg := cnats_get .u32 v (18 + i) (by omega)
    generalize ofW (wAt v i) = D at hw h6 ht6
    obtain ⟨D', hD'⟩ : ∃ D', D' = ofW (wAt v (i + 1)) := ⟨_, rfl⟩
    rw [← hD'] at hw k6 kt6
    obtain ⟨y, hy⟩ : ∃ y, y = v[18 + i]'(by omega) := ⟨_, rfl⟩
    rw [← hy] at hw cg
    have e1 : addI .i64 18 (i : Int) = ((18 + i : Nat) : Int) := by rw [show (18 : Int) = ((18 : Nat) : Int) from rfl]; exact addN (by omega)
    have e2 : mulI .i64 4 (i : Int) = ((4 * i : Nat) : Int) := by unfold mulI; rw [show (4 : Int) * (i : Int) = ((4 * i : Nat) : Int) by omega]; exact IntWalk.i64_in _ ⟨by omega, by omega⟩
    have e3 : convI .u32 ((4 * i : Nat) : Int) = ((4 * i : Nat) : Int) := by unfold convI; exact IntWalk.u32_in _ ⟨by omega, by omega⟩
    simp [DV, Da.cs, -Int.natCast_mul] at hw
    simp (disch := omega) [ltT, leTn, e1, e2, e3, Da.cs, h6, ht6, hl, cg, -Int.natCast_add, -Int.natCast_mul]
    refine callP_of hw ?_
    simp (disch := omega) [ltT, leTn, hlt, add1', keep_cl, trunc, St.cs, Da.cs, ZD, h6, ht6, k6, kt6, ← hD', drop_full (k := .u64) h6, -Int.natCast_add, -Int.natCast_mul]
  · have hne : i = 16 := by omega
    subst hne
    rw [wAt_16 hl] at h6 ht6 ⊢
    simp [St.cs, Da.cs, ZD, h6, ht6, hml, hmk, hz, hst, SV, DV]

theorem AssignR_ok [HasR4 G] [HasR17a G] (s : St) (d : Da) (hs : s.ok) (hd : d.ok) : FP G 298 [SV s, DV d] (.vs (nats .u32 (asgL s d)) .no) := by
  refine FP_of HasR17a.h_hurdleref17_Assign (Nat.le_of_ble_eq_true rfl) ?_
  have hl := hs.2.2.1
  have htk := take_full (k := .u32) hl
  have h6 := hd.2.2.2.1
  have ht6 := take_full (k := .u64) h6
  have hw := wordsD_len h6
  have hn2 : [[V.int .u32 (s.a : Int)], [V.int .u32 (s.x : Int)]] = nats .u32 [s.a, s.x] := rfl
  simp [SV, DV, St.cs, Da.cs, hn2]
  obtain ⟨T, hT⟩ : ∃ T : Nat → List Nat, ∀ j, T j = s.a :: s.x :: s.m.take j := ⟨_, fun _ => rfl⟩
  obtain ⟨U, hU⟩ : ∃ U : Nat → List Nat, ∀ j, U j = s.a :: s.x :: (s.m ++ (wordsD d).take j) := ⟨_, fun _ => rfl⟩
  have hT0 : nats .u32 [s.a, s.x] = nats .u32 (T 0) := by rw [hT]; rfl
  have hTU : T 16 = U 0 := by rw [hT, hU, List.take_of_length_le (by omega)]; simp
  have hUE : U 16 = asgL s d := by rw [hU, List.take_of_length_le (by omega), asgL]
  have hTl : ∀ j, j ≤ 16 → (T j).length = 2 + j := fun j hj => by rw [hT]; simp [hl]; omega
  have hUl : ∀ j, j ≤ 16 → (U j).length = 18 + j := fun j hj => by rw [hU]; simp [hl, hw]; omega
  rw [hT0]
  refine W_up 16 (fun i => [(2, .ptr 0 0), (3, .ptr 1 0), (5, .vs (nats .u32 (T i)) (.own 2)), (6, .int .i64 i)])
    (fun i => [some (.cells s.cs), some (.cells d.cs), some (.zone (2 + i))]) (fun _ => True) ?_ ?_
  · simp [keep_cl, trunc, St.cs, Da.cs]
  intro i hi _
  have hTi := hTl i hi
  by_cases hlt : i < 16
  · have cg := cnats_get .u32 s.m i (by omega)
    obtain ⟨y, hy⟩ : ∃ y, y = s.m[i]'(by omega) := ⟨_, rfl⟩
    rw [← hy] at cg
    have ht : T (i + 1) = T i ++ [y] := by rw [hT, hT, hy, List.take_succ_eq_append_getElem (by omega)]; rfl
    simp (disch := omega) [ltT, leTn, St.cs, hl, cg, hTi, ht, hlt, add1', keep_cl, trunc, Da.cs, take2, drop2, drop1, drop21, Nat.add_assoc, -Int.natCast_add]
  · have hne : i = 16 := by omega
    subst hne
    simp [hTU]
    refine W_up 16 (fun j => [(3, .ptr 1 0), (5, .vs (nats .u32 (U j)) (.own 2)), (7, .int .u32 (4 * j : Nat))])
      (fun j => [some (.cells s.cs), some (.cells d.cs), some (.zone (18 + j))]) (fun _ => True) ?_ ?_
    · simp [keep_cl, trunc, St.cs, Da.cs]
    intro j hj _
    have hUj := hUl j hj
    by_cases hlt : j < 16
    · have hwr := WordR_ok (G := G) d (4 * j) hd (by omega)
      have hw2 : wordS d (4 * j) = ((wordsD d).getD j 0, true) := by rw [wordS, if_pos ⟨by omega, by omega⟩, show 4 * j / 4 = j by omega]
      rw [hw2] at hwr
      obtain ⟨y, hy⟩ : ∃ y, y = (wordsD d).getD j 0 := ⟨_, rfl⟩
      rw [← hy] at hwr
      have hgy : (wordsD d)[j]'(by omega) = y := by rw [hy]; simp [List.getD, List.getElem?_eq_getElem (show j < (wordsD d).length by omega)]
      have ht : U (j + 1) = U j ++ [y] := by rw [hU, hU, List.take_succ_eq_append_getElem (by omega), hgy]; simp
      have e4 : addI .u32 ((4 * j : Nat) : Int) 4 = ((4 * (j + 1) : Nat) : Int) := by unfold addI; rw [show ((4 * j : Nat) : Int) + 4 = ((4 * (j + 1) : Nat) : Int) by omega]; exact IntWalk.u32_in _ ⟨by omega, by omega⟩
      simp [DV, Da.cs, -Int.natCast_mul] at hwr
      simp (disch := omega) [ltT, leTn, Da.cs, h6, ht6, -Int.natCast_add, -Int.natCast_mul]
      refine callP_of hwr ?_
      simp (disch := omega) [ltT, leTn, St.cs, hUj, ht, hlt, e4, keep_cl, trunc, Da.cs, h6, ht6, Nat.add_assoc, -Int.natCast_add, -Int.natCast_mul]
    · have hne : j = 16 := by omega
      subst hne
      simp [hUE]
end Go.Ev

/- The law WindowAssigns. -/
namespace Go.Ev
open Go Go.RowKit
variable {G : Tbl}
set_option maxRecDepth 10000
set_option maxHeartbeats 4000000
set_option linter.unusedSimpArgs false
set_option linter.unusedVariables false

theorem eqks_self : ∀ {n : Nat} (k : IntKind) {a : List Nat}, a.length = n → eqks (List.replicate n .int) (cnats k a) (cnats k a) = some true
  | 0, k, [], _ => rfl
  | 0, k, _ :: _, h => by simp at h
  | n + 1, k, [], h => by simp at h
  | n + 1, k, x :: a, h => by
    have ih := eqks_self (n := n) k (a := a) (by simpa using h)
    rw [List.replicate_succ]
    show eqks (.int :: List.replicate n .int) (.int k (x : Int) :: cnats k a) (.int k (x : Int) :: cnats k a) = _
    simp only [eqks, eqk, if_true, ih, beq_self_eq_true, Bool.and_self]
theorem e34_of (v : List Nat) (h : v.length = 34) : eqks [Kd.int, .int, .int, .int, .int, .int, .int, .int, .int, .int, .int, .int, .int, .int, .int, .int, .int, .int, .int, .int, .int, .int, .int, .int, .int, .int, .int, .int, .int, .int, .int, .int, .int, .int] (cnats .u32 v) (cnats .u32 v) = some true := eqks_self (n := 34) .u32 h
theorem e6_of (v : List Nat) (h : v.length = 6) : eqks [Kd.int, .int, .int, .int, .int, .int] (cnats .u64 v) (cnats .u64 v) = some true := eqks_self (n := 6) .u64 h

/-- WINDOWASSIGNS. -/
theorem WindowAssigns_ok [HasData G] [HasWith G] [HasWinAsg G] [HasWinState G] [HasR4 G] [HasR17a G] [HasL17 G] (hkn : FP G 299 [] (.bool true)) (s : St) (d : Da) (v : List Nat) (hs : s.ok) (hd : d.ok) (hl : v.length = 34) (hv : ∀ x ∈ v, x < 4294967296) :
    FP G 302 [SV s, DV d, .agg (cnats .u32 v)] (.bool true) := by
  refine FP_of HasL17.h_hurdlelaw17_WindowAssigns (Nat.le_of_ble_eq_true rfl) ?_
  have hsl := hs.2.2.1
  have hst := take_full (k := .u32) hsl
  have h6 := hd.2.2.2.1
  have ht6 := take_full (k := .u64) h6
  have hvt := take_full (k := .u32) hl
  have hal := asgL_len hs hd
  have hat := take_full (k := .u32) hal
  have has := WinAssign_ok (G := G) s d hs hd
  have har := AssignR_ok (G := G) s d hs hd
  have hw1 := WinState_ok (G := G) (asgL s d) hal (asgL_lt hs hd)
  rw [stO_asgL hs, asgL_drop hs, ofW_words hd] at hw1
  have hw2 := WinState_ok (G := G) v hl hv
  have huo := stO_ok hl hv
  have hfo := ofW_ok (w := v.drop 18) (by simp [hl]) (fun x hx => hv x (List.mem_of_mem_drop hx))
  have hb := WinAssign_ok (G := G) (stO v) (ofW (v.drop 18)) huo hfo
  rw [asgL_back hl hv] at hb
  have ul := huo.2.2.1
  have ut := take_full (k := .u32) ul
  have f6 := hfo.2.2.2.1
  have ft6 := take_full (k := .u64) f6
  have hd16 := drop_full (k := .u32) hsl
  generalize stO v = u at hw2 hb ul ut
  generalize ofW (v.drop 18) = f at hw2 hb f6 ft6
  generalize asgL s d = A at hal hat has har hw1
  have hz16 : cnats .u32 (zeros 18) = .int .u32 0 :: .int .u32 0 :: cnats .u32 (zeros 16) := rfl
  have hz0 : (cnats .u32 (zeros 16)).drop 16 = [] := rfl
  have hz34 : (cnats .u32 (zeros 34)).drop 34 = [] := rfl
  simp [SV, DV, St.cs, Da.cs] at has har hw1 hw2 hb
  simp [SV, DV, St.cs, Da.cs, hsl, hst, h6, ht6]
  refine callP_of has ?_
  simp [hal, hat, hsl, hst, h6, ht6, hz34]
  refine callP_of har ?_
  simp [hal, hat, hsl, hst, h6, ht6, hz34]
  refine W_up 34 (fun i => [(3, .ptr 0 0), (4, .ptr 1 0), (5, .ptr 2 0), (7, .ptr 3 0), (8, .vs (nats .u32 A) .no), (9, .int .i64 i)])
    (fun i => [some (.cells s.cs), some (.cells d.cs), some (.cells (cnats .u32 v)), some (.cells (cnats .u32 A))]) (fun _ => True) ?_ ?_
  · simp [keep_cl, trunc, St.cs, Da.cs]
  intro i hi _
  by_cases hlt : i < 34
  · have cg := cnats_get .u32 A i (by omega)
    obtain ⟨y, hy⟩ : ∃ y, y = A[i]'(by omega) := ⟨_, rfl⟩
    have hg : A[i]? = some y := by rw [List.getElem?_eq_getElem (by omega), hy]
    have hgv := hy.symm
    rw [← hy] at cg
    simp (disch := omega) [ltT, leTn, hal, cg, hg, hgv, hlt, add1', keep_cl, trunc, St.cs, Da.cs, -Int.natCast_add]
  · have hne : i = 34 := by omega
    subst hne
    simp [hal, hat, St.cs, Da.cs]
    refine callP_of hw1 ?_
    simp [hsl, hst, h6, ht6, hl, hvt, hz16, hz0]
    refine callP_of hw2 ?_
    simp [hsl, hst, h6, ht6, hl, hvt, hz16, hz0, ul, ut, f6, ft6, e16_of _ hsl, e6_of _ h6]
    refine callP_of hb ?_
    simp [hl, hvt, e34_of _ hl]
    refine callP_of hkn ?_
    simp
end Go.Ev
