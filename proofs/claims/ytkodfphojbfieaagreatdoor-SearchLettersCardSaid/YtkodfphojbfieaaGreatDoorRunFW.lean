/- What data.With computes. -/
import Derived.Test.YtkodfphojbfieaaGreatDoorCheckAW
import Derived.Test.YtkodfphojbfieaaGreatDoorEvBitsCW
import Derived.Test.YtkodfphojbfieaaGreatDoorEvWinCW
import Derived.Test.YtkodfphojbfieaaGreatDoorSymGW
set_option linter.unusedVariables false
set_option linter.unusedSimpArgs false
namespace Go.Ev
open Go Go.RowKit
variable {G : Tbl}
set_option maxRecDepth 10000
set_option maxHeartbeats 2000000
set_option linter.unusedSimpArgs false
set_option linter.unusedVariables false
theorem take3 (a b c : V) (l : List V) (n : Nat) : (a :: b :: c :: l).take (3 + n) = a :: b :: c :: l.take n := by rw [Nat.add_comm]; rfl
theorem drop3 (a b c : V) (l : List V) (n : Nat) : (a :: b :: c :: l).drop (3 + n) = l.drop n := by rw [Nat.add_comm]; rfl
theorem drop31 (a b c : V) (l : List V) (n : Nat) : (a :: b :: c :: l).drop (3 + n + 1) = l.drop (n + 1) := by rw [show 3 + n + 1 = (n + 1) + 3 by omega]; rfl
theorem drop32 (b c : V) (l : List V) (n : Nat) : (b :: c :: l).drop (3 + n) = l.drop (n + 1) := by rw [show 3 + n = (n + 1) + 2 by omega]; rfl
theorem two_or {w : List Nat} (hw : ∀ x ∈ w, x < 4294967296) (i : Nat) : orI .u64 ((w.getD i 0 : Nat) : Int) (shlI .u64 ((w.getD (i + 1) 0 : Nat) : Int) 32) = ((two w i : Nat) : Int) := by
 have hg : ∀ i, w.getD i 0 < 4294967296 := by
  intro i
  rw [List.getD]
  cases h : w[i]? with
  | none => decide
  | some z => exact hw z (List.mem_of_getElem? h)
 exact or_two _ _ (hg i) (hg (i + 1))
def ZD : List V := [.int .u32 0, .int .u32 0, .int .u64 0, .int .u64 0, .int .u64 0, .int .u64 0, .int .u64 0, .int .u64 0, .int .u64 0]
def HG (w : List Nat) (n : Nat) (a b c : Nat) (l : List Nat) : Heap := [some (.cells (cnats .u32 w)), some (.cells ZD), some (.cells [.int .i64 n]), some (.cells (.int .u32 (a : Int) :: .int .u32 (b : Int) :: .int .u64 (c : Int) :: cnats .u64 l))]
theorem get_ok [HasWith G] (w : List Nat) (n a b c : Nat) (l : List Nat) (hl : w.length = 16) (hw : ∀ x ∈ w, x < 4294967296) (hn : n + 1 < 16) :
  Big G (.F 231 [.ptr 0 0, .ptr 2 0] (HG w n a b c l) (.int .u64 (two w n : Nat)) (HG w (n + 2) a b c l)) := by
 have c1 := cnats_get .u32 w n (by omega)
 have c2 := cnats_get .u32 w (n + 1) (by omega)
 have d1 : w.getD n 0 = w[n] := by simp [List.getD, List.getElem?_eq_getElem (show n < w.length by omega)]
 have d2 : w.getD (n + 1) 0 = w[n + 1] := by simp [List.getD, List.getElem?_eq_getElem (show n + 1 < w.length by omega)]
 have ho := two_or hw n
 rw [d1, d2] at ho
 have l1 := hw _ (List.getElem_mem (show n < w.length by omega))
 have l2 := hw _ (List.getElem_mem (show n + 1 < w.length by omega))
 have v1 := convU w[n] (by omega)
 have v2 := convU w[n + 1] (by omega)
 have e1 : addI .i64 (n : Int) 1 = ((n + 1 : Nat) : Int) := add1' (by omega)
 have e2 : addI .i64 (n : Int) 2 = ((n + 2 : Nat) : Int) := addL (n := 2) (by omega)
 have i1 : ((n : Int) < 16) = True := ltT (by omega)
 have i2 : (((n + 1 : Nat) : Int) < 16) = True := ltT (by omega)
 have j1 : (n + 1 ≤ 16) = True := leTn (by omega)
 have j2 : (n + 1 + 1 ≤ 16) = True := leTn (by omega)
 have j3 : (n ≤ 14) = True := leTn (by omega)
 refine F_of HasWith.h_data_of_1 (Nat.le_of_ble_eq_true rfl) ?_
 simp [HG, ZD, e1, e2, i1, i2, j1, j2, j3, c1, c2, v1, v2, ho, hl, -Int.natCast_add]
def fillA (w : List Nat) (i : Nat) : List Nat := (List.range 6).map fun j => if j < i then two w (4 + 2 * j) else 0
theorem fillA_len (w : List Nat) (i : Nat) : (fillA w i).length = 6 := by simp [fillA]
theorem fillA_step (w : List Nat) {i : Nat} (hi : i < 6) : (fillA w i).set i (two w (4 + 2 * i)) = fillA w (i + 1) := by
 apply List.ext_getElem?
 intro j
 rw [List.getElem?_set, fillA_len]
 by_cases h : i = j
 ·subst h
  simp [fillA, hi]
 ·rw [if_neg h]
  by_cases hj : j < 6
  ·simp only [fillA, List.getElem?_map, List.getElem?_range hj, Option.map_some]
   by_cases h2 : j < i
   ·simp [h2, show j < i + 1 by omega]
   ·simp [h2, show ¬ j < i + 1 by omega]
  ·simp [fillA, hj]
theorem fillA_6 (w : List Nat) : fillA w 6 = (ofW w).args := by
 simp only [fillA, ofW]
 apply List.map_congr_left
 intro j hj
 simp [List.mem_range.1 hj]
theorem fillA_0 (w : List Nat) : fillA w 0 = zeros 6 := by
 simp [fillA, zeros, List.range_succ]
theorem of_ok' [HasWith G] (w : List Nat) (hl : w.length = 16) (hw : ∀ x ∈ w, x < 4294967296) : FP G 232 [.agg (cnats .u32 w)] (DV (ofW w)) := by
 refine FP_of HasWith.h_data_of (Nat.le_of_ble_eq_true rfl) ?_
 have htw := take_full (k := .u32) hl
 have c0 : (cnats .u32 w).take 1 = [.int .u32 (w[0] : Nat)] := by have := cnats_get .u32 w 0 (by omega); rwa [List.drop_zero] at this
 have c1 : (cnats .u32 w).tail.take 1 = [.int .u32 (w[1] : Nat)] := by have := cnats_get .u32 w 1 (by omega); rwa [List.drop_one] at this
 have c2 := cnats_get .u32 w 2 (by omega)
 have c3 := cnats_get .u32 w 3 (by omega)
 have d : ∀ i (h : i < 16), w.getD i 0 = w[i] := fun i h => by simp [List.getD, List.getElem?_eq_getElem (show i < w.length by omega)]
 have ho := two_or hw 2
 rw [d 2 (by omega), d 3 (by omega)] at ho
 have l2 := hw _ (List.getElem_mem (show 2 < w.length by omega))
 have l3 := hw _ (List.getElem_mem (show 3 < w.length by omega))
 have v2 := convU w[2] (by omega)
 have v3 := convU w[3] (by omega)
 simp [c0, c1, c2, c3, v2, v3, ho, hl, htw]
 refine W_up 6 (fun i => [(2, .ptr 1 0), (4, .fn 231 [.ptr 0 0, .ptr 2 0]), (5, .ptr 3 0), (21, .int .i64 i)])
  (fun i => HG w (4 + 2 * i) w[0] w[1] (two w 2) (fillA w i)) (fun _ => True) ?_ ?_
 ·have hz6 : cnats .u64 (zeros 6) = [.int .u64 0, .int .u64 0, .int .u64 0, .int .u64 0, .int .u64 0, .int .u64 0] := rfl
  simp [keep_cl, trunc, HG, ZD, fillA_0, hz6, hl, htw]
 intro i hi _
 by_cases hlt : i < 6
 ·have hg := get_ok (G := G) w (4 + 2 * i) w[0] w[1] (two w 2) (fillA w i) hl hw (by omega)
  have hfl := fillA_len w i
  have cs := cnats_set .u64 (fillA w i) i (two w (4 + 2 * i)) (by omega)
  rw [fillA_step w hlt] at cs
  simp [HG, ZD, -Int.natCast_add, -Int.natCast_mul] at hg
  simp (disch := omega) [ltT, leTn, HG, ZD, -Int.natCast_add, -Int.natCast_mul]
  refine callV_of hg (by simp) ?_
  simp (disch := omega) [trunc, take3, drop3, drop31, drop32, hfl, cs, ltT, leTn, add1', hlt, keep_cl, show 4 + 2 * (i + 1) = 4 + 2 * i + 2 from by omega, -Int.natCast_add, -Int.natCast_mul]
 ·have hne : i = 6 := by omega
  subst hne
  have h6 := fillA_6 w
  have h6l := fillA_len w 6
  have ht6 := take_full (k := .u64) h6l
  have e0 := d 0 (by omega)
  have e1 := d 1 (by omega)
  simp [HG, ZD, DV, Da.cs, h6l, ht6]
  rw [← h6]
  simp [ofW, hl]
theorem With_ok [HasData G] [HasWith G] (d : Da) (n v : Nat) (hd : d.ok) (hn : n < 4294967296) (hv : v < 4294967296) : FP G 233 [DV d, .int .u32 n, .int .u32 v] (DV (withS d n v)) := by
 refine FP_of HasWith.h_data_With (Nat.le_of_ble_eq_true rfl) ?_
 have hw := words_ok (G := G) d hd
 have ht := take_full (k := .u64) hd.2.2.2.1
 have h6 := hd.2.2.2.1
 simp [DV, Da.cs] at hw ⊢
 refine callP_of (there_ok n hn) ?_
 by_cases h : n % 4 = 0 ∧ n < 64
 ·have hq : quoI .u32 (n : Int) 4 = ((n / 4 : Nat) : Int) := quo32 (b := 4) hn (by decide)
  have hl := wordsD_len h6
  have htw := take_full (k := .u32) hl
  have cs := cnats_set .u32 (wordsD d) (n / 4) v (by omega)
  have hl2 : ((wordsD d).set (n / 4) v).length = 16 := by rw [List.length_set]; exact hl
  have htw2 := take_full (k := .u32) hl2
  have hof := of_ok' (G := G) ((wordsD d).set (n / 4) v) hl2 (set_lt (wordsD_lt hd) hv)
  have ho6 : (ofW ((wordsD d).set (n / 4) v)).args.length = 6 := by simp [ofW]
  have ht2 := take_full (k := .u64) ho6
  simp [DV, Da.cs] at hof
  simp [h, h6, ht, withS]
  refine callP_of hw ?_
  simp (disch := omega) [hq, ltT, leTn, hl, htw, cs, hl2, htw2, -Int.natCast_ediv]
  refine callP_of hof ?_
  simp [ho6, ht2]
 ·simp [h, withS, h6, ht]
end Go.Ev
/- Windows that are run, and their variables' numbers: plain. -/
namespace Go.Ev
open Go Go.RowKit
variable {G : Tbl}
set_option maxRecDepth 10000
set_option maxHeartbeats 2000000
set_option linter.unusedSimpArgs false
set_option linter.unusedVariables false
def runW (d : Da) : List In4 → St → St × Nat
 | [], s => (s, 0)
 | x :: w, s => if (stepS s x d).2 then ((runW d w (stepS s x d).1).1, (runW d w (stepS s x d).1).2 + 1) else (s, 0)
theorem runW_le (d : Da) : ∀ (w : List In4) (s : St), (runW d w s).2 ≤ w.length
 | [], s => Nat.zero_le _
 | x :: w, s => by
  have := runW_le d w (stepS s x d).1
  simp only [runW, List.length_cons]
  split
  ·simp only; omega
  ·simp
theorem runW_ok {d : Da} (hd : d.ok) : ∀ (w : List In4) (s : St), s.ok → (∀ x ∈ w, x.k < 4294967296) → (runW d w s).1.ok
 | [], s, hs, _ => hs
 | x :: w, s, hs, hk => by
  have := runW_ok hd w (stepS s x d).1 (stepS_ok' hs (hk x (by simp)) hd) (fun y hy => hk y (by simp [hy]))
  simp only [runW]
  split
  ·exact this
  ·exact hs
def asgL (s : St) (d : Da) : List Nat := s.a :: s.x :: (s.m ++ wordsD d)
def stO (v : List Nat) : St := ⟨v.getD 0 0, v.getD 1 0, (v.drop 2).take 16⟩
theorem asgL_len {s : St} {d : Da} (hs : s.ok) (hd : d.ok) : (asgL s d).length = 34 := by
 simp [asgL, hs.2.2.1, wordsD_len hd.2.2.2.1]
theorem asgL_lt {s : St} {d : Da} (hs : s.ok) (hd : d.ok) : ∀ x ∈ asgL s d, x < 4294967296 := by
 intro x hx
 simp only [asgL, List.mem_cons, List.mem_append] at hx
 rcases hx with rfl | rfl | hx | hx
 ·exact hs.1
 ·exact hs.2.1
 ·exact hs.2.2.2 x hx
 ·exact wordsD_lt hd x hx
def wAt (v : List Nat) (i : Nat) : List Nat := (v.drop 18).take i ++ zeros (16 - i)
theorem wAt_len {v : List Nat} (hl : v.length = 34) {i : Nat} (hi : i ≤ 16) : (wAt v i).length = 16 := by
 simp [wAt, hl]; omega
theorem wAt_lt {v : List Nat} (hv : ∀ x ∈ v, x < 4294967296) (i : Nat) : ∀ x ∈ wAt v i, x < 4294967296 := by
 intro x hx
 simp only [wAt, List.mem_append, zeros, List.mem_replicate] at hx
 rcases hx with hx | hx
 ·exact hv x (List.mem_of_mem_drop (List.mem_of_mem_take hx))
 ·omega
theorem wAt_set {v : List Nat} (hl : v.length = 34) {i : Nat} (hi : i < 16) : (wAt v i).set i (v[18 + i]'(by omega)) = wAt v (i + 1) := by
 apply List.ext_getElem?
 intro j
 have hg : ∀ i, i ≤ 16 → ∀ j, (wAt v i)[j]? = if j < i then v[18 + j]? else if j < 16 then some 0 else none := by
  intro i hi j
  rw [wAt, List.getElem?_append, List.length_take, List.length_drop, hl, List.getElem?_take, List.getElem?_drop]
  by_cases h1 : j < i
  ·rw [if_pos (by omega), if_pos h1, if_pos h1]
  ·rw [if_neg (by omega), if_neg h1]
   by_cases h2 : j < 16
   ·rw [if_pos h2]; simp [zeros, List.getElem?_replicate]; omega
   ·rw [if_neg h2]; simp [zeros, List.getElem?_replicate]; omega
 rw [List.getElem?_set, wAt_len hl (by omega), hg i (by omega), hg (i + 1) (by omega)]
 by_cases e : i = j
 ·subst e
  rw [if_pos rfl, if_pos hi, if_pos (by omega), List.getElem?_eq_getElem (by omega)]
 ·rw [if_neg e]
  by_cases h1 : j < i
  ·rw [if_pos h1, if_pos (by omega)]
  ·rw [if_neg h1]
   by_cases h2 : j < i + 1
   ·omega
   ·rw [if_neg h2]
theorem with_wAt {v : List Nat} (hl : v.length = 34) (hv : ∀ x ∈ v, x < 4294967296) {i : Nat} (hi : i < 16) : withS (ofW (wAt v i)) (4 * i) (v[18 + i]'(by omega)) = ofW (wAt v (i + 1)) := by
 rw [withS, if_pos ⟨by omega, by omega⟩, words_of (wAt_len hl (by omega)) (wAt_lt hv i), show 4 * i / 4 = i by omega, wAt_set hl hi]
theorem wAt_16 {v : List Nat} (hl : v.length = 34) : wAt v 16 = v.drop 18 := by
 rw [wAt, show zeros (16 - 16) = [] from rfl, List.append_nil, List.take_of_length_le (by simp [hl])]
theorem wAt_0 (v : List Nat) : wAt v 0 = zeros 16 := by simp [wAt]
theorem asgL_drop {s : St} {d : Da} (hs : s.ok) : (asgL s d).drop 18 = wordsD d := by
 simp only [asgL, List.drop_succ_cons]
 rw [List.drop_left' hs.2.2.1]
theorem stO_ok {v : List Nat} (hl : v.length = 34) (hv : ∀ x ∈ v, x < 4294967296) : (stO v).ok := by
 have hg : ∀ i, v.getD i 0 < 4294967296 := by
  intro i
  rw [List.getD]
  cases h : v[i]? with
  | none => decide
  | some z => exact hv z (List.mem_of_getElem? h)
 exact ⟨hg 0, hg 1, by simp [stO, hl], fun x hx => hv x (List.mem_of_mem_drop (List.mem_of_mem_take hx))⟩
end Go.Ev
/- Windows that are run, by window and by hurdleref17; the laws WindowRuns, WindowRows, WindowNone. -/
namespace Go.Ev
open Go Go.RowKit
variable {G : Tbl}
set_option maxRecDepth 10000
set_option maxHeartbeats 4000000
set_option linter.unusedSimpArgs false
set_option linter.unusedVariables false
theorem WinRun_ok [HasWd G] [HasNeg G] [HasIns G] [HasCheck G] [HasData G] [HasStep G] [HasWRight G] [HasWinRun G] (w : List In4) (s : St) (d : Da) (hf : w.length ≤ maxLen) (hk : ∀ x ∈ w, x.k < 4294967296) (hs : s.ok) (hd : d.ok) (hw : winB w = true) :
  FP G 292 [FL w, SV s, DV d] (.tup [SV (runW d w s).1, .int .i64 ((runW d w s).2 : Nat)]) := by
 refine FP_of HasWinRun.h_window_Run (Nat.le_of_ble_eq_true rfl) ?_
 have hr := WRight_ok (G := G) w hf hk
 rw [hw] at hr
 have hwl : w.length ≤ 32 := by simp only [winB, Bool.and_eq_true, decide_eq_true_eq] at hw; exact hw.1
 have hl := hs.2.2.1
 have htk := take_full (k := .u32) hl
 have h6 := hd.2.2.2.1
 have ht6 := take_full (k := .u64) h6
 obtain ⟨R, hR⟩ : ∃ R, R = runW d w s := ⟨_, rfl⟩
 have hRl := runW_le d w s
 have hRo := runW_ok hd w s hs hk
 rw [← hR] at hRl hRo ⊢
 simp [FL] at hr
 simp [FL, SV, DV, St.cs, Da.cs]
 refine callP_of hr ?_
 simp [hl, htk]
 refine W_state (fun z : St × Nat => w.length - z.2) (fun z => [(0, FL w), (4, .ptr 0 0), (5, .ptr 1 0), (6, .ptr 2 0), (16, FL w), (17, .int .i64 w.length), (18, .int .i64 z.2)])
  (fun z => [some (.cells z.1.cs), some (.cells d.cs), some (.cells (cnats .u32 (zeros 18)))])
  (fun z => z.2 ≤ w.length ∧ z.1.ok ∧ (runW d (w.drop z.2) z.1).1 = R.1 ∧ z.2 + (runW d (w.drop z.2) z.1).2 = R.2) (s, 0) ?_ ?_
 ·refine ⟨⟨Nat.zero_le _, hs, by simp [hR], by simp [hR]⟩, ?_, ?_⟩
  ·simp [keep_cl, FL]
  ·simp [trunc, Da.cs, St.cs]
 rintro ⟨t, i⟩ ⟨hi, ht, hr1, hr2⟩
 simp only at hi ht hr1 hr2
 have hl1 := ht.2.2.1
 have htk1 := take_full (k := .u32) hl1
 by_cases hlt : i < w.length
 ·obtain ⟨x, hfx⟩ : ∃ x, x = w[i] := ⟨_, rfl⟩
  have hg : w[i]? = some x := by rw [List.getElem?_eq_getElem hlt, hfx]
  have hgv := hfx.symm
  have hdr := List.drop_eq_getElem_cons hlt
  rw [hgv] at hdr
  have hkk := hk x (hgv ▸ List.getElem_mem hlt)
  have hcs : x.cs = [.int .i64 x.op, .int .i64 x.jt, .int .i64 x.jf, .int .u32 (x.k : Int)] := rfl
  have hst := Step_ok (G := G) t x d ht hkk hd
  have hso := stepS_ok' ht hkk hd
  have hl2 := hso.2.2.1
  have htk2 := take_full (k := .u32) hl2
  have hdf := drop_full (k := .u32) hl1
  have hz16 : cnats .u32 (zeros 18) = .int .u32 0 :: .int .u32 0 :: cnats .u32 (zeros 16) := rfl
  rw [hdr] at hr1 hr2
  simp only [runW] at hr1 hr2
  simp [SV, IV, DV, hcs, St.cs, Da.cs] at hst
  simp (disch := omega) [ltT, FL, hg, hgv, hcs, St.cs, Da.cs, hl1, htk1, h6, ht6, -Int.natCast_add]
  refine callP_of hst ?_
  cases hok : (stepS t x d).2
  ·rw [hok] at hr1 hr2
   simp only [Bool.false_eq_true, if_false] at hr1 hr2
   simp [hl1, htk1, hl2, htk2, hdf, hz16, -Int.natCast_add]
   rw [← hr1, ← hr2]
   simp [St.cs]
  ·rw [hok] at hr1 hr2
   simp only [if_true] at hr1 hr2
   simp (disch := omega) [hl1, htk1, hl2, htk2, hdf, add1', -Int.natCast_add]
   refine ⟨((stepS t x d).1, i + 1), by simp only; omega, ⟨by simp only; omega, hso, hr1, by simp only; omega⟩, ?_, ?_⟩
   ·simp [keep_cl, FL, -Int.natCast_add]
   ·simp [trunc, Da.cs, St.cs, hl1, htk1, hl2, htk2, hdf]
 ·have hne : i = w.length := by omega
  subst hne
  rw [List.drop_length] at hr1 hr2
  simp only [runW] at hr1 hr2
  have hz16 : cnats .u32 (zeros 18) = .int .u32 0 :: .int .u32 0 :: cnats .u32 (zeros 16) := rfl
  simp [FL, St.cs, Da.cs, hl1, htk1, hz16]
  rw [← hr1, ← hr2]
  simp [St.cs]
theorem WinRunR_ok [HasR2 G] [hR1 : HasR1 G] [HasR1n G] [HasR4 G] [HasR6s G] [HasR17r G] (w : List In4) (s : St) (d : Da) (hf : w.length ≤ 1000000) (hk : ∀ x ∈ w, x.k < 4294967296) (hs : s.ok) (hd : d.ok) :
  FP G 297 [FL w, SV s, DV d] (.tup [SV (runW d w s).1, .int .i64 ((runW d w s).2 : Nat)]) := by
 refine FP_of HasR17r.h_hurdleref17_Run (Nat.le_of_ble_eq_true rfl) ?_
 have hl := hs.2.2.1
 have htk := take_full (k := .u32) hl
 have h6 := hd.2.2.2.1
 have ht6 := take_full (k := .u64) h6
 obtain ⟨R, hR⟩ : ∃ R, R = runW d w s := ⟨_, rfl⟩
 have hRl := runW_le d w s
 have hRo := runW_ok hd w s hs hk
 rw [← hR] at hRl hRo ⊢
 simp [FL, SV, DV, St.cs, Da.cs]
 refine W_state (fun z : St × Nat => w.length - z.2) (fun z => [(0, FL w), (4, .ptr 0 0), (5, .ptr 1 0), (6, .ptr 2 0), (8, .int .i64 z.2), (9, .int .i64 z.2)])
  (fun z => [some (.cells z.1.cs), some (.cells d.cs), some (.cells (cnats .u32 (zeros 18)))])
  (fun z => z.2 ≤ w.length ∧ z.1.ok ∧ (runW d (w.drop z.2) z.1).1 = R.1 ∧ z.2 + (runW d (w.drop z.2) z.1).2 = R.2) (s, 0) ?_ ?_
 ·refine ⟨⟨Nat.zero_le _, hs, by simp [hR], by simp [hR]⟩, ?_, ?_⟩
  ·simp [keep_cl, FL]
  ·simp [trunc, Da.cs, St.cs]
 rintro ⟨t, i⟩ ⟨hi, ht, hr1, hr2⟩
 simp only at hi ht hr1 hr2
 have hl1 := ht.2.2.1
 have htk1 := take_full (k := .u32) hl1
 have hz16 : cnats .u32 (zeros 18) = .int .u32 0 :: .int .u32 0 :: cnats .u32 (zeros 16) := rfl
 by_cases hlt : i < w.length
 ·obtain ⟨x, hfx⟩ : ∃ x, x = w[i] := ⟨_, rfl⟩
  have hg : w[i]? = some x := by rw [List.getElem?_eq_getElem hlt, hfx]
  have hgv := hfx.symm
  have hdr := List.drop_eq_getElem_cons hlt
  rw [hgv] at hdr
  have hkk := hk x (hgv ▸ List.getElem_mem hlt)
  have hcs : x.cs = [.int .i64 x.op, .int .i64 x.jt, .int .i64 x.jf, .int .u32 (x.k : Int)] := rfl
  have hst := Step6_ok (G := G) t x d ht hkk hd
  have hso := stepS_ok' ht hkk hd
  have hl2 := hso.2.2.1
  have htk2 := take_full (k := .u32) hl2
  have hdf := drop_full (k := .u32) hl1
  rw [hdr] at hr1 hr2
  simp only [runW] at hr1 hr2
  simp [SV, IV, DV, hcs, St.cs, Da.cs] at hst
  simp (disch := omega) [ltT, FL, hg, hgv, hcs, St.cs, Da.cs, hl1, htk1, h6, ht6, -Int.natCast_add]
  refine callP_of hst ?_
  cases hok : (stepS t x d).2
  ·rw [hok] at hr1 hr2
   simp only [Bool.false_eq_true, if_false] at hr1 hr2
   simp [hl1, htk1, hl2, htk2, hdf, hz16, -Int.natCast_add]
   rw [← hr1, ← hr2]
   simp [St.cs]
  ·rw [hok] at hr1 hr2
   simp only [if_true] at hr1 hr2
   simp (disch := omega) [hl1, htk1, hl2, htk2, hdf, add1', -Int.natCast_add]
   refine ⟨((stepS t x d).1, i + 1), by simp only; omega, ⟨by simp only; omega, hso, hr1, by simp only; omega⟩, ?_, ?_⟩
   ·simp [keep_cl, FL, -Int.natCast_add]
   ·simp [trunc, Da.cs, St.cs, hl1, htk1, hl2, htk2, hdf]
 ·have hne : i = w.length := by omega
  subst hne
  rw [List.drop_length] at hr1 hr2
  simp only [runW] at hr1 hr2
  simp (disch := omega) [ltF, FL, St.cs, Da.cs, hl1, htk1, hz16]
  rw [← hr1, ← hr2]
  simp [St.cs]
end Go.Ev
/- The variables' numbers, and back; the law WindowAssigns. -/
namespace Go.Ev
open Go Go.RowKit
variable {G : Tbl}
set_option maxRecDepth 10000
set_option maxHeartbeats 4000000
set_option linter.unusedSimpArgs false
set_option linter.unusedVariables false
def asAt (s : St) (d : Da) (i : Nat) : List Nat := s.a :: s.x :: (s.m ++ ((wordsD d).take i ++ zeros (16 - i)))
theorem asAt_len {s : St} {d : Da} (hs : s.ok) (hd : d.ok) {i : Nat} (hi : i ≤ 16) : (asAt s d i).length = 34 := by
 simp [asAt, hs.2.2.1, wordsD_len hd.2.2.2.1]; omega
theorem asAt_16 {s : St} {d : Da} (hd : d.ok) : asAt s d 16 = asgL s d := by
 rw [asAt, show zeros (16 - 16) = [] from rfl, List.append_nil, List.take_of_length_le (by rw [wordsD_len hd.2.2.2.1]; exact Nat.le_refl _), asgL]
theorem asAt_set {s : St} {d : Da} (hs : s.ok) (hd : d.ok) {i : Nat} (hi : i < 16) : (asAt s d i).set (18 + i) ((wordsD d).getD i 0) = asAt s d (i + 1) := by
 have hw := wordsD_len hd.2.2.2.1
 have hm := hs.2.2.1
 have hg : (wordsD d).getD i 0 = (wordsD d)[i]'(by omega) := by simp [List.getD, List.getElem?_eq_getElem (show i < (wordsD d).length by omega)]
 rw [hg]
 have e1 : 18 + i = (16 + i) + 1 + 1 := by omega
 simp only [asAt, e1, List.set_cons_succ]
 congr 2
 rw [List.set_append_right _ _ (by omega), hm, show 16 + i - 16 = i by omega]
 congr 1
 rw [List.set_append_right _ _ (by rw [List.length_take]; omega), List.length_take, Nat.min_eq_left (by omega), Nat.sub_self, List.take_succ_eq_append_getElem (by omega), List.append_assoc]
 congr 1
 rw [show 16 - i = (16 - (i + 1)) + 1 by omega]
 rfl
theorem WinAssign_ok [HasData G] [HasWinAsg G] (s : St) (d : Da) (hs : s.ok) (hd : d.ok) : FP G 293 [SV s, DV d] (.agg (cnats .u32 (asgL s d))) := by
 refine FP_of HasWinAsg.h_window_Assign (Nat.le_of_ble_eq_true rfl) ?_
 have hl := hs.2.2.1
 have htk := take_full (k := .u32) hl
 have h6 := hd.2.2.2.1
 have ht6 := take_full (k := .u64) h6
 have hz : cnats .u32 (zeros 34) = .int .u32 0 :: .int .u32 0 :: cnats .u32 (zeros 32) := rfl
 have hz2 : (cnats .u32 (zeros 32)).drop 16 = cnats .u32 (zeros 16) := rfl
 have h0 : asAt s d 0 = s.a :: s.x :: (s.m ++ zeros 16) := by simp [asAt]
 have hcap : ∀ l m : List Nat, cnats .u32 (l ++ m) = cnats .u32 l ++ cnats .u32 m := fun l m => by simp [cnats]
 simp [SV, DV, St.cs, Da.cs, hz, hl, htk, hz2]
 refine W_up 16 (fun i => [(3, .ptr 1 0), (4, .ptr 2 0), (5, .ptr 3 0), (17, .int .i64 i)])
  (fun i => [some (.cells s.cs), some (.cells d.cs), some (.cells (cnats .u32 (zeros 34))), some (.cells (cnats .u32 (asAt s d i)))]) (fun _ => True) ?_ ?_
 ·have hj : clL 4 (cnats .u32 s.m ++ cnats .u32 (zeros 16)) = cnats .u32 (s.m ++ zeros 16) := by rw [← hcap]; simp
  simp [keep_cl, trunc, St.cs, Da.cs, h0, hz, hj]
  rfl
 intro i hi _
 by_cases hlt : i < 16
 ·have hw := Word_ok (G := G) d (4 * i) hd (by omega)
  have hw2 : wordS d (4 * i) = ((wordsD d).getD i 0, true) := by rw [wordS, if_pos ⟨by omega, by omega⟩, show 4 * i / 4 = i by omega]
  rw [hw2] at hw
  have hal := asAt_len hs hd hi
  have cs := cnats_set .u32 (asAt s d i) (18 + i) ((wordsD d).getD i 0) (by omega)
  rw [asAt_set hs hd hlt] at cs
  obtain ⟨x, hx⟩ : ∃ x, x = (wordsD d).getD i 0 := ⟨_, rfl⟩
  rw [← hx] at cs hw
  have e1 : addI .i64 18 (i : Int) = ((18 + i : Nat) : Int) := by rw [show (18 : Int) = ((18 : Nat) : Int) from rfl]; exact addN (by omega)
  have e2 : mulI .i64 4 (i : Int) = ((4 * i : Nat) : Int) := by unfold mulI; rw [show (4 : Int) * (i : Int) = ((4 * i : Nat) : Int) by omega]; exact IntWalk.i64_in _ ⟨by omega, by omega⟩
  have e3 : convI .u32 ((4 * i : Nat) : Int) = ((4 * i : Nat) : Int) := by unfold convI; exact IntWalk.u32_in _ ⟨by omega, by omega⟩
  simp [DV, Da.cs, -Int.natCast_mul] at hw
  simp (disch := omega) [ltT, leTn, e1, e2, e3, Da.cs, h6, ht6, -Int.natCast_add, -Int.natCast_mul]
  refine callP_of hw ?_
  simp (disch := omega) [ltT, leTn, hal, cs, hlt, add1', keep_cl, trunc, St.cs, Da.cs, h6, ht6, -Int.natCast_add, -Int.natCast_mul]
 ·have hne : i = 16 := by omega
  subst hne
  have hal := asgL_len hs hd
  have ht := take_full (k := .u32) hal
  have e16 := asAt_16 (s := s) hd
  simp [e16, hal, ht]
theorem WinState_ok [HasData G] [HasWith G] [HasWinState G] (v : List Nat) (hl : v.length = 34) (hv : ∀ x ∈ v, x < 4294967296) : FP G 294 [.agg (cnats .u32 v)] (.tup [SV (stO v), DV (ofW (v.drop 18))]) := by
 refine FP_of HasWinState.h_window_State (Nat.le_of_ble_eq_true rfl) ?_
 have htk := take_full (k := .u32) hl
 obtain ⟨a, hva⟩ : ∃ a, a = v[0] := ⟨_, rfl⟩
 obtain ⟨x, hvx⟩ : ∃ x, x = v[1] := ⟨_, rfl⟩
 have c0 : (cnats .u32 v).take 1 = [.int .u32 (a : Nat)] := by have := cnats_get .u32 v 0 (by omega); rwa [List.drop_zero, ← hva] at this
 have c1 : (cnats .u32 v).tail.take 1 = [.int .u32 (x : Nat)] := by have := cnats_get .u32 v 1 (by omega); rwa [List.drop_one, ← hvx] at this
 obtain ⟨m, hm⟩ : ∃ m, m = (v.drop 2).take 16 := ⟨_, rfl⟩
 have hml : m.length = 16 := by rw [hm]; simp [hl]
 have cm : ((cnats .u32 v).drop 2).take 16 = cnats .u32 m := by rw [hm]; simp [cnats, List.map_drop, List.map_take]
 have hmk := take_full (k := .u32) hml
 have hst : stO v = ⟨a, x, m⟩ := by
  rw [hva, hvx, hm]
  simp [stO, List.getD, List.getElem?_eq_getElem (show 0 < v.length by omega), List.getElem?_eq_getElem (show 1 < v.length by omega)]
 have hz : cnats .u32 (zeros 18) = .int .u32 0 :: .int .u32 0 :: cnats .u32 (zeros 16) := rfl
 have hz2 : (cnats .u32 (zeros 16)).drop 16 = [] := rfl
 have h0 : ofW (wAt v 0) = ⟨0, 0, 0, zeros 6⟩ := by rw [wAt_0]; rfl
 have hz6 : cnats .u64 (zeros 6) = [.int .u64 0, .int .u64 0, .int .u64 0, .int .u64 0, .int .u64 0, .int .u64 0] := rfl
 simp [hl, htk, c0, c1, cm, hz, hz2, hml, hmk]
 refine W_up 16 (fun i => [(1, .ptr 0 0), (2, .ptr 1 0), (3, .ptr 2 0), (4, .ptr 3 0), (5, .ptr 4 0), (16, .int .i64 i)])
  (fun i => [some (.cells (cnats .u32 v)), some (.cells (cnats .u32 (zeros 18))), some (.cells ZD), some (.cells (St.cs ⟨a, x, m⟩)), some (.cells (ofW (wAt v i)).cs)]) (fun _ => True) ?_ ?_
 ·simp [keep_cl, trunc, St.cs, Da.cs, h0, hz, hz6, ZD]
 intro i hi _
 have hok := ofW_ok (wAt_len hl hi) (wAt_lt hv i)
 have h6 := hok.2.2.2.1
 have ht6 := take_full (k := .u64) h6
 by_cases hlt : i < 16
 ·have hw := With_ok (G := G) (ofW (wAt v i)) (4 * i) (v[18 + i]'(by omega)) hok (by omega) (hv _ (List.getElem_mem _))
  rw [with_wAt hl hv hlt] at hw
  have hok2 := ofW_ok (wAt_len hl (show i + 1 ≤ 16 by omega)) (wAt_lt hv (i + 1))
  have k6 := hok2.2.2.2.1
  have kt6 := take_full (k := .u64) k6
  have cg := cnats_get .u32 v (18 + i) (by omega)
  generalize ofW (wAt v i) = D at hw h6 ht6
  obtain ⟨D', hD'⟩ : ∃ D', D' = ofW (wAt v (i + 1)) := ⟨_, rfl⟩
  rw [← hD'] at hw k6 kt6
  obtain ⟨y, hy⟩ : ∃ y, y = v[18 + i]'(by omega) := ⟨_, rfl⟩
  rw [← hy] at hw cg
  have e1 : addI .i64 18 (i : Int) = ((18 + i : Nat) : Int) := by rw [show (18 : Int) = ((18 : Nat) : Int) from rfl]; exact addN (by omega)
  have e2 : mulI .i64 4 (i : Int) = ((4 * i : Nat) : Int) := by unfold mulI; rw [show (4 : Int) * (i : Int) = ((4 * i : Nat) : Int) by omega]; exact IntWalk.i64_in _ ⟨by omega, by omega⟩
  have e3 : convI .u32 ((4 * i : Nat) : Int) = ((4 * i : Nat) : Int) := by unfold convI; exact IntWalk.u32_in _ ⟨by omega, by omega⟩
  simp [DV, Da.cs, -Int.natCast_mul] at hw
  simp (disch := omega) [ltT, leTn, e1, e2, e3, Da.cs, h6, ht6, hl, cg, -Int.natCast_add, -Int.natCast_mul]
  refine callP_of hw ?_
  simp (disch := omega) [ltT, leTn, hlt, add1', keep_cl, trunc, St.cs, Da.cs, ZD, h6, ht6, k6, kt6, ← hD', drop_full (k := .u64) h6, -Int.natCast_add, -Int.natCast_mul]
 ·have hne : i = 16 := by omega
  subst hne
  rw [wAt_16 hl] at h6 ht6 ⊢
  simp [St.cs, Da.cs, ZD, h6, ht6, hml, hmk, hz, hst, SV, DV]
end Go.Ev
/- A window's values are what it makes of a state: plain laws. -/
namespace Go.Ev
open Go Go.RowKit
set_option maxRecDepth 10000
set_option maxHeartbeats 1000000
set_option linter.unusedSimpArgs false
set_option linter.unusedVariables false
variable {L L' : List Nd} {v : List Nat}
theorem hasI_nat {n : Nat} (h : n < L.length) : hasI L (n : Int) = true := by simp [hasI]; exact h
theorem valI_extI {k : Nat} {x : Int} (e : Ext L L' k) (h : hasI L x = true) : hasI L' x = true ∧ valI v L' x = valI v L x := by
 obtain ⟨h0, h1⟩ : 0 ≤ x ∧ x < L.length := by simpa [hasI] using h
 obtain ⟨n, rfl⟩ := Int.eq_ofNat_of_zero_le h0
 have := e.pre.length_le
 exact ⟨hasI_nat (by omega), valI_ext e (by omega)⟩
theorem Res.has {q : Int × List Nd} {o : Option Nat} (h : Res v q o) : hasI q.2 q.1 = true ∧ valI v q.2 q.1 = o := by
 obtain ⟨n, h1, h2, h3⟩ := h
 rw [h1]
 exact ⟨hasI_nat h2, h3⟩
def pt (t : St) : List Nat := t.a :: t.x :: t.m
structure PV (v : List Nat) (L : List Nd) (p : List Int) (t : St) : Prop where
 len : p.length = 18
 val : ∀ i, i < 18 → hasI L (p.getD i 0) = true ∧ valI v L (p.getD i 0) = some ((pt t).getD i 0)
theorem pt_len {t : St} (h : t.ok) : (pt t).length = 18 := by simp [pt, h.2.2.1]
theorem PV.set {p : List Int} {t t' : St} {k i n : Nat} {x : Int} (h : PV v L p t) (e : Ext L L' k) (hx : hasI L' x = true) (hv : valI v L' x = some n) (hi : i < 18) (hl : (pt t).length = 18) (ht : pt t' = (pt t).set i n) : PV v L' (p.set i x) t' := by
 refine ⟨by rw [List.length_set]; exact h.len, fun j hj => ?_⟩
 rw [ht, List.getD_eq_getElem?_getD, List.getD_eq_getElem?_getD, List.getElem?_set, List.getElem?_set]
 by_cases hij : i = j
 ·subst hij
  simp only [if_true, h.len, hl, hi, Option.getD_some]
  exact ⟨hx, hv⟩
 ·simp only [hij, if_false, ← List.getD_eq_getElem?_getD]
  obtain ⟨h1, h2⟩ := h.val j hj
  obtain ⟨h3, h4⟩ := valI_extI (v := v) e h1
  exact ⟨h3, by rw [h4, h2]⟩
theorem PV.same {p : List Int} {t : St} {k : Nat} (h : PV v L p t) (e : Ext L L' k) : PV v L' p t :=
 ⟨h.len, fun j hj => by obtain ⟨h1, h2⟩ := h.val j hj; obtain ⟨h3, h4⟩ := valI_extI (v := v) e h1; exact ⟨h3, by rw [h4, h2]⟩⟩
theorem aluT_valid {op : Int} (h : (aluT op).2.2 = true) : (doW (aluT op).1 0 1).2 = true := by
 unfold aluT at h ⊢
 split at h
 ·rename_i hm
  rw [if_pos hm]
  simp only [List.mem_cons, List.not_mem_nil, or_false] at hm
  rcases hm with rfl | rfl | rfl | rfl | rfl | rfl | rfl | rfl | rfl <;> decide
 ·rename_i hn
  rw [if_neg hn]
  split at h
  ·rename_i hm
   rw [if_pos hm]
   simp only [List.mem_cons, List.not_mem_nil, or_false] at hm
   rcases hm with rfl | rfl | rfl | rfl | rfl | rfl | rfl | rfl | rfl <;> decide
  ·cases h
theorem step_val {s : VS} {t : St} {st0 : St} {d : Da} {x : In4} (hi : Inv s.L) (h : PV (asgL st0 d) s.L s.p t) (hs0 : st0.ok) (hd : d.ok) (ht : t.ok) (hk : x.k < 4294967296) (hx : plainW x = true) (hgo : (stepS t x d).2 = true) :
  PV (asgL st0 d) (stepV s x).L (stepV s x).p (stepS t x d).1 := by
 have hv := asgL_len hs0 hd
 have hvw := asgL_lt hs0 hd
 obtain ⟨v, hvd⟩ : ∃ v, v = asgL st0 d := ⟨_, rfl⟩
 have hw18 : ∀ j, j < 16 → v[18 + j]?.getD 0 = (wordsD d).getD j 0 := fun j hj => by
  have := asgL_drop (d := d) hs0
  rw [← hvd] at this
  rw [List.getD_eq_getElem?_getD, ← this, List.getElem?_drop]
 rw [← hvd] at h hv hvw ⊢
 have hl := pt_len ht
 have rk : ∀ (q : Int × List Nd) (n : Nat), Res v q (some n) → ∀ (i k : Nat) (t' : St), Ext s.L q.2 k → i < 18 → pt t' = (pt t).set i n → PV v q.2 (s.p.set i q.1) t' := fun q n hr i k t' e hi' ht' => by
  obtain ⟨h1, h2⟩ := hr.has
  exact h.set e h1 h2 hi' hl ht'
 have cp : ∀ (i j : Nat) (t' : St), i < 18 → j < 18 → pt t' = (pt t).set i ((pt t).getD j 0) → PV v s.L (s.p.set i (s.p.getD j 0)) t' := fun i j t' hi' hj ht' => by
  obtain ⟨h1, h2⟩ := h.val j hj
  exact h.set (.refl hi 0) h1 h2 hi' hl ht'
 have rc : Res v (putN s.L (sumNd (x.k :: zeros 34))) (some x.k) := const_res hi hv hk
 have ec : Ext s.L (putN s.L (sumNd (x.k :: zeros 34))).2 1 := (put_ext hi (sum_good (by simp) (const_lt hk) _)).1
 have hmem : x.op = 96 ∨ x.op = 97 ∨ x.op = 2 ∨ x.op = 3 → x.k < 16 := fun ho => by
  simp only [plainW, Bool.and_eq_true] at hx
  have h2 := hx.2
  rcases ho with ho | ho | ho | ho <;> simp [ruleB, ho] at h2 <;> exact h2
 have hld : x.op = 32 → x.k % 4 = 0 ∧ x.k < 64 := fun ho => by
  simp only [plainW, Bool.and_eq_true] at hx
  have h2 := hx.2
  simp [ruleB, ho] at h2; exact h2
 cases hal : (aluT x.op).2.2 with
 | true =>
  rw [stepS, if_pos hal] at hgo
  simp only at hgo
  have hst : (stepS t x d).1 = { t with a := (aluR t x).1 } := by rw [stepS, if_pos hal]; simp only [hgo, if_true]
  rw [hst, stepV, if_pos hal]
  -- by what
  have hby : Ext s.L (byV s x).2 1 ∧ hasI (byV s x).2 (byV s x).1 = true ∧ valI v (byV s x).2 (byV s x).1 = some (aluB t x) := by
   rw [byV, aluB]
   cases hb : (aluT x.op).2.1 with
   | true =>
    simp only [if_true]
    obtain ⟨h1, h2⟩ := h.val 1 (by omega)
    exact ⟨.refl hi 1, h1, h2⟩
   | false =>
    simp only [Bool.false_eq_true, if_false]
    obtain ⟨h1, h2⟩ := rc.has
    exact ⟨ec, h1, h2⟩
  obtain ⟨e1, b1, b2⟩ := hby
  obtain ⟨p1, p2⟩ := h.val 0 (by omega)
  obtain ⟨p3, p4⟩ := valI_extI (v := v) e1 p1
  have r := alu_res (v := v) (kind := (aluT x.op).1) (x := s.p.getD 0 0) (y := (byV s x).1) e1.inv hv hvw (aluT_valid hal) p3 b1
  rw [p4, p2, b2] at r
  have ha : (pt t).getD 0 0 = t.a := rfl
  have hr : aluV (aluT x.op).1 (some t.a) (some (aluB t x)) = some (aluR t x).1 := aluV_some hgo
  rw [ha, hr] at r
  exact rk _ _ r 0 3 _ (e1.trans (alu_ext e1.inv)) (by omega) rfl
 | false =>
  have hst : (stepS t x d).1 = stepO t x d := by rw [stepS, if_neg (by simp [hal])]
  rw [hst, stepV, if_neg (by simp [hal]), stepO]
  by_cases o0 : x.op = 0
  ·simp only [o0, if_true]
   exact rk _ _ rc 0 1 _ ec (by omega) rfl
  by_cases o1 : x.op = 1
  ·simp only [o1, if_true]
   exact rk _ _ rc 1 1 _ ec (by omega) rfl
  by_cases o32 : x.op = 32
  ·obtain ⟨k4, k64⟩ := hld o32
   have r := var_res (v := v) (i := ((18 + x.k / 4 : Nat) : Int)) hi hv hvw (by omega) (by omega)
   rw [Int.toNat_natCast, hw18 _ (by omega)] at r
   have hw : (wordS d x.k).1 = (wordsD d).getD (x.k / 4) 0 := by rw [wordS, if_pos ⟨k4, k64⟩]
   rw [if_neg o0, if_neg o1, if_pos o32, if_neg o0, if_neg o1, if_pos o32]
   have e : ((18 + x.k / 4 : Nat) : Int) = 18 + ((x.k / 4 : Nat) : Int) := by omega
   rw [e] at r
   exact rk _ _ r 0 1 _ (var_ext hi) (by omega) (by rw [hw]; rfl)
  by_cases o96 : x.op = 96
  ·have k16 := hmem (.inl o96)
   rw [if_neg o0, if_neg o1, if_neg o32, if_pos o96, if_neg o0, if_neg o1, if_neg o32, if_pos o96]
   exact cp 0 (2 + x.k) _ (by omega) (by omega) (by rw [cellS, if_pos k16]; simp only [pt, List.set_cons_zero]; rw [show 2 + x.k = x.k + 1 + 1 by omega, List.getD_cons_succ, List.getD_cons_succ])
  by_cases o97 : x.op = 97
  ·have k16 := hmem (.inr (.inl o97))
   rw [if_neg o0, if_neg o1, if_neg o32, if_neg o96, if_pos o97, if_neg o0, if_neg o1, if_neg o32, if_neg o96, if_pos o97]
   exact cp 1 (2 + x.k) _ (by omega) (by omega) (by rw [cellS, if_pos k16]; simp only [pt, List.set_cons_succ, List.set_cons_zero]; rw [show 2 + x.k = x.k + 1 + 1 by omega, List.getD_cons_succ, List.getD_cons_succ])
  by_cases o2 : x.op = 2
  ·have k16 := hmem (.inr (.inr (.inl o2)))
   rw [if_neg o0, if_neg o1, if_neg o32, if_neg o96, if_neg o97, if_pos o2, if_neg o0, if_neg o1, if_neg o32, if_neg o96, if_neg o97, if_pos o2]
   exact cp (2 + x.k) 0 _ (by omega) (by omega) (by rw [storeS, if_pos k16, show 2 + x.k = x.k + 1 + 1 by omega]; rfl)
  by_cases o3 : x.op = 3
  ·have k16 := hmem (.inr (.inr (.inr o3)))
   rw [if_neg o0, if_neg o1, if_neg o32, if_neg o96, if_neg o97, if_neg o2, if_pos o3, if_neg o0, if_neg o1, if_neg o32, if_neg o96, if_neg o97, if_neg o2, if_pos o3]
   exact cp (2 + x.k) 1 _ (by omega) (by omega) (by rw [storeS, if_pos k16, show 2 + x.k = x.k + 1 + 1 by omega]; rfl)
  rw [if_neg o0, if_neg o1, if_neg o32, if_neg o96, if_neg o97, if_neg o2, if_neg o3, if_neg o0, if_neg o1, if_neg o32, if_neg o96, if_neg o97, if_neg o2, if_neg o3]
  by_cases o132 : x.op = 132
  ·obtain ⟨p1, p2⟩ := h.val 0 (by omega)
   have r := neg_res (v := v) hi hv hvw p1
   rw [p2] at r
   simp only [o132, if_true]
   exact rk _ (negW t.a) r 0 3 _ (neg_ext hi) (by omega) rfl
  by_cases o7 : x.op = 7
  ·simp only [o7, if_true]
   have h1 := cp 1 0 { t with x := t.a } (by omega) (by omega) rfl
   obtain ⟨p1, p2⟩ := h.val 0 (by omega)
   exact h1.set (.refl hi 0) p1 p2 (by omega) (by simp [pt, ht.2.2.1]) rfl
  by_cases o135 : x.op = 135
  ·simp only [o135, if_true]
   exact cp 0 1 _ (by omega) (by omega) rfl
  simp only [o132, o7, o135, if_false]
  exact h
end Go.Ev
/- A window's values, from its front to its end: plain laws. -/
namespace Go.Ev
open Go Go.RowKit
set_option maxRecDepth 10000
set_option maxHeartbeats 1000000
set_option linter.unusedSimpArgs false
set_option linter.unusedVariables false
variable {L L' : List Nd} {v : List Nat}
def divN (w : List In4) (n : Nat) : Nat := (w.take n).countP fun x => decide (x.op = 60)
theorem divN_cons (x : In4) (w : List In4) (n : Nat) : divN (x :: w) (n + 1) = (if x.op = 60 then 1 else 0) + divN w n := by
 simp only [divN, List.take_succ_cons, List.countP_cons, decide_eq_true_eq]; omega
theorem aluT_div {op : Int} : (aluT op).2.1 = true ∧ (aluT op).1 = 52 ↔ op = 60 := by
 constructor
 ·rintro ⟨h1, h2⟩
  unfold aluT at h1 h2
  split at h1
  ·cases h1
  ·rename_i hn
   rw [if_neg hn] at h2
   split at h1
   ·rename_i hm
    rw [if_pos hm] at h2
    simp only at h2
    omega
   ·cases h1
 ·rintro rfl
  decide
theorem aluT_60 : aluT 60 = (52, true, true) := by decide
theorem st_push (s : VS) (x : In4) : (stepV s x).st = s.st ++ (if x.op = 60 then [s.p.getD 1 0] else []) := by
 by_cases h : x.op = 60
 ·have ht : (aluT x.op).2.2 = true := by rw [h]; decide
  rw [stepV, if_pos ht, if_pos h]
  simp only [aluT_div.2 h, and_self, if_true]
 ·rw [if_neg h, List.append_nil, stepV]
  split
  ·simp only [show ¬ ((aluT x.op).2.1 = true ∧ (aluT x.op).1 = 52) from fun h' => h (aluT_div.1 h'), if_false]
  ·repeat (first | rfl | split)
theorem doW_false {kind : Int} {a b : Nat} (hk : (doW kind 0 1).2 = true) (h : (doW kind a b).2 = false) : kind = 52 ∧ b = 0 := by
 unfold doW at hk h
 by_cases h52 : kind = 52
 ·subst h52
  refine ⟨rfl, ?_⟩
  by_cases hb : b = 0
  ·exact hb
  ·simp [hb] at h
 ·exfalso
  repeat' split at h
  all_goals first | (cases h; done) | skip
  all_goals simp_all
theorem div_only {t : St} {x : In4} {d : Da} (hx : plainW x = true) (h : (stepS t x d).2 = false) : x.op = 60 ∧ t.x = 0 := by
 rw [stepS] at h
 split at h
 ·rename_i ht
  simp only at h
  obtain ⟨h1, h2⟩ := doW_false (aluT_valid ht) h
  cases hb : (aluT x.op).2.1 with
  | true =>
   rw [aluB, if_pos hb] at h2
   exact ⟨aluT_div.1 ⟨hb, h1⟩, h2⟩
  | false =>
   exfalso
   rw [aluB, hb, if_neg (by simp)] at h2
   have : x.op = 52 := by
    unfold aluT at h1 hb
    split at h1
    ·exact h1
    ·rename_i hn
     rw [if_neg hn] at hb
     split at h1
     ·rename_i hm
      rw [if_pos hm] at hb
      cases hb
     ·cases h1
   simp only [plainW, ruleB, this, Bool.and_eq_true] at hx
   simp at hx
   omega
 ·cases h
theorem go_div {t : St} {x : In4} {d : Da} (h : (stepS t x d).2 = true) (ho : x.op = 60) : t.x ≠ 0 := by
 intro h0
 rw [stepS, if_pos (by rw [ho]; decide)] at h
 simp only [aluR, aluB, ho, aluT_60, if_true, h0] at h
 simp [doW] at h
theorem stepV_ext {s : VS} {x : In4} (hi : Inv s.L) (hp : s.p.length = 18) (hk : x.k < 4294967296) : Ext s.L (stepV s x).L 3 ∧ (stepV s x).p.length = 18 := by
 have := stepV_ok (L := s.L) (s := s) (k := 0) (n := s.st.length) ⟨.refl hi 0, hp, Nat.le_refl _⟩ hk
 exact ⟨this.ext, this.len⟩
theorem fold_ext : ∀ (w : List In4) {s : VS}, Inv s.L → s.p.length = 18 → (∀ x ∈ w, x.k < 4294967296) → Ext s.L (w.foldl stepV s).L (3 * w.length) ∧ (w.foldl stepV s).p.length = 18
 | [], s, hi, hp, _ => ⟨.refl hi _, hp⟩
 | x :: w, s, hi, hp, hk => by
  obtain ⟨e1, h1⟩ := stepV_ext hi hp (hk x (by simp))
  obtain ⟨e2, h2⟩ := fold_ext w (s := stepV s x) e1.inv h1 fun y hy => hk y (by simp [hy])
  exact ⟨(e1.trans e2).mono (by simp; omega), h2⟩
theorem fold_st : ∀ (w : List In4) (s : VS), ∃ new, (w.foldl stepV s).st = s.st ++ new ∧ new.length = divN w w.length
 | [], s => ⟨[], by simp, by simp [divN]⟩
 | x :: w, s => by
  obtain ⟨new, h1, h2⟩ := fold_st w (stepV s x)
  refine ⟨(if x.op = 60 then [s.p.getD 1 0] else []) ++ new, by rw [List.foldl_cons, h1, st_push, List.append_assoc], ?_⟩
  rw [List.length_cons, divN_cons, List.length_append, h2]
  split <;> rfl
structure WV (v : List Nat) (L : List Nd) (p st : List Int) (w : List In4) (d : Da) (t : St) : Prop where
 num : st.length = divN w w.length
 ahead : ∀ i, i < divN w (runW d w t).2 → ∃ x n, st[i]? = some x ∧ hasI L x = true ∧ valI v L x = some n ∧ n ≠ 0
 stop : (runW d w t).2 < w.length → ∃ x, st[divN w (runW d w t).2]? = some x ∧ hasI L x = true ∧ valI v L x = some 0
 done : (runW d w t).2 = w.length → PV v L p (runW d w t).1
theorem fold_vals {s0 : St} {d : Da} (hs0 : s0.ok) (hd : d.ok) : ∀ (w : List In4) {s : VS} {t : St}, Inv s.L → PV (asgL s0 d) s.L s.p t → t.ok → (∀ x ∈ w, x.k < 4294967296) → (∀ x ∈ w, plainW x = true) →
  ∃ new, (w.foldl stepV s).st = s.st ++ new ∧ WV (asgL s0 d) (w.foldl stepV s).L (w.foldl stepV s).p new w d t
 | [], s, t, hi, hp, ht, _, _ => ⟨[], by simp, by simp [divN], fun i h => by simp [divN] at h, fun h => by simp [runW] at h, fun _ => hp⟩
 | x :: w, s, t, hi, hp, ht, hk, hx => by
  have hkx := hk x (by simp)
  have hxx := hx x (by simp)
  obtain ⟨e1, h1⟩ := stepV_ext hi hp.len hkx
  have hkw : ∀ y ∈ w, y.k < 4294967296 := fun y hy => hk y (by simp [hy])
  obtain ⟨e2, h2⟩ := fold_ext w (s := stepV s x) e1.inv h1 hkw
  have e := e1.trans e2
  obtain ⟨q1, q2⟩ := hp.val 1 (by omega)
  obtain ⟨q3, q4⟩ := valI_extI (v := asgL s0 d) e q1
  rw [q2] at q4
  have hp1 : (pt t).getD 1 0 = t.x := rfl
  rw [hp1] at q4
  rw [List.foldl_cons]
  cases hgo : (stepS t x d).2 with
  | true =>
   have hp' := step_val hi hp hs0 hd ht hkx hxx hgo
   have ht' := stepS_ok' ht hkx hd
   obtain ⟨new, n1, n2⟩ := fold_vals hs0 hd w e1.inv hp' ht' hkw fun y hy => hx y (by simp [hy])
   have hr : runW d (x :: w) t = ((runW d w (stepS t x d).1).1, (runW d w (stepS t x d).1).2 + 1) := by simp only [runW, hgo, if_true]
   obtain ⟨m1, m2, m3, m4⟩ := n2
   refine ⟨(if x.op = 60 then [s.p.getD 1 0] else []) ++ new, by rw [n1, st_push, List.append_assoc], ?_, ?_, ?_, ?_⟩
   ·rw [List.length_cons, divN_cons, List.length_append, m1]
    split <;> rfl
   ·rw [hr]
    intro i hlt
    simp only [divN_cons] at hlt
    by_cases ho : x.op = 60
    ·rw [if_pos ho] at hlt ⊢
     cases i with
     | zero => exact ⟨_, _, rfl, q3, q4, go_div hgo ho⟩
     | succ i =>
      obtain ⟨y, n, a1, a2⟩ := m2 i (by omega)
      exact ⟨y, n, by simpa using a1, a2⟩
    ·rw [if_neg ho] at hlt ⊢
     obtain ⟨y, n, a1, a2⟩ := m2 i (by omega)
     exact ⟨y, n, by simpa using a1, a2⟩
   ·rw [hr]
    intro hlt
    simp only [divN_cons, List.length_cons] at hlt ⊢
    obtain ⟨y, a1, a2⟩ := m3 (by omega)
    refine ⟨y, ?_, a2⟩
    by_cases ho : x.op = 60
    ·rw [if_pos ho, if_pos ho, Nat.add_comm]
     simpa using a1
    ·rw [if_neg ho, if_neg ho, Nat.zero_add]
     simpa using a1
   ·rw [hr]
    intro h
    simp only [List.length_cons] at h
    exact m4 (by omega)
  | false =>
   obtain ⟨ho, h0⟩ := div_only hxx hgo
   have hr : runW d (x :: w) t = (t, 0) := by simp only [runW, hgo, Bool.false_eq_true, if_false]
   obtain ⟨new, n1, n2⟩ := fold_st w (stepV s x)
   refine ⟨(if x.op = 60 then [s.p.getD 1 0] else []) ++ new, by rw [n1, st_push, List.append_assoc], ?_, ?_, ?_, ?_⟩
   ·rw [List.length_cons, divN_cons, List.length_append, n2]
    split <;> rfl
   ·rw [hr]; intro i hlt; simp [divN] at hlt
   ·rw [hr]
    intro _
    rw [if_pos ho]
    exact ⟨_, rfl, q3, by rw [q4, h0]⟩
   ·rw [hr]; intro h; simp at h
theorem asg_pt {s : St} {d : Da} (hs : s.ok) {i : Nat} (hi : i < 18) : (asgL s d).getD i 0 = (pt s).getD i 0 := by
 have hl := hs.2.2.1
 have e : asgL s d = pt s ++ wordsD d := by simp [asgL, pt]
 rw [e, List.getD_eq_getElem?_getD, List.getD_eq_getElem?_getD, List.getElem?_append_left (by simp [pt, hl]; omega)]
theorem vars_val {s : St} {d : Da} (hi : Inv L) (hs : s.ok) (hd : d.ok) : PV (asgL s d) (varsV L 18).L (varsV L 18).p s := by
 have hv := asgL_len hs hd
 have hvw := asgL_lt hs hd
 have main : ∀ n, n ≤ 18 → ∀ i, i < n → hasI (varsV L n).L ((varsV L n).p.getD i 0) = true ∧ valI (asgL s d) (varsV L n).L ((varsV L n).p.getD i 0) = some ((pt s).getD i 0) := by
  intro n
  induction n with
  | zero => intro _ i h; omega
  | succ n ih =>
   intro hn i hin
   have ok := varsV_ok hi n
   rw [varsV_succ, varV]
   simp only
   have r := var_res (v := asgL s d) (i := (n : Int)) ok.ext.inv hv hvw (by omega) (by omega)
   obtain ⟨r1, r2⟩ := r.has
   by_cases h : i = n
   ·subst h
    rw [List.getD_eq_getElem?_getD, List.getElem?_set, if_pos rfl, if_pos (by rw [ok.len]; omega), Option.getD_some]
    refine ⟨r1, ?_⟩
    rw [r2, Int.toNat_natCast, ← List.getD_eq_getElem?_getD, asg_pt hs (by omega)]
   ·rw [List.getD_eq_getElem?_getD, List.getElem?_set, if_neg (by omega), ← List.getD_eq_getElem?_getD]
    obtain ⟨h1, h2⟩ := ih (by omega) i (by omega)
    obtain ⟨h3, h4⟩ := valI_extI (v := asgL s d) (var_ext ok.ext.inv) h1
    exact ⟨h3, by rw [h4, h2]⟩
 exact ⟨(varsV_ok hi 18).len, fun i h => main 18 (Nat.le_refl _) i h⟩
theorem win_vals {s : St} {d : Da} {w : List In4} (hi : Inv L) (hs : s.ok) (hd : d.ok) (hk : ∀ x ∈ w, x.k < 4294967296) (hw : winB w = true) : WV (asgL s d) (winV L w).L (winV L w).p (winV L w).st w d s := by
 have hwp : ∀ x ∈ w, plainW x = true := by simp only [winB, Bool.and_eq_true, List.all_eq_true] at hw; exact hw.2
 obtain ⟨new, h1, h2⟩ := fold_vals hs hd w (varsV_ok hi 18).ext.inv (vars_val hi hs hd) hs hk hwp
 rw [varsV_st, List.nil_append] at h1
 rw [← h1] at h2
 exact h2
theorem WV.ext {p st : List Int} {w : List In4} {d : Da} {t : St} {k : Nat} (h : WV v L p st w d t) (e : Ext L L' k) : WV v L' p st w d t := by
 have tr : ∀ {x : Int} {o : Option Nat}, hasI L x = true → valI v L x = o → hasI L' x = true ∧ valI v L' x = o := fun a b => by
  obtain ⟨h3, h4⟩ := valI_extI (v := v) e a
  exact ⟨h3, by rw [h4, b]⟩
 refine ⟨h.num, fun i hi => ?_, fun hl => ?_, fun hl => (h.done hl).same e⟩
 ·obtain ⟨x, n, a, b, c, d⟩ := h.ahead i hi
  obtain ⟨h1, h2⟩ := tr b c
  exact ⟨x, n, a, h1, h2, d⟩
 ·obtain ⟨x, a, b, c⟩ := h.stop hl
  obtain ⟨h1, h2⟩ := tr b c
  exact ⟨x, a, h1, h2⟩
end Go.Ev
/- WindowValues. -/
namespace Go.Ev
open Go Go.RowKit
variable {G : Tbl}
set_option maxRecDepth 10000
set_option maxHeartbeats 4000000
set_option linter.unusedSimpArgs false
set_option linter.unusedVariables false
theorem cs_cl (s : St) (n : Nat) : clL n s.cs = s.cs := by simp [St.cs, clL, V.cl, clL_eq_map, cnats, Function.comp_def]
theorem dcs_cl (d : Da) (n : Nat) : clL n d.cs = d.cs := by simp [Da.cs, clL, V.cl, clL_eq_map, cnats, Function.comp_def]
theorem cs_nf (s : St) : s.cs.map V.nf1 = s.cs := by simp [St.cs, cnats, Function.comp_def, V.nf1]
theorem dcs_nf (d : Da) : d.cs.map V.nf1 = d.cs := by simp [Da.cs, cnats, Function.comp_def, V.nf1]
theorem cs_len {s : St} (h : s.ok) : s.cs.length = 18 := by simp [St.cs, h.2.2.1]
theorem dcs_len {d : Da} (h : d.ok) : d.cs.length = 9 := by simp [Da.cs, h.2.2.2.1]
end Go.Ev
/- Whether two windows differ: decide.Differs, hurdleref18.Differs. -/
namespace Go.Ev
open Go Go.RowKit
variable {G : Tbl}
set_option maxRecDepth 10000
set_option maxHeartbeats 4000000
set_option linter.unusedSimpArgs false
set_option linter.unusedVariables false
def partB (live p : Nat) : Bool := live / 2 ^ p % 2 == 1
def diffAt (live : Nat) (x y : List Nat) (p : Nat) : Bool := partB live p && (x.getD p 0 != y.getD p 0)
def partsD (live : Nat) (x y : List Nat) : Bool := (List.range 18).any (diffAt live x y)
def diffR (v w : List In4) (live : Nat) (s : St) (d : Da) : Bool :=
 if (runW d v s).2 < v.length ∨ (runW d w s).2 < w.length then !(decide ((runW d v s).2 < v.length) && decide ((runW d w s).2 < w.length))
 else partsD live (asgL (runW d v s).1 d) (asgL (runW d w s).1 d)
theorem In_ok [HasDecDf G] (live p : Nat) (hl : live < 4294967296) (hp : p ≤ 31) : FP G 307 [.int .u32 live, .int .i64 p] (.bool (partB live p)) := by
 refine FP_of HasDecDf.h_decide_in (Nat.le_of_ble_eq_true rfl) ?_
 have h1 : live / 2 ^ p < 4294967296 := Nat.lt_of_le_of_lt (Nat.div_le_self _ _) hl
 have h2 : (((live / 2 ^ p % 2 : Nat) : Int) == 1) = partB live p := by
  unfold partB
  rw [Bool.eq_iff_iff, beq_iff_eq, beq_iff_eq]; omega
 have h3 : ((p : Int) < 0) = False := eq_false (by omega)
 simp (disch := omega) [shr32, and1w h1, h2, h3, -Int.natCast_ediv, -Int.natCast_emod, -Int.natCast_pow]
theorem partsD_yes {live : Nat} {x y : List Nat} {i : Nat} (hi : i < 18) (h : diffAt live x y i = true) : partsD live x y = true :=
 List.any_eq_true.2 ⟨i, List.mem_range.2 hi, h⟩
theorem partsD_no {live : Nat} {x y : List Nat} (h : ∀ j < 18, diffAt live x y j = false) : partsD live x y = false := by
 rw [partsD, List.any_eq_false]
 intro j hj
 rw [h j (List.mem_range.1 hj)]; decide
theorem Differs_ok [HasWd G] [HasNeg G] [HasIns G] [HasCheck G] [HasData G] [HasStep G] [HasWRight G] [HasWinRun G] [HasWinAsg G] [HasDecDf G] (v w : List In4) (live : Nat) (s : St) (d : Da) (hf : v.length ≤ maxLen) (hg : w.length ≤ maxLen)
  (hk : ∀ x ∈ v, x.k < 4294967296) (hkw : ∀ x ∈ w, x.k < 4294967296) (hlv : live < 4294967296) (hs : s.ok) (hd : d.ok) :
  FP G 308 [FL v, FL w, .int .u32 live, SV s, DV d] (.bool (winB v && winB w && diffR v w live s d)) := by
 refine FP_of HasDecDf.h_decide_Differs (Nat.le_of_ble_eq_true rfl) ?_
 have hrv := WRight_ok (G := G) v hf hk
 have hrw := WRight_ok (G := G) w hg hkw
 have sl := cs_len hs
 have dl := dcs_len hd
 have st := List.take_of_length_le (i := 18) (l := s.cs) (by omega)
 have dt := List.take_of_length_le (i := 9) (l := d.cs) (by omega)
 have sd : s.cs.drop 18 = [] := List.drop_eq_nil_of_le (by omega)
 have dd : d.cs.drop 9 = [] := List.drop_eq_nil_of_le (by omega)
 simp only [FL] at hrv hrw
 simp [FL, SV, DV]
 refine callP_of hrv ?_
 cases hv : winB v with
 | false => simp
 | true =>
  simp
  refine callP_of hrw ?_
  cases hw : winB w with
  | false => simp
  | true =>
   have ha := WinRun_ok (G := G) v s d hf hk hs hd hv
   have hb := WinRun_ok (G := G) w s d hg hkw hs hd hw
   have hos := runW_ok hd v s hs hk
   have hot := runW_ok hd w s hs hkw
   have hn1 := runW_le d v s
   have hn2 := runW_le d w s
   have hD : diffR v w live s d = diffR v w live s d := rfl
   conv at hD => rhs; unfold diffR
   obtain ⟨A, hA⟩ : ∃ A, A = (runW d v s).1 := ⟨_, rfl⟩
   obtain ⟨n, hn⟩ : ∃ n, n = (runW d v s).2 := ⟨_, rfl⟩
   obtain ⟨B, hB⟩ : ∃ B, B = (runW d w s).1 := ⟨_, rfl⟩
   obtain ⟨m, hm⟩ : ∃ m, m = (runW d w s).2 := ⟨_, rfl⟩
   rw [← hA, ← hn] at ha
   rw [← hB, ← hm] at hb
   rw [← hA, ← hB, ← hn, ← hm] at hD
   rw [← hA] at hos
   rw [← hB] at hot
   rw [← hn] at hn1
   rw [← hm] at hn2
   rw [hD]
   have al := cs_len hos
   have bl := cs_len hot
   have at' := List.take_of_length_le (i := 18) (l := A.cs) (by omega)
   have bt' := List.take_of_length_le (i := 18) (l := B.cs) (by omega)
   have x1 := WinAssign_ok (G := G) A d hos hd
   have x2 := WinAssign_ok (G := G) B d hot hd
   have l1 : (asgL A d).length = 34 := by rw [← asAt_16 hd]; exact asAt_len hos hd (by omega)
   have l2 : (asgL B d).length = 34 := by rw [← asAt_16 hd]; exact asAt_len hot hd (by omega)
   obtain ⟨X, hX⟩ : ∃ X, X = asgL A d := ⟨_, rfl⟩
   obtain ⟨Y, hY⟩ : ∃ Y, Y = asgL B d := ⟨_, rfl⟩
   rw [← hX] at x1 l1
   rw [← hY] at x2 l2
   simp only [FL, SV, DV] at ha hb x1 x2
   simp [sl, dl, st, dt, sd, dd, al, bl, at', bt', cs_cl, dcs_cl, cs_nf, dcs_nf]
   refine callP_of ha ?_
   simp [sl, dl, st, dt, sd, dd, al, bl, at', bt', cs_cl, dcs_cl, cs_nf, dcs_nf]
   refine callP_of hb ?_
   have c1 : ((n : Int) < (v.length : Int)) = (n < v.length) := propext (by omega)
   have c2 : ((m : Int) < (w.length : Int)) = (m < w.length) := propext (by omega)
   simp [sl, dl, st, dt, sd, dd, al, bl, at', bt', cs_cl, dcs_cl, cs_nf, dcs_nf, keep_cl, c1, c2]
   by_cases e1 : n < v.length
   ·by_cases e2 : m < w.length
    ·simp [e1, e2]
    ·simp [e1, e2]
   by_cases e2 : m < w.length
   ·simp [e1, e2]
   simp [e1, e2, sl, dl, st, dt, sd, dd, al, bl, at', bt', cs_cl, dcs_cl, cs_nf, dcs_nf, keep_cl]
   refine callP_of x1 ?_
   simp [sl, dl, st, dt, sd, dd, al, bl, at', bt', cs_cl, dcs_cl, cs_nf, dcs_nf, keep_cl]
   refine callP_of x2 ?_
   have xt := List.take_of_length_le (i := 34) (l := cnats .u32 X) (by simp; omega)
   have yt := List.take_of_length_le (i := 34) (l := cnats .u32 Y) (by simp; omega)
   have xd : (cnats .u32 X).drop 34 = [] := List.drop_eq_nil_of_le (by simp; omega)
   have yd : (cnats .u32 Y).drop 34 = [] := List.drop_eq_nil_of_le (by simp; omega)
   simp [sl, dl, st, dt, sd, dd, al, bl, at', bt', cs_cl, dcs_cl, cs_nf, dcs_nf, keep_cl, l1, l2, xt, yt, xd, yd]
   refine W_up 18 (fun i => [(2, .int .u32 live), (17, .ptr 4 0), (18, .ptr 5 0), (63, .int .i64 i)])
    (fun i => [some (.cells s.cs), some (.cells d.cs), some (.cells A.cs), some (.cells B.cs), some (.cells (cnats .u32 X)), some (.cells (cnats .u32 Y))]) (fun i => ∀ j < i, diffAt live X Y j = false) ?_ ?_
   ·simp [keep_cl, trunc, cs_cl, dcs_cl]
   intro i hi hp
   by_cases hlt : i < 18
   ·have hin := In_ok (G := G) live i hlv (by omega)
    have g1 := cnats_get .u32 X i (by omega)
    have g2 := cnats_get .u32 Y i (by omega)
    have gx : X.getD i 0 = X[i]'(by omega) := by simp [List.getD, List.getElem?_eq_getElem (show i < X.length by omega)]
    have gy : Y.getD i 0 = Y[i]'(by omega) := by simp [List.getD, List.getElem?_eq_getElem (show i < Y.length by omega)]
    have hda : diffAt live X Y i = diffAt live X Y i := rfl
    conv at hda => rhs; rw [diffAt, gx, gy]
    obtain ⟨p, hpx⟩ : ∃ p, p = X[i]'(by omega) := ⟨_, rfl⟩
    obtain ⟨q, hqx⟩ : ∃ q, q = Y[i]'(by omega) := ⟨_, rfl⟩
    rw [← hpx, ← hqx] at hda
    rw [← hpx] at g1
    rw [← hqx] at g2
    simp (disch := omega) [ltT, hlt]
    refine callP_of hin ?_
    cases hb : partB live i with
    | false =>
     rw [hb, Bool.false_and] at hda
     have hp' : ∀ j < i + 1, diffAt live X Y j = false := fun j hj => by
      rcases Nat.lt_succ_iff_lt_or_eq.1 hj with h | rfl
      ·exact hp j h
      ·exact hda
     simp (disch := omega) [ltT, hlt, add1', keep_cl, trunc, cs_cl, dcs_cl, -Int.natCast_add]
     exact hp'
    | true =>
     rw [hb, Bool.true_and] at hda
     by_cases hpq : p = q
     ·have hda' : diffAt live X Y i = false := by rw [hda, hpq]; simp
      have hp' : ∀ j < i + 1, diffAt live X Y j = false := fun j hj => by
       rcases Nat.lt_succ_iff_lt_or_eq.1 hj with h | rfl
       ·exact hp j h
       ·exact hda'
      simp (disch := omega) [ltT, leTn, hlt, l1, l2, g1, g2, hpq, add1', keep_cl, trunc, cs_cl, dcs_cl, -Int.natCast_add]
      exact hp'
     ·have hda' : diffAt live X Y i = true := by rw [hda]; simp [hpq]
      have := partsD_yes hlt hda'
      simp (disch := omega) [ltT, leTn, hlt, l1, l2, g1, g2, bneT (show (p : Int) ≠ q by omega), keep_cl, this, hpq, ← hX, ← hY]
   ·have hne : i = 18 := by omega
    subst hne
    simp [partsD_no hp, ← hX, ← hY]
end Go.Ev
/- Values as they were made, and in the book. -/
namespace Go.Ev
open Go Go.RowKit
set_option maxRecDepth 10000
set_option maxHeartbeats 4000000
set_option linter.unusedSimpArgs false
set_option linter.unusedVariables false
variable {L L' : List Nd} {v : List Nat}
structure MI (v : List Nat) (s : MS) : Prop where
 inv : Inv s.L
 len : s.ids.length = s.made.length
 ok : mdOk s.made
 rel : ∀ (i : Nat) (x : Int) (a : Md) (o : Option Nat), s.ids[i]? = some x → s.made[i]? = some a → (refs v s.made)[i]? = some o →
  a.kind = 4 ∧ x = -1 ∧ o = none ∨ a.kind ≠ 4 ∧ ∃ n : Nat, x = n ∧ n < s.L.length ∧ valI v s.L n = o
theorem MI.there {s : MS} (h : MI v s) {x : Int} (hx : thereB s.made x = true) : ∃ n m : Nat, x = n ∧ n < s.made.length ∧ atI s.ids x = m ∧ m < s.L.length ∧ valI v s.L m = (refs v s.made)[n]?.join := by
 simp only [thereB, Bool.and_eq_true, decide_eq_true_eq] at hx
 obtain ⟨⟨h0, h1⟩, h2⟩ := hx
 obtain ⟨n, rfl⟩ := Int.eq_ofNat_of_zero_le h0
 have hn : n < s.made.length := by omega
 obtain ⟨a, ha⟩ : ∃ a, s.made[n]? = some a := ⟨_, get_in hn⟩
 obtain ⟨y, hy⟩ : ∃ y, s.ids[n]? = some y := ⟨_, get_in (by rw [h.len]; exact hn)⟩
 obtain ⟨o, ho⟩ : ∃ o, (refs v s.made)[n]? = some o := ⟨_, get_in (by rw [refs_len]; exact hn)⟩
 rw [Int.toNat_natCast, ha] at h2
 simp at h2
 rcases h.rel n y a o hy ha ho with ⟨h4, _⟩ | ⟨_, m, hm, hml, hv⟩
 ·exact absurd h4 h2
 ·refine ⟨n, m, rfl, hn, ?_, hml, ?_⟩
  ·rw [atI, if_pos ⟨h0, by rw [h.len]; exact h1⟩, Int.toNat_natCast, hy, hm]; rfl
  ·rw [hv, ho]; rfl
theorem MI.not_there {s : MS} (h : MI v s) {x : Int} (hx : thereB s.made x = false) : hasI s.L (atI s.ids x) = false := by
 rw [atI]
 split
 ·rename_i hr
  obtain ⟨n, rfl⟩ := Int.eq_ofNat_of_zero_le hr.1
  have hn : n < s.made.length := by rw [← h.len]; omega
  obtain ⟨a, ha⟩ : ∃ a, s.made[n]? = some a := ⟨_, get_in hn⟩
  obtain ⟨y, hy⟩ : ∃ y, s.ids[n]? = some y := ⟨_, get_in (by rw [h.len]; exact hn)⟩
  obtain ⟨o, ho⟩ : ∃ o, (refs v s.made)[n]? = some o := ⟨_, get_in (by rw [refs_len]; exact hn)⟩
  have h4 : a.kind = 4 := by
   have : a.kind ≠ 4 → thereB s.made n = true := fun hk => by simp only [thereB, Int.toNat_natCast, ha]; simp [hk, hn]
   by_cases hk : a.kind = 4
   ·exact hk
   ·rw [this hk] at hx; cases hx
  rcases h.rel n y a o hy ha ho with ⟨_, h5, _⟩ | ⟨h5, _⟩
  ·rw [Int.toNat_natCast, hy, h5]; rfl
  ·exact absurd h4 h5
 ·rfl
theorem bAlu_no {kind x y : Int} (h : ¬ ((doW kind 0 1).2 = true ∧ hasI L x = true ∧ hasI L y = true)) : bAlu L kind x y = (-1, L) := by rw [bAlu, if_neg h]
theorem MI.step {s : MS} (h : MI v s) (hv : v.length = 34) (hvw : ∀ c ∈ v, c < 4294967296) {a : Md} (hc : a.c < 4294967296) : MI v (makeS s a) := by
 have e := make_ext (s := s) (a := a) h.inv hc
 have hln := h.len
 have rl := refs_len (v := v) s.made
 -- it is enough to look at the new one
 have main : ∀ o : Option Nat, rval v (refs v s.made) (nextM s.made a) = o →
   ((nextM s.made a).kind = 4 ∧ (makeR s a).1 = -1 ∧ o = none ∨ (nextM s.made a).kind ≠ 4 ∧ Res v (makeR s a) o) →
   ((nextM s.made a).c < 4294967296 ∧ ((nextM s.made a).kind = 0 ∨ (nextM s.made a).kind = 1 ∧ 0 ≤ (nextM s.made a).i ∧ (nextM s.made a).i < 34 ∨ (nextM s.made a).kind = 2 ∧ 0 ≤ (nextM s.made a).x ∧ (nextM s.made a).x < s.made.length ∧ 0 ≤ (nextM s.made a).y ∧ (nextM s.made a).y < s.made.length ∨ (nextM s.made a).kind = 3 ∧ 0 ≤ (nextM s.made a).x ∧ (nextM s.made a).x < s.made.length ∨ (nextM s.made a).kind = 4)) →
   MI v (makeS s a) := fun o ho hr hm => by
  refine ⟨e.inv, by simp [makeS, hln], fun i b hb => ?_, fun i x b w hx hb hw => ?_⟩
  ·simp only [makeS] at hb
   by_cases hi : i < s.made.length
   ·rw [List.getElem?_append_left hi] at hb
    exact h.ok i b hb
   ·have hl := (List.getElem?_eq_some_iff.1 hb).1
    simp at hl
    obtain rfl : i = s.made.length := by omega
    simp at hb
    subst hb
    exact hm
  ·simp only [makeS] at hx hb hw ⊢
   rw [refs_snoc, ho] at hw
   by_cases hi : i < s.made.length
   ·rw [List.getElem?_append_left hi] at hb
    rw [List.getElem?_append_left (by omega)] at hx
    rw [List.getElem?_append_left (by omega)] at hw
    rcases h.rel i x b w hx hb hw with h1 | ⟨h1, n, h2, h3, h4⟩
    ·exact .inl h1
    ·exact .inr ⟨h1, n, h2, Nat.lt_of_lt_of_le h3 e.pre.length_le, by rw [← h4]; exact valI_ext e h3⟩
   ·have hl := (List.getElem?_eq_some_iff.1 hb).1
    simp at hl
    obtain rfl : i = s.made.length := by omega
    simp at hb
    rw [List.getElem?_append_right (by omega), hln, Nat.sub_self] at hx
    rw [List.getElem?_append_right (by omega), rl, Nat.sub_self] at hw
    simp at hx hw
    subst hb; subst hx; subst hw
    rcases hr with h1 | ⟨h1, n, h2, h3, h4⟩
    ·exact .inl h1
    ·exact .inr ⟨h1, n, h2, h3, h4⟩
 have none4 : nextM s.made a = noMd → (makeR s a).1 = -1 → MI v (makeS s a) := fun h1 h2 => by
  refine main none (by rw [h1]; rfl) (.inl ⟨by rw [h1]; rfl, h2, rfl⟩) ⟨by rw [h1]; exact (by decide : (0 : Nat) < 4294967296), by rw [h1]; exact .inr (.inr (.inr (.inr rfl)))⟩
 by_cases k0 : a.kind = 0
 ·have hn : nextM s.made a = ⟨0, 0, 0, 0, 0, a.c⟩ := by rw [nextM, if_pos k0]
  have hR : makeR s a = putN s.L (sumNd (a.c :: zeros 34)) := by rw [makeR, if_pos k0]
  refine main (some a.c) (by rw [hn]; rfl) (.inr ⟨by rw [hn]; simp, by rw [hR]; exact const_res h.inv hv hc⟩) ⟨by rw [hn]; exact hc, by rw [hn]; exact .inl rfl⟩
 by_cases k1 : a.kind = 1
 ·have hR : makeR s a = varN s.L a.i := by rw [makeR, if_neg k0, if_pos k1]
  by_cases hi : 0 ≤ a.i ∧ a.i < 34
  ·have hn : nextM s.made a = ⟨1, a.i, 0, 0, 0, 0⟩ := by rw [nextM, if_neg k0, if_pos ⟨k1, hi⟩]
   refine main (some (v[a.i.toNat]?.getD 0)) (by rw [hn]; rfl) (.inr ⟨by rw [hn]; simp, by rw [hR]; exact var_res h.inv hv hvw hi.1 hi.2⟩) ⟨by rw [hn]; exact (by decide : (0 : Nat) < 4294967296), by rw [hn]; exact .inr (.inl ⟨rfl, hi⟩)⟩
  ·refine none4 ?_ (by rw [hR, varN, if_neg hi])
   rw [nextM, if_neg k0, if_neg (fun hh => hi hh.2), if_neg (by omega), if_neg (by omega)]
 by_cases k2 : a.kind = 2
 ·have hR : makeR s a = bAlu s.L a.op (atI s.ids a.x) (atI s.ids a.y) := by rw [makeR, if_neg k0, if_neg k1, if_pos k2]
  by_cases hall : (doW a.op 0 1).2 = true ∧ thereB s.made a.x = true ∧ thereB s.made a.y = true
  ·obtain ⟨hk, hx, hy⟩ := hall
   have hn : nextM s.made a = ⟨2, 0, a.op, a.x, a.y, 0⟩ := by rw [nextM, if_neg k0, if_neg (fun hh => k1 hh.1), if_pos ⟨k2, hk, hx, hy⟩]
   obtain ⟨nx, mx, ex, lx, ax, bx, vx⟩ := h.there hx
   obtain ⟨ny, my, ey, ly, ay, b_y, vy⟩ := h.there hy
   have r := alu_res (v := v) (kind := a.op) (x := atI s.ids a.x) (y := atI s.ids a.y) h.inv hv hvw hk (by rw [ax]; simp [hasI]; exact bx) (by rw [ay]; simp [hasI]; exact b_y)
   rw [ax, ay, vx, vy] at r
   refine main (aluV a.op (refs v s.made)[nx]?.join (refs v s.made)[ny]?.join) ?_ (.inr ⟨by rw [hn]; simp, by rw [hR, ax, ay]; exact r⟩) ⟨by rw [hn]; exact (by decide : (0 : Nat) < 4294967296), by rw [hn]; exact .inr (.inr (.inl ⟨rfl, by simp; omega, by simp; omega, by simp; omega, by simp; omega⟩))⟩
   rw [hn, ex, ey]; rfl
  ·refine none4 ?_ ?_
   ·rw [nextM, if_neg k0, if_neg (fun hh => k1 hh.1), if_neg (fun hh => hall hh.2), if_neg (by omega)]
   ·rw [hR, bAlu_no]
    rintro ⟨g1, g2, g3⟩
    refine hall ⟨g1, ?_, ?_⟩
    ·cases e : thereB s.made a.x with
     | true => rfl
     | false => rw [h.not_there e] at g2; cases g2
    ·cases e : thereB s.made a.y with
     | true => rfl
     | false => rw [h.not_there e] at g3; cases g3
 by_cases k3 : a.kind = 3
 ·have hR : makeR s a = bNeg s.L (atI s.ids a.x) := by rw [makeR, if_neg k0, if_neg k1, if_neg k2, if_pos k3]
  cases hx : thereB s.made a.x with
  | true =>
   have hn : nextM s.made a = ⟨3, 0, 0, a.x, 0, 0⟩ := by rw [nextM, if_neg k0, if_neg (fun hh => k1 hh.1), if_neg (fun hh => k2 hh.1), if_pos ⟨k3, hx⟩]
   obtain ⟨nx, mx, ex, lx, ax, bx, vx⟩ := h.there hx
   have r := neg_res (v := v) (x := atI s.ids a.x) h.inv hv hvw (by rw [ax]; simp [hasI]; exact bx)
   rw [ax, vx] at r
   refine main (((refs v s.made)[nx]?.join).map negW) ?_ (.inr ⟨by rw [hn]; simp, by rw [hR, ax]; exact r⟩) ⟨by rw [hn]; exact (by decide : (0 : Nat) < 4294967296), by rw [hn]; exact .inr (.inr (.inr (.inl ⟨rfl, by simp; omega, by simp; omega⟩)))⟩
   rw [hn, ex]; rfl
  | false =>
   refine none4 ?_ ?_
   ·rw [nextM, if_neg k0, if_neg (fun hh => k1 hh.1), if_neg (fun hh => k2 hh.1), if_neg (by simp [hx])]
   ·rw [hR, bNeg, if_neg (by simp [h.not_there hx])]
 ·refine none4 ?_ ?_
  ·rw [nextM, if_neg k0, if_neg (fun hh => k1 hh.1), if_neg (fun hh => k2 hh.1), if_neg (fun hh => k3 hh.1)]
  ·rw [makeR, if_neg k0, if_neg k1, if_neg k2, if_neg k3]
theorem MI.zero : MI v ⟨[], [], []⟩ := ⟨Inv.nil, rfl, fun i a h => by simp at h, fun i x a o h => by simp at h⟩
theorem MI.all (hv : v.length = 34) (hvw : ∀ c ∈ v, c < 4294967296) : ∀ (l : List Md) {s : MS}, MI v s → (∀ a ∈ l, a.c < 4294967296) → MI v (makeAll s l)
 | [], _, h, _ => h
 | a :: l, s, h, hc => MI.all hv hvw l (h.step hv hvw (hc a (by simp))) fun x hx => hc x (by simp [hx])
end Go.Ev
/- What tells two values apart. -/
namespace Go.Ev
open Go Go.RowKit
variable {G : Tbl}
set_option maxRecDepth 10000
set_option maxHeartbeats 4000000
set_option linter.unusedSimpArgs false
set_option linter.unusedVariables false
variable {H : Heap} {b z m : Nat} {L : List Nd}
def fDiff (f g : List Nat) : Option Nat := (List.range 34).find? fun i => decide (f.getD (i + 1) 0 ≠ g.getD (i + 1) 0)
def fApart (f g : List Nat) : List Nat × Bool := if f.headD 0 ≠ g.headD 0 then (zeros 34, true) else match fDiff f g with
 | some i => ((zeros 34).set i 1, true)
 | none => (zeros 34, false)
theorem fApart_len (f g : List Nat) : (fApart f g).1.length = 34 := by
 rw [fApart]; split
 ·simp
 ·split <;> simp
theorem fApart_lt (f g : List Nat) : ∀ x ∈ (fApart f g).1, x < 4294967296 := by
 rw [fApart]; split
 ·exact zeros_lt 34
 ·split
  ·intro x hx
   rcases List.mem_or_eq_of_mem_set hx with h | rfl
   ·exact zeros_lt 34 x h
   ·decide
  ·exact zeros_lt 34
theorem fApart_ok [HasAffApart G] (f g : List Nat) (hf : f.length = 35) (hg : g.length = 35) : FP G 255 [.agg (cnats .u32 f), .agg (cnats .u32 g)] (.tup [.agg (cnats .u32 (fApart f g).1), .bool (fApart f g).2]) := by
 refine FP_of HasAffApart.h_affine_Apart (Nat.le_of_ble_eq_true rfl) ?_
 obtain ⟨c, t, rfl⟩ : ∃ c t, f = c :: t := by cases f with | nil => simp at hf | cons c t => exact ⟨c, t, rfl⟩
 obtain ⟨d, u, rfl⟩ : ∃ c t, g = c :: t := by cases g with | nil => simp at hg | cons c t => exact ⟨c, t, rfl⟩
 have ht : t.length = 34 := by simpa using hf
 have hu : u.length = 34 := by simpa using hg
 have hc : cnats .u32 (c :: t) = .int .u32 (c : Int) :: cnats .u32 t := rfl
 have hd : cnats .u32 (d :: u) = .int .u32 (d : Int) :: cnats .u32 u := rfl
 have htt := take_full (k := .u32) ht
 have htu := take_full (k := .u32) hu
 have dr1 : ∀ (i : Nat) (x : V) (l : List V), (x :: l).drop (1 + i) = l.drop i := fun i x l => by rw [Nat.add_comm, List.drop_succ_cons]
 have z0 : (cnats .u32 (zeros 34)).drop 34 = [] := rfl
 by_cases hcd : c = d
 case neg =>
  have hn : ((c : Int) == (d : Int)) = false := beqF (by omega)
  have hR : fApart (c :: t) (d :: u) = (zeros 34, true) := by simp [fApart, hcd]
  simp [-List.reduceReplicate, hc, hd, ht, hu, htt, htu, hn, z0, hR, bneT, hcd]
 subst hcd
 have bne : ((c : Int) != (c : Int)) = false := by simp
 simp [-List.reduceReplicate, hc, hd, ht, hu, htt, htu, z0]
 refine W_up 34 (fun i => [(3, .ptr 1 0), (4, .ptr 2 0), (6, .ptr 3 0), (16, .agg (cnats .u32 t)), (17, .int .i64 i)])
  (fun i => [some (.cells (.int .u32 (c : Int) :: cnats .u32 t)), some (.cells (.int .u32 (c : Int) :: cnats .u32 u)), some (.cells (cnats .u32 (zeros 34))), some (.cells (cnats .u32 (zeros 34)))]) (fun i => ∀ j, j < i → t.getD j 0 = u.getD j 0) ?_ ?_
 ·simp [keep_cl, trunc, clL, V.cl]
 intro i hi hp
 by_cases hlt : i < 34
 ·have q1 := cnats_q .u32 (get_in (show i < t.length by omega))
  have q2 := cnats_q .u32 (get_in (show i < u.length by omega))
  have e1 : t.getD i 0 = t[i]'(by omega) := by rw [List.getD_eq_getElem?_getD, get_in (by omega)]; rfl
  have e2 : u.getD i 0 = u[i]'(by omega) := by rw [List.getD_eq_getElem?_getD, get_in (by omega)]; rfl
  by_cases he : t[i]'(by omega) = u[i]'(by omega)
  ·have hp' : ∀ j, j < i + 1 → t.getD j 0 = u.getD j 0 := fun j hj => by
    by_cases e : j = i
    ·subst e; rw [e1, e2, he]
    ·exact hp j (by omega)
   simp (disch := omega) [ltT, ltF, leF, leFn, leTn, hlt, ht, hu, q1, q2, dr1, he, add1', -Int.natCast_add, keep_cl, trunc, clL, V.cl]
   simpa using hp'
  ·have hb : ((t[i]'(by omega) : Nat) : Int) ≠ ((u[i]'(by omega) : Nat) : Int) := by omega
   have hfd : fDiff (c :: t) (c :: u) = some i := by
    rw [fDiff, List.find?_range_eq_some]
    refine ⟨?_, List.mem_range.2 hlt, fun j hj => ?_⟩
    ·simp only [List.getD_cons_succ, e1, e2]; simpa using he
    ·have := hp j hj
     simp only [List.getD_cons_succ]; simpa using this
   have hR : fApart (c :: t) (c :: u) = ((zeros 34).set i 1, true) := by simp [fApart, hfd]
   have cs := cnats_set .u32 (zeros 34) i 1 (by simpa using hlt)
   have hts : (cnats .u32 ((zeros 34).set i 1)).take 34 = cnats .u32 ((zeros 34).set i 1) := take_full (by simp)
   simp (disch := omega) [-List.reduceReplicate, ltT, ltF, leF, leFn, leTn, hlt, ht, hu, q1, q2, dr1, bneT hb, hR, z0]
   simp at cs
   simp (disch := omega) [-List.reduceReplicate, cs, hts, z0, leTn, hlt]
 ·obtain rfl : i = 34 := by omega
  have hfd : fDiff (c :: t) (c :: u) = none := by
   rw [fDiff, List.find?_eq_none]
   intro j hj
   have := hp j (List.mem_range.1 hj)
   simp only [List.getD_cons_succ]; simpa using this
  have hR : fApart (c :: t) (c :: u) = (zeros 34, false) := by simp [fApart, hfd]
  simp [-List.reduceReplicate, hR, z0]
theorem x_asgn_lt (M : List Int) (p : Int → Bool) : ∀ w ∈ asgn M p, w < 4294967296 := by
 intro w hw
 simp only [asgn, List.mem_map] at hw
 obtain ⟨i, _, rfl⟩ := hw
 split <;> omega
theorem apartF_len (fv gv : List Int) (ft gt : List Nat) : (apartF fv gv ft gt).1.length = 34 := by
 simp only [apartF]
 split
 ·split <;> simp [asgn]
 ·simp
theorem apartF_lt (fv gv : List Int) (ft gt : List Nat) : ∀ x ∈ (apartF fv gv ft gt).1, x < 4294967296 := by
 simp only [apartF]
 split
 ·split
  ·exact x_asgn_lt _ _
  ·exact zeros_lt 34
 ·exact zeros_lt 34
noncomputable def apN (a c : Nd) : List Nat × Bool := if a.kind = 0 ∧ c.kind = 0 then fApart a.f c.f else match asB a, asB c with
 | some p, some q => apartF p.1 q.1 p.2 q.2
 | _, _ => (zeros 34, false)
noncomputable def apB (L : List Nd) (x y : Int) : List Nat × Bool := if hasI L x = true ∧ hasI L y = true ∧ x ≠ y then (match L[x.toNat]?, L[y.toNat]? with
 | some a, some c => apN a c
 | _, _ => (zeros 34, false)) else (zeros 34, false)
theorem apN_len (a c : Nd) : (apN a c).1.length = 34 ∧ ∀ x ∈ (apN a c).1, x < 4294967296 := by
 rw [apN]
 split
 ·exact ⟨fApart_len _ _, fApart_lt _ _⟩
 ·split
  ·exact ⟨apartF_len _ _ _ _, apartF_lt _ _ _ _⟩
  ·exact ⟨by simp, zeros_lt 34⟩
theorem apB_len (L : List Nd) (x y : Int) : (apB L x y).1.length = 34 ∧ ∀ c ∈ (apB L x y).1, c < 4294967296 := by
 rw [apB]
 split
 ·split
  ·exact apN_len _ _
  ·exact ⟨by simp, zeros_lt 34⟩
 ·exact ⟨by simp, zeros_lt 34⟩
theorem apB_at {x y : Nat} {a c : Nd} (hx : L[x]? = some a) (hy : L[y]? = some c) (hne : x ≠ y) : apB L x y = apN a c := by
 have h1 := (List.getElem?_eq_some_iff.1 hx).1
 have h2 := (List.getElem?_eq_some_iff.1 hy).1
 rw [apB, if_pos ⟨by simp [hasI]; exact h1, by simp [hasI]; exact h2, by omega⟩, Int.toNat_natCast, Int.toNat_natCast, hx, hy]
theorem Apart_F [HasAffApart G] [HasAffine G] [hA : HasBitsA G] [HasSym G] [HasSymApart G] (x y : Int) (h : Bk H b z m L) (hi : Inv L) : SF G 277 [.ptr b 0, .int .i64 x, .int .i64 y] H (.tup [.agg (cnats .u32 (apB L x y).1), .bool (apB L x y).2]) H := by
 haveI : HasBits G := hA.toHasBits
 refine SF_of HasSymApart.h_sym_Book_Apart (Nat.le_of_ble_eq_true rfl) ?_
 obtain ⟨Z, hZ⟩ : ∃ Z, Z = cnats .u32 (zeros 34) := ⟨_, rfl⟩
 have lZ : Z.length = 34 := by rw [hZ]; simp
 have dZ : Z.drop 34 = [] := List.drop_eq_nil_of_le (by omega)
 have tZ : Z.take 34 = Z := List.take_of_length_le (by omega)
 have kZ : ∀ n, clL n Z = Z := fun n => by rw [hZ]; simp
 have hRn : ∀ n, Option.map (Blk.cl n) (some (.cells Z)) = some (.cells Z) := fun n => by simp [Blk.cl, kZ]
 have h2 : Bk (H ++ [some (.cells Z), some (.cells Z)]) b z m L := h.app fun n => by simp [Blk.cl, kZ]
 have hs2 := h2.shut.self
 have hsh := h.shut.back
 simp at hs2
 simp [← hZ, -List.reduceReplicate]
 refine callSF_of (hasF_ok x h2) ?_
 cases hx : hasI L x with
 | false =>
  have hR : apB L x y = (zeros 34, false) := by rw [apB, if_neg (by simp [hx])]
  simp [hR, ← hZ, lZ, dZ, tZ, ap0, apk, set0, setk, hs2, hsh, kZ]
 | true =>
  simp [hs2]
  refine callSF_of (hasF_ok y h2) ?_
  cases hy : hasI L y with
  | false =>
   have hR : apB L x y = (zeros 34, false) := by rw [apB, if_neg (by simp [hy])]
   simp [hR, ← hZ, lZ, dZ, tZ, ap0, apk, set0, setk, hs2, hsh, kZ]
  | true =>
   by_cases hxy : x = y
   ·subst hxy
    have hR : apB L x x = (zeros 34, false) := by rw [apB, if_neg (by simp)]
    simp [hR, ← hZ, lZ, dZ, tZ, ap0, apk, set0, setk, hs2, hsh, kZ]
   have hbe : (x == y) = false := beqF hxy
   obtain ⟨hx0, hx1⟩ : 0 ≤ x ∧ x < L.length := by simpa [hasI] using hx
   obtain ⟨hy0, hy1⟩ : 0 ≤ y ∧ y < L.length := by simpa [hasI] using hy
   obtain ⟨xn, rfl⟩ := Int.eq_ofNat_of_zero_le hx0
   obtain ⟨yn, rfl⟩ := Int.eq_ofNat_of_zero_le hy0
   obtain ⟨a, ha⟩ : ∃ a, L[xn]? = some a := ⟨_, get_in (by omega)⟩
   obtain ⟨c, hc⟩ : ∃ c, L[yn]? = some c := ⟨_, get_in (by omega)⟩
   have hga := hi.good _ _ ha
   have hgc := hi.good _ _ hc
   have hR : apB L xn yn = apN a c := apB_at ha hc (fun e => hxy (by rw [e]))
   have hRl := apN_len a c
   rw [hR]
   have hd35 : (cnats .u32 (zeros 35)).drop 35 = [] := rfl
   have ta := take_full (k := .u32) hga.1.1
   have tc := take_full (k := .u32) hgc.1.1
   have hb' : ∀ r : Heap, (∀ n, r.map (Option.map (Blk.cl n)) = r) → Bk (H ++ some (.cells Z) :: some (.cells Z) :: r) b z m L := fun r hr => h.app fun n => by simp [Blk.cl, kZ, hr n]
   have hs' : ∀ r : Heap, (∀ n, r.map (Option.map (Blk.cl n)) = r) → trunc (H.length + (r.length + 1 + 1)) (H ++ some (.cells Z) :: some (.cells Z) :: r) = H ++ some (.cells Z) :: some (.cells Z) :: r := fun r hr => by
    have := (hb' r hr).shut.self
    simpa using this
   simp [hbe, hxy, hs2, -List.reduceReplicate]
   refine callSF_of (asSumF_ok xn a (hb' [none] fun n => by simp) ha) ?_
   have s1 := hs' [some (.cells (cnats .u32 a.f))] fun n => by simp [Blk.cl]
   simp at s1
   simp [hga.1.1, ta, hd35, ap0, apk, set0, setk, s1]
   refine callSF_of (asSumF_ok yn c (hb' [some (.cells (cnats .u32 a.f)), none] fun n => by simp [Blk.cl]) hc) ?_
   have s2 := hs' [some (.cells (cnats .u32 a.f)), some (.cells (cnats .u32 c.f))] fun n => by simp [Blk.cl]
   simp at s2
   simp [hga.1.1, ta, hgc.1.1, tc, hd35, ap0, apk, set0, setk, s2]
   obtain ⟨A, hA'⟩ : ∃ A, A = apN a c := ⟨_, rfl⟩
   rw [← hA'] at hRl ⊢
   have tA := take_full (k := .u32) hRl.1
   by_cases hk : a.kind = 0 ∧ c.kind = 0
   ·have hAe : A = fApart a.f c.f := by rw [hA', apN, if_pos hk]
    have hf := fApart_ok (G := G) a.f c.f hga.1.1 hgc.1.1
    rw [← hAe] at hf
    simp [hk.1, hk.2, hga.1.1, ta, hgc.1.1, tc, hd35, ap0, apk, set0, setk, s2]
    refine callP_of hf ?_
    simp [hRl.1, tA, lZ, dZ, ap0, apk, set0, setk, hsh]
   ·have hkb : (decide (a.kind = 0) && decide (c.kind = 0)) = false := by
     rw [Bool.and_eq_false_iff]
     by_cases h1 : a.kind = 0
     ·right; simpa using fun h2 => hk ⟨h1, h2⟩
     ·left; simpa using h1
    have b1 := hb' [some (.cells (cnats .u32 a.f)), some (.cells (cnats .u32 c.f)), none] fun n => by simp [Blk.cl]
    have b2 := hb' [some (.cells (cnats .u32 a.f)), some (.cells (cnats .u32 c.f)), some (.cells (asBC (asB a))), none] fun n => by simp [Blk.cl, asBC_cl]
    have s3 := hs' [some (.cells (cnats .u32 a.f)), some (.cells (cnats .u32 c.f)), some (.cells (asBC (asB a)))] fun n => by simp [Blk.cl, asBC_cl]
    have s4 := hs' [some (.cells (cnats .u32 a.f)), some (.cells (cnats .u32 c.f)), some (.cells (asBC (asB a))), some (.cells (asBC (asB c)))] fun n => by simp [Blk.cl, asBC_cl]
    simp at s3 s4
    have fin : ∀ (p q : Option (List Int × List Nat)), asB a = p → asB c = q → (p.isSome = true → q.isSome = true → ∃ p' q', p = some p' ∧ q = some q' ∧ A = apartF p'.1 q'.1 p'.2 q'.2) ∧ ((p.isSome && q.isSome) = false → A = (zeros 34, false)) := fun p q ep eq => by
     have hAe := hA'
     rw [apN, if_neg hk, ep, eq] at hAe
     cases p <;> cases q <;> simp at hAe ⊢ <;> exact hAe
    by_cases h1 : a.kind = 0
    ·have h2 : ¬ c.kind = 0 := fun h2 => hk ⟨h1, h2⟩
     simp [h1, hga.1.1, ta, hgc.1.1, tc, hd35, ap0, apk, set0, setk, s2]
     simp [h2, ap0, apk, set0, setk]
     refine callSF_of (asBitsF_ok xn a b1 ha hga.2.1) ?_
     simp [asBV_eq, asBC_len, asBC_tk, ap0, apk, set0, setk, s3]
     refine callSF_of (asBitsF_ok yn c b2 hc hgc.2.1) ?_
     simp [asBV_eq, asBC_len, asBC_tk, ap0, apk, set0, setk, s4]
     cases ea : asB a with
     | none =>
      have hAe := (fin _ _ ea rfl).2 rfl
      simp [hAe, ← hZ, lZ, dZ, tZ, ap0, apk, set0, setk, hsh, kZ]
     | some p =>
      cases ec : asB c with
      | none =>
       have hAe := (fin _ _ ea ec).2 rfl
       simp [hAe, ← hZ, lZ, dZ, tZ, ap0, apk, set0, setk, hsh, kZ]
      | some q =>
       obtain ⟨_, _, e1, e2, hAe⟩ := (fin _ _ ea ec).1 rfl rfl
       cases e1; cases e2
       obtain ⟨hp, hpw⟩ := asB_right hga.2.1 ea
       obtain ⟨hq, hqw⟩ := asB_right hgc.2.1 ec
       have l1 := hp.1
       have l2 := hq.1
       have l3 := tab_small l1 hp.2.1
       have l4 := tab_small l2 hq.2.1
       have hap := Apart_ok hA p.1 q.1 p.2 q.2 (by omega) (by omega) (by omega) (by omega) hpw hqw
       rw [← hAe] at hap
       simp only [FV] at hap
       simp [asBC, ap0, apk, set0, setk]
       refine callP_of hap ?_
       simp [hRl.1, tA, lZ, dZ, ap0, apk, set0, setk, hsh]
    ·simp [h1, hga.1.1, ta, hgc.1.1, tc, hd35, ap0, apk, set0, setk, s2]
     refine callSF_of (asBitsF_ok xn a b1 ha hga.2.1) ?_
     simp [asBV_eq, asBC_len, asBC_tk, ap0, apk, set0, setk, s3]
     refine callSF_of (asBitsF_ok yn c b2 hc hgc.2.1) ?_
     simp [asBV_eq, asBC_len, asBC_tk, ap0, apk, set0, setk, s4]
     cases ea : asB a with
     | none =>
      have hAe := (fin _ _ ea rfl).2 rfl
      simp [hAe, ← hZ, lZ, dZ, tZ, ap0, apk, set0, setk, hsh, kZ]
     | some p =>
      cases ec : asB c with
      | none =>
       have hAe := (fin _ _ ea ec).2 rfl
       simp [hAe, ← hZ, lZ, dZ, tZ, ap0, apk, set0, setk, hsh, kZ]
      | some q =>
       obtain ⟨_, _, e1, e2, hAe⟩ := (fin _ _ ea ec).1 rfl rfl
       cases e1; cases e2
       obtain ⟨hp, hpw⟩ := asB_right hga.2.1 ea
       obtain ⟨hq, hqw⟩ := asB_right hgc.2.1 ec
       have l1 := hp.1
       have l2 := hq.1
       have l3 := tab_small l1 hp.2.1
       have l4 := tab_small l2 hq.2.1
       have hap := Apart_ok hA p.1 q.1 p.2 q.2 (by omega) (by omega) (by omega) (by omega) hpw hqw
       rw [← hAe] at hap
       simp only [FV] at hap
       simp [asBC, ap0, apk, set0, setk]
       refine callP_of hap ?_
       simp [hRl.1, tA, lZ, dZ, ap0, apk, set0, setk, hsh]
end Go.Ev
/- Values of sums and of bits are told apart wherever they are not one: plain laws. -/
namespace Go.Ev
open Go Go.RowKit
set_option maxRecDepth 10000
set_option maxHeartbeats 4000000
set_option linter.unusedSimpArgs false
set_option linter.unusedVariables false
variable {L L' L'' : List Nd}
def Nd.pl (a : Nd) : Prop := (a.kind = 0 → a = sumNd a.f) ∧ (a.kind = 1 → ∃ fv ft, a = bitNd fv ft ∧ Right fv ft ∧ fv ≠ [] ∧ ∀ i, fv = [i] → ft ≠ [0, ones] ∧ ft ≠ [ones, 0])
def Grow (L L' : List Nd) : Prop := ∀ a ∈ L', a ∈ L ∨ a.pl
theorem Grow.refl : Grow L L := fun a h => .inl h
theorem Grow.trans (h : Grow L L') (k : Grow L' L'') : Grow L L'' := fun a ha => by
 rcases k a ha with h1 | h1
 ·exact h a h1
 ·exact .inr h1
def Pl (L : List Nd) : Prop := ∀ a ∈ L, a.pl
theorem Pl.nil : Pl [] := fun a h => by cases h
theorem Inv.inj (h : Inv L) {x y : Nat} {a : Nd} (hx : L[x]? = some a) (hy : L[y]? = some a) : x = y := by
 obtain ⟨h1, e1⟩ := List.getElem?_eq_some_iff.1 hx
 obtain ⟨h2, e2⟩ := List.getElem?_eq_some_iff.1 hy
 have hp := List.pairwise_iff_getElem.1 h.one
 rcases Nat.lt_trichotomy x y with hl | hl | hl
 ·exact absurd (e1.trans e2.symm) (hp x y h1 h2 hl)
 ·exact hl
 ·exact absurd (e2.trans e1.symm) (hp y x h2 h1 hl)
/-! Which numbers are sums, and which are bits of some variables. -/
def IsSum (L : List Nd) (x : Int) : Prop := ∃ (n : Nat) (a : Nd), x = n ∧ L[n]? = some a ∧ a.kind = 0
def IsBit (L : List Nd) (x : Int) (P : Int → Prop) : Prop := ∃ (n : Nat) (a : Nd) (p : List Int × List Nat), x = n ∧ L[n]? = some a ∧ asB a = some p ∧ ∀ v ∈ p.1, P v
theorem IsSum.pre {x : Int} (h : IsSum L x) (e : L <+: L') : IsSum L' x := by obtain ⟨n, a, h1, h2, h3⟩ := h; exact ⟨n, a, h1, pre_get e h2, h3⟩
theorem IsBit.pre {x : Int} {P : Int → Prop} (h : IsBit L x P) (e : L <+: L') : IsBit L' x P := by obtain ⟨n, a, p, h1, h2, h3⟩ := h; exact ⟨n, a, p, h1, pre_get e h2, h3⟩
theorem IsBit.mono {x : Int} {P Q : Int → Prop} (h : IsBit L x P) (k : ∀ v, P v → Q v) : IsBit L x Q := by obtain ⟨n, a, p, h1, h2, h3, h4⟩ := h; exact ⟨n, a, p, h1, h2, h3, fun v hv => k v (h4 v hv)⟩
theorem IsSum.has {x : Int} (h : IsSum L x) : hasI L x = true := by obtain ⟨n, a, rfl, h2, _⟩ := h; simp [hasI]; exact (List.getElem?_eq_some_iff.1 h2).1
theorem IsBit.has {x : Int} {P : Int → Prop} (h : IsBit L x P) : hasI L x = true := by obtain ⟨n, a, p, rfl, h2, _⟩ := h; simp [hasI]; exact (List.getElem?_eq_some_iff.1 h2).1
end Go.Ev
/- What was made as a sum, or as bits, is one in the book. -/
namespace Go.Ev
open Go Go.RowKit
variable {G : Tbl}
set_option maxRecDepth 10000
set_option maxHeartbeats 4000000
set_option linter.unusedSimpArgs false
set_option linter.unusedVariables false
variable {L L' : List Nd} {l : List Md}
inductive How (s : MS) (a : Md) : Md → Int × List Nd → Prop
 | none {b p} : b.kind = 4 → How s a b p
 | con {b} : b.kind = 0 → b.c = a.c → How s a b (putN s.L (sumNd (a.c :: zeros 34)))
 | var {b} : b.kind = 1 → 0 ≤ b.i → b.i < 34 → How s a b (varN s.L b.i)
 | alu {b} : b.kind = 2 → (doW b.op 0 1).2 = true → thereB s.made b.x = true → thereB s.made b.y = true → How s a b (bAlu s.L b.op (atI s.ids b.x) (atI s.ids b.y))
 | neg {b} : b.kind = 3 → thereB s.made b.x = true → How s a b (bNeg s.L (atI s.ids b.x))
theorem IsSum.back {n : Nat} (h : IsSum L' n) (e : L <+: L') (hn : n < L.length) : IsSum L n := by
 obtain ⟨m, a, h1, h2, h3⟩ := h
 obtain rfl : n = m := by omega
 have := pre_get e (get_in hn)
 rw [h2] at this
 cases this
 exact ⟨n, _, rfl, get_in hn, h3⟩
theorem IsBit.back {n : Nat} {P : Int → Prop} (h : IsBit L' n P) (e : L <+: L') (hn : n < L.length) : IsBit L n P := by
 obtain ⟨m, a, p, h1, h2, h3⟩ := h
 obtain rfl : n = m := by omega
 have := pre_get e (get_in hn)
 rw [h2] at this
 cases this
 exact ⟨n, _, p, rfl, get_in hn, h3⟩
theorem ahead {s f : MS} {i : Nat} {x : Int} (hM : MI (zeros 34) s) (e1 : s.ids = f.ids.take i) (e2 : s.made = f.made.take i) (hx : thereB s.made x = true) :
  ∃ n m : Nat, ∃ c, x = n ∧ n < i ∧ f.made[n]? = some c ∧ c.kind ≠ 4 ∧ f.ids[n]? = some (m : Int) ∧ atI s.ids x = m ∧ m < s.L.length := by
 obtain ⟨n, m, h1, h2, h3, h4, _⟩ := hM.there hx
 have hni : n < i := by rw [e2, List.length_take] at h2; omega
 obtain ⟨c, hcc⟩ : ∃ c, s.made[n]? = some c := ⟨_, get_in h2⟩
 obtain ⟨y, hy⟩ : ∃ y, s.ids[n]? = some y := ⟨_, get_in (by rw [hM.len]; exact h2)⟩
 have hym : y = m := by
  rw [atI, h1, if_pos ⟨by omega, by rw [hM.len]; omega⟩, Int.toNat_natCast, hy] at h3
  exact h3
 subst h1
 refine ⟨n, m, c, rfl, hni, ?_, ?_, ?_, h3, h4⟩
 ·rw [e2, List.getElem?_take, if_pos hni] at hcc; exact hcc
 ·simp only [thereB, Int.toNat_natCast, hcc, Bool.and_eq_true, decide_eq_true_eq] at hx; exact hx.2
 ·rw [e1, List.getElem?_take, if_pos hni, hym] at hy; exact hy
end Go.Ev
/- The assignments that may tell two windows apart: decide.tries. -/
namespace Go.Ev
open Go Go.RowKit
variable {G : Tbl}
set_option maxRecDepth 10000
set_option maxHeartbeats 4000000
set_option linter.unusedSimpArgs false
set_option linter.unusedVariables false
def cellsK (i : Nat) : List Nat := [0, 4294967295, 1, 2147483648, 3 + 7 * i, 16843009 * (i + 1), 2, 65535, 1431655765, 2863311530 * 2 ^ (i % 3) % 4294967296, i % 2, i * 2654435769 % 4294967296]
def rowK (k : Nat) : List Nat := (List.range 34).map fun i => (cellsK i).getD k 0
theorem rowK_len (k : Nat) : (rowK k).length = 34 := by simp [rowK]
theorem cellsK_lt {i : Nat} (hi : i < 34) : ∀ x ∈ cellsK i, x < 4294967296 := by
 intro x hx
 simp only [cellsK, List.mem_cons, List.not_mem_nil, or_false] at hx
 rcases hx with rfl | rfl | rfl | rfl | rfl | rfl | rfl | rfl | rfl | rfl | rfl | rfl <;> omega
theorem rowK_lt (k : Nat) : ∀ x ∈ rowK k, x < 4294967296 := by
 intro x hx
 simp only [rowK, List.mem_map, List.mem_range] at hx
 obtain ⟨i, hi, rfl⟩ := hx
 rw [List.getD]
 cases hg : (cellsK i)[k]? with
 | none => decide
 | some y => exact cellsK_lt hi y (List.mem_of_getElem? hg)
def rowAt (k i : Nat) : List Nat := (rowK k).take i ++ zeros (34 - i)
theorem rowAt_len {k i : Nat} (hi : i ≤ 34) : (rowAt k i).length = 34 := by simp [rowAt, rowK_len]; omega
theorem rowAt_34 (k : Nat) : rowAt k 34 = rowK k := by rw [rowAt, List.take_of_length_le (by rw [rowK_len]; exact Nat.le_refl _)]; simp [zeros]
theorem rowAt_set {k i : Nat} (hi : i < 34) : (rowAt k i).set i ((cellsK i).getD k 0) = rowAt k (i + 1) := by
 have hg : (rowK k)[i]'(by rw [rowK_len]; omega) = (cellsK i).getD k 0 := by simp [rowK]
 rw [rowAt, rowAt, List.set_append_right _ _ (by rw [List.length_take]; omega), List.length_take, Nat.min_eq_left (by rw [rowK_len]; omega), Nat.sub_self, List.take_succ_eq_append_getElem (by rw [rowK_len]; omega), hg, List.append_assoc]
 congr 1
 rw [show 34 - i = (34 - (i + 1)) + 1 by omega]
 rfl
theorem mulW32 {a b : Nat} : mulI .u32 (a : Int) (b : Int) = ((a * b % 4294967296 : Nat) : Int) := by
 unfold mulI
 rw [← Int.natCast_mul]
 simp only [IntKind.wrap, IntKind.bits, IntKind.signed]
 simp
section
variable {α : Type} {f : Nat → Option α} {hit : α → Bool} {n i : Nat}
theorem findT_none (h : ∀ j < n, ∀ r, f j = some r → hit r = false) : ((List.range n).filterMap f).find? hit = none := by
 rw [List.find?_eq_none]
 intro r hr
 obtain ⟨j, hj, hfr⟩ := List.mem_filterMap.1 hr
 rw [h j (List.mem_range.1 hj) r hfr]; decide
theorem findT_at (hi : i < n) (h : ∀ j < i, ∀ r, f j = some r → hit r = false) {r : α} (hr : f i = some r) (hh : hit r = true) : ((List.range n).filterMap f).find? hit = some r := by
 obtain ⟨m, rfl⟩ : ∃ m, n = i + (m + 1) := ⟨n - i - 1, by omega⟩
 rw [List.range_add, List.filterMap_append, List.find?_append, findT_none h, Option.none_or]
 rw [List.range_succ_eq_map, List.map_cons, List.filterMap_cons]
 simp only [Nat.add_zero, hr, List.find?_cons, hh]
end
noncomputable def trA (L : List Nd) (p q : List Int) (live i : Nat) : Option (List Nat) := if partB live i = true ∧ (apB L (p.getD i 0) (q.getD i 0)).2 = true then some (apB L (p.getD i 0) (q.getD i 0)).1 else none
noncomputable def triesL (L : List Nd) (p q : List Int) (live : Nat) : List (List Nat) := (List.range 18).filterMap (trA L p q live) ++ (List.range 12).filterMap fun k => some (rowK k)
theorem triesL_ok {L : List Nd} {p q : List Int} {live : Nat} {r : List Nat} (h : r ∈ triesL L p q live) : r.length = 34 ∧ ∀ x ∈ r, x < 4294967296 := by
 rw [triesL, List.mem_append] at h
 rcases h with h | h
 ·obtain ⟨j, hj, hfr⟩ := List.mem_filterMap.1 h
  unfold trA at hfr
  split at hfr
  ·cases hfr; exact apB_len _ _ _
  ·cases hfr
 ·obtain ⟨j, hj, hfr⟩ := List.mem_filterMap.1 h
  cases hfr
  exact ⟨rowK_len _, rowK_lt _⟩
section
variable {H : Heap} {b z m : Nat} {L : List Nd}
theorem trunc_app {A X : Heap} {n : Nat} (h : trunc n A = A) (hl : A.length = n) : trunc n (A ++ X) = A := by
 unfold trunc at h ⊢
 rw [List.take_left' hl]
 rwa [List.take_of_length_le (Nat.le_of_eq hl)] at h
theorem tries1_ok [HasAffApart G] [HasAffine G] [hA : HasBitsA G] [HasSym G] [HasSymApart G] [HasDecDf G] [HasDec G] (h : Bk H b z m L) (hi : Inv L) {id i1 i2 i3 i4 live : Nat} {p q s t : List Int} (hlv : live < 4294967296)
  (h1 : H[i1]? = some (some (.cells [.int .u32 live]))) (h2 : H[i2]? = some (some (.cells [.ptr b 0]))) (h3 : H[i3]? = some (some (.cells (vcs p s .no)))) (h4 : H[i4]? = some (some (.cells (vcs q t .no))))
  (hp : p.length = 18) (hq : q.length = 18) (hid : id < H.length) {hit : List Nat → Bool} {H' : List Nat → Heap}
  (hyes : ∀ r ∈ triesL L p q live, hit r = false → ∀ X : Heap, (∀ n, X.map (Option.map (Blk.cl n)) = X) → YS G id [.agg (cnats .u32 r)] (H ++ X) true (H ++ X))
  (hno : ∀ r ∈ triesL L p q live, hit r = true → ∀ X : Heap, (∀ n, X.map (Option.map (Blk.cl n)) = X) → YS G id [.agg (cnats .u32 r)] (H ++ X) false (H' r ++ X))
  (hl' : ∀ r ∈ triesL L p q live, hit r = true → trunc H.length (H' r) = H' r ∧ (H' r).length = H.length) :
  SF G 310 [.yld id, .ptr i1 0, .ptr i2 0, .ptr i3 0, .ptr i4 0] H (.tup []) (match (triesL L p q live).find? hit with | some r => H' r | none => H) := by
 refine SF_of HasDec.h_decide_tries_1 (Nat.le_of_ble_eq_true rfl) ?_
 have lt1 : i1 < H.length := (List.getElem?_eq_some_iff.1 h1).1
 have lt2 : i2 < H.length := (List.getElem?_eq_some_iff.1 h2).1
 have lt3 : i3 < H.length := (List.getElem?_eq_some_iff.1 h3).1
 have lt4 : i4 < H.length := (List.getElem?_eq_some_iff.1 h4).1
 have hself := h.shut.self
 have hback := h.shut.back
 have hbl := h.lb
 have g1 := (List.getElem?_eq_some_iff.1 h1).2
 have g2 := (List.getElem?_eq_some_iff.1 h2).2
 have g3 := (List.getElem?_eq_some_iff.1 h3).2
 have g4 := (List.getElem?_eq_some_iff.1 h4).2
 have e1 : ∀ X : Heap, (H ++ X)[i1]? = some (some (.cells [.int .u32 live])) := fun X => by rw [List.getElem?_append_left lt1]; exact h1
 have e2 : ∀ X : Heap, (H ++ X)[i2]? = some (some (.cells [.ptr b 0])) := fun X => by rw [List.getElem?_append_left lt2]; exact h2
 have e3 : ∀ X : Heap, (H ++ X)[i3]? = some (some (.cells (vcs p s .no))) := fun X => by rw [List.getElem?_append_left lt3]; exact h3
 have e4 : ∀ X : Heap, (H ++ X)[i4]? = some (some (.cells (vcs q t .no))) := fun X => by rw [List.getElem?_append_left lt4]; exact h4
 have e1' : ∀ (X : Heap) h, (H ++ X)[i1]'h = some (.cells [.int .u32 live]) := fun X h => (List.getElem?_eq_some_iff.1 (e1 X)).2
 have e2' : ∀ (X : Heap) h, (H ++ X)[i2]'h = some (.cells [.ptr b 0]) := fun X h => (List.getElem?_eq_some_iff.1 (e2 X)).2
 have e3' : ∀ (X : Heap) h, (H ++ X)[i3]'h = some (.cells (vcs p s .no)) := fun X h => (List.getElem?_eq_some_iff.1 (e3 X)).2
 have e4' : ∀ (X : Heap) h, (H ++ X)[i4]'h = some (.cells (vcs q t .no)) := fun X h => (List.getElem?_eq_some_iff.1 (e4 X)).2
 have k0 : ∀ (r : Heap) x, (H ++ r).set H.length x = H ++ r.set 0 x := fun r x => setn0 rfl x
 have kk : ∀ r : Heap, (H ++ r)[H.length]? = r[0]? := fun r => apn0 rfl
 have lp := vcs_len (st := s) (tk := .no) hp
 have lq := vcs_len (st := t) (tk := .no) hq
 have hBn : Bk (H ++ [none]) b z m L := h.app fun n => by simp
 have hmap : H.map (Option.map (Blk.cl H.length)) = H := by
  have := hself
  unfold trunc at this
  rwa [List.take_of_length_le (Nat.le_refl _)] at this
 simp
 refine W_up 18 (fun i => [(0, .yld id), (1, .ptr i1 0), (2, .ptr i2 0), (3, .ptr i3 0), (4, .ptr i4 0), (12, .int .i64 i)]) (fun _ => H) (fun i => ∀ j < i, ∀ r, trA L p q live j = some r → hit r = false) ?_ ?_
 ·simp [keep_cl, hself, hid, lt1, lt2, lt3, lt4]
 intro i hi' hP
 by_cases hlt : i < 18
 ·have hin := In_ok (G := G) live i hlv (by omega)
  simp (disch := omega) [ltT, hlt, h1, g1]
  refine callP_of hin ?_
  cases hb : partB live i with
  | false =>
   have hP' : ∀ j < i + 1, ∀ r, trA L p q live j = some r → hit r = false := fun j hj r hr => by
    rcases Nat.lt_succ_iff_lt_or_eq.1 hj with h | rfl
    ·exact hP j h r hr
    ·simp [trA, hb] at hr
   simp (disch := omega) [ltT, hlt, add1', keep_cl, hself, hid, lt1, lt2, lt3, lt4, -Int.natCast_add]
   exact hP'
  | true =>
   obtain ⟨x, hx⟩ : ∃ x, x = p.getD i 0 := ⟨_, rfl⟩
   obtain ⟨y, hy⟩ : ∃ y, y = q.getD i 0 := ⟨_, rfl⟩
   have gx : x = p[i]'(by omega) := by rw [hx]; simp [List.getD, List.getElem?_eq_getElem (show i < p.length by omega)]
   have gy : y = q[i]'(by omega) := by rw [hy]; simp [List.getD, List.getElem?_eq_getElem (show i < q.length by omega)]
   have vx := vcs_get (p := p) (st := s) (tk := .no) hp hlt
   have vy := vcs_get (p := q) (st := t) (tk := .no) hq hlt
   rw [← gx] at vx
   rw [← gy] at vy
   have hap := Apart_F (G := G) x y hBn hi
   have hal := apB_len L x y
   have hR : trA L p q live i = if (apB L x y).2 = true then some (apB L x y).1 else none := by rw [hx, hy]; simp [trA, hb]
   obtain ⟨r, hr⟩ : ∃ r, r = (apB L x y).1 := ⟨_, rfl⟩
   obtain ⟨ok, hok⟩ : ∃ ok, ok = (apB L x y).2 := ⟨_, rfl⟩
   rw [← hr, ← hok] at hap hR
   rw [← hr] at hal
   have rt := take_full (k := .u32) hal.1
   have rd : (cnats .u32 r).drop 34 = [] := List.drop_eq_nil_of_le (by simp [hal.1])
   simp (disch := omega) [ltT, leTn, leFn, hlt, keep_cl, e1, e2, e3, e4, e1', e2', e3', e4', lp, lq, vx, vy, hself, hid, lt1, lt2, lt3, lt4]
   refine callEF_of hap ⟨?_, ?_, rfl⟩ ?_
   ·intro v hv
    simp only [List.mem_cons, List.not_mem_nil, or_false] at hv
    rcases hv with rfl | rfl | rfl <;> simp [V.cl, hbl]
   ·simp only [List.map_append, hmap, List.map_cons, List.map_nil, Option.map_none]
   simp (disch := omega) [k0, kk, hal.1, rt, rd]
   have htr : ok = true → r ∈ triesL L p q live := fun h => by
    rw [triesL, List.mem_append]
    exact .inl (List.mem_filterMap.2 ⟨i, List.mem_range.2 hlt, by rw [hR, if_pos h]⟩)
   have hP1 : (∀ r', trA L p q live i = some r' → hit r' = false) → ∀ j < i + 1, ∀ r, trA L p q live j = some r → hit r = false := fun h0 j hj r hr => by
    rcases Nat.lt_succ_iff_lt_or_eq.1 hj with h | rfl
    ·exact hP j h r hr
    ·exact h0 r hr
   cases ok with
   | false =>
    have := hP1 fun r' h => by rw [hR] at h; cases h
    simp (disch := omega) [hlt, add1', keep_cl, hself, hback, hid, lt1, lt2, lt3, lt4, -Int.natCast_add]
    exact this
   | true =>
    have hXc : ∀ n, ([some (Blk.cells (cnats .u32 r))] : Heap).map (Option.map (Blk.cl n)) = [some (Blk.cells (cnats .u32 r))] := fun n => by simp [Blk.cl]
    simp (disch := omega) [hlt, keep_cl, hid, lt1, lt2, lt3, lt4, kk, hal.1, rt]
    cases hh : hit r with
    | false =>
     refine callY_of (hyes r (htr rfl) hh _ hXc) ?_
     have := hP1 fun r' h => by rw [hR, if_pos rfl] at h; cases h; exact hh
     simp (disch := omega) [hlt, add1', keep_cl, hself, hback, hid, lt1, lt2, lt3, lt4, -Int.natCast_add]
     exact this
    | true =>
     refine callY_of (hno r (htr rfl) hh _ hXc) ?_
     obtain ⟨hl1, hl2⟩ := hl' r (htr rfl) hh
     have hf := findT_at hlt hP (by rw [hR, if_pos rfl]) hh
     have hfin : (triesL L p q live).find? hit = some r := by rw [triesL, List.find?_append, hf]; rfl
     simp [hfin, trunc_app hl1 hl2]
 ·have hne : i = 18 := by omega
  subst hne
  have hA := findT_none hP
  simp
  refine W_up 12 (fun k => [(0, .yld id), (40, .int .u32 k)]) (fun _ => H) (fun k => ∀ j < k, ∀ r, (some (rowK j) : Option (List Nat)) = some r → hit r = false) ?_ ?_
  ·simp [keep_cl, hself, hid]
  intro k hk hP2
  by_cases hlt2 : k < 12
  ·have hz34 : [V.int .u32 0, .int .u32 0] = [V.int .u32 0, .int .u32 0] := rfl
   have hs : ∀ i, trunc (H.length + 1) (H ++ [some (.cells (cnats .u32 (rowAt k i)))]) = H ++ [some (.cells (cnats .u32 (rowAt k i)))] := fun i => by
    have := (h.app (r := [some (.cells (cnats .u32 (rowAt k i)))]) fun n => by simp [Blk.cl]).shut.self
    simpa using this
   simp (disch := omega) [ltT, hlt2, kk, k0]
   refine W_up 34 (fun i => [(0, .yld id), (9, .int .u32 k), (10, .ptr H.length 0), (40, .int .u32 k), (43, .int .i64 i)]) (fun i => H ++ [some (.cells (cnats .u32 (rowAt k i)))]) (fun _ => True) ?_ ?_
   ·have := hs 0
    rw [show rowAt k 0 = zeros 34 by simp [rowAt]] at this
    simp [keep_cl, this, rowAt, show id < H.length + 1 by omega]
   intro i hi _
   by_cases hlt3 : i < 34
   ·have r3 : remI (i : Int) 3 = ((i % 3 : Nat) : Int) := rem64 (b := 3)
    have r2 : remI (i : Int) 2 = ((i % 2 : Nat) : Int) := rem64 (b := 2)
    have r3n : (((i % 3 : Nat) : Int) < 0) = False := eq_false (by omega)
    have s3 : shlI .u32 2863311530 ((i % 3 : Nat) : Int) = ((2863311530 * 2 ^ (i % 3) % 4294967296 : Nat) : Int) := shl32 (a := 2863311530) (by omega)
    have c1 : convI .u32 (i : Int) = (i : Int) := wrap_nat32 (by omega)
    have c2 : convI .u32 ((i + 1 : Nat) : Int) = ((i + 1 : Nat) : Int) := wrap_nat32 (by omega)
    have c3 : convI .u32 ((i % 2 : Nat) : Int) = ((i % 2 : Nat) : Int) := wrap_nat32 (by omega)
    have m1 : mulI .u32 7 (i : Int) = ((7 * i : Nat) : Int) := mulU32 (a := 7) (by omega)
    have a1 : addI .u32 3 ((7 * i : Nat) : Int) = ((3 + 7 * i : Nat) : Int) := by
     unfold addI
     rw [show (3 : Int) + ((7 * i : Nat) : Int) = ((3 + 7 * i : Nat) : Int) by omega]
     exact wrap_nat32 (by omega)
    have m2 : mulI .u32 16843009 ((i + 1 : Nat) : Int) = ((16843009 * (i + 1) : Nat) : Int) := mulU32 (a := 16843009) (by omega)
    have m3 : mulI .u32 (i : Int) 2654435769 = ((i * 2654435769 % 4294967296 : Nat) : Int) := mulW32 (b := 2654435769)
    have hc : ∀ n9 : Nat, n9 = 2863311530 * 2 ^ (i % 3) % 4294967296 → ∀ n11 : Nat, n11 = i * 2654435769 % 4294967296 → [V.int .u32 0, .int .u32 4294967295, .int .u32 1, .int .u32 2147483648, .int .u32 ((3 + 7 * i : Nat) : Int), .int .u32 ((16843009 * (i + 1) : Nat) : Int), .int .u32 2, .int .u32 65535, .int .u32 1431655765, .int .u32 (n9 : Int), .int .u32 ((i % 2 : Nat) : Int), .int .u32 (n11 : Int)] = cnats .u32 (cellsK i) := by
     rintro n9 rfl n11 rfl
     rfl
    obtain ⟨n9, hn9⟩ : ∃ n9, n9 = 2863311530 * 2 ^ (i % 3) % 4294967296 := ⟨_, rfl⟩
    obtain ⟨n11, hn11⟩ : ∃ n11, n11 = i * 2654435769 % 4294967296 := ⟨_, rfl⟩
    have hc := hc n9 hn9 n11 hn11
    rw [← hn9] at s3
    rw [← hn11] at m3
    have hz12 : cnats .u32 (zeros 12) = [V.int .u32 0, .int .u32 0, .int .u32 0, .int .u32 0, .int .u32 0, .int .u32 0, .int .u32 0, .int .u32 0, .int .u32 0, .int .u32 0, .int .u32 0, .int .u32 0] := rfl
    have lc : (cellsK i).length = 12 := rfl
    have cg := cnats_get .u32 (cellsK i) k (by rw [lc]; exact hlt2)
    have hce : (cellsK i)[k]'(by rw [lc]; exact hlt2) = (cellsK i).getD k 0 := by simp [List.getD, List.getElem?_eq_getElem (show k < (cellsK i).length from hlt2)]
    rw [hce] at cg
    have hst := cnats_set .u32 (rowAt k i) i ((cellsK i).getD k 0) (by rw [rowAt_len hi]; exact hlt3)
    rw [rowAt_set hlt3] at hst
    obtain ⟨cv, hcv⟩ : ∃ cv, cv = (cellsK i).getD k 0 := ⟨_, rfl⟩
    rw [← hcv] at cg hst
    simp (disch := omega) [ltT, hlt3, kk, k0, rowAt_len hi, r3, r2, r3n, s3, c1, add1', c2, c3, m1, a1, m2, m3, hz12, -Int.natCast_add, -Int.natCast_mul, -Int.natCast_emod]
    have lr := rowAt_len hi (k := k)
    have lr' := rowAt_len (show i + 1 ≤ 34 from hlt3) (k := k)
    rw [hc, cg]
    simp (disch := omega) [ltT, leTn, hlt3, show k ≤ 11 by omega, kk, k0, lr, hst, hs, keep_cl, add1', show id < H.length + 1 by omega, -Int.natCast_add]
   ·have hne : i = 34 := by omega
    subst hne
    have hXc : ∀ n, ([some (Blk.cells (cnats .u32 (rowK k)))] : Heap).map (Option.map (Blk.cl n)) = [some (Blk.cells (cnats .u32 (rowK k)))] := fun n => by simp [Blk.cl]
    have hmem : rowK k ∈ triesL L p q live := by
     rw [triesL, List.mem_append]
     exact .inr (List.mem_filterMap.2 ⟨k, List.mem_range.2 hlt2, rfl⟩)
    have rl := rowK_len k
    have rt := take_full (k := .u32) rl
    have ck : addI .u32 (k : Int) 1 = ((k + 1 : Nat) : Int) := by
     unfold addI
     rw [show (k : Int) + 1 = ((k + 1 : Nat) : Int) by omega]
     exact wrap_nat32 (by omega)
    simp [rowAt_34, kk, rl, rt]
    cases hh : hit (rowK k) with
    | false =>
     refine callY_of (hyes _ hmem hh _ hXc) ?_
     have hP3 : ∀ j < k + 1, ∀ r, (some (rowK j) : Option (List Nat)) = some r → hit r = false := fun j hj r hr => by
      rcases Nat.lt_succ_iff_lt_or_eq.1 hj with h | rfl
      ·exact hP2 j h r hr
      ·cases hr; exact hh
     simp (disch := omega) [hlt2, ck, keep_cl, hself, hback, hid, -Int.natCast_add]
     simpa using hP3
    | true =>
     refine callY_of (hno _ hmem hh _ hXc) ?_
     obtain ⟨hl1, hl2⟩ := hl' _ hmem hh
     have hB := findT_at hlt2 hP2 rfl hh
     have hfin : (triesL L p q live).find? hit = some (rowK k) := by rw [triesL, List.find?_append, hA, hB]; rfl
     simp [hfin, trunc_app hl1 hl2]
  ·have hne : k = 12 := by omega
   subst hne
   have hB := findT_none hP2
   have hfin : (triesL L p q live).find? hit = none := by rw [triesL, List.find?_append, hA, hB]; rfl
   simp [hfin, hself]
end
end Go.Ev
/- Whether values and stops are one: decide.same. -/
namespace Go.Ev
open Go Go.RowKit
variable {G : Tbl}
set_option maxRecDepth 10000
set_option maxHeartbeats 4000000
set_option linter.unusedSimpArgs false
set_option linter.unusedVariables false
def numDiff (p q : List Int) (live i : Nat) : Bool := partB live i && (p.getD i 0 != q.getD i 0)
def sameB (p q s t : List Int) (live : Nat) : Bool := !((List.range 18).any (numDiff p q live)) && decide (s = t)
theorem sameB_yes {p q s t : List Int} {live : Nat} : sameB p q s t live = true ↔ (∀ i < 18, numDiff p q live i = false) ∧ s = t := by
 simp [sameB]
theorem sameB_no1 {p q s t : List Int} {live i : Nat} (hi : i < 18) (h : numDiff p q live i = true) : sameB p q s t live = false := by
 have : (List.range 18).any (numDiff p q live) = true := List.any_eq_true.2 ⟨i, List.mem_range.2 hi, h⟩
 simp only [sameB, this, Bool.not_true, Bool.false_and]
theorem sameB_no2 {p q s t : List Int} {live : Nat} (h : s ≠ t) : sameB p q s t live = false := by simp [sameB, h]
theorem same_ok [HasDecDf G] [HasDec G] (p q s t : List Int) (live : Nat) (hlv : live < 4294967296) (hp : p.length = 18) (hq : q.length = 18) (hs : s.length ≤ 1000000) :
  FP G 309 [.agg (vcs p s .no), .agg (vcs q t .no), .int .u32 live] (.bool (sameB p q s t live)) := by
 refine FP_of HasDec.h_decide_same (Nat.le_of_ble_eq_true rfl) ?_
 have lp := vcs_len (st := s) (tk := .no) hp
 have lq := vcs_len (st := t) (tk := .no) hq
 have cp : ∀ n, clL n (vcs p s .no) = vcs p s .no := fun n => by rw [clL_eq_map, vcs]; simp [cints, Function.comp_def, V.cl, Tk.cl]
 have cq : ∀ n, clL n (vcs q t .no) = vcs q t .no := fun n => by rw [clL_eq_map, vcs]; simp [cints, Function.comp_def, V.cl, Tk.cl]
 have np : (vcs p s .no).map V.nf1 = vcs p s .no := by simp [vcs, cints, Function.comp_def, V.nf1]
 have nq : (vcs q t .no).map V.nf1 = vcs q t .no := by simp [vcs, cints, Function.comp_def, V.nf1]
 have sp := vcs_st (st := s) (tk := .no) hp
 have sq := vcs_st (st := t) (tk := .no) hq
 obtain ⟨P, hP⟩ : ∃ P, P = vcs p s .no := ⟨_, rfl⟩
 obtain ⟨Q, hQ⟩ : ∃ Q, Q = vcs q t .no := ⟨_, rfl⟩
 simp only [← hP, ← hQ] at lp lq cp cq np nq sp sq ⊢
 simp [np, nq]
 refine W_up 18 (fun i => [(2, .int .u32 live), (3, .ptr 0 0), (4, .ptr 1 0), (10, .int .i64 i)]) (fun _ => [some (.cells P), some (.cells Q)]) (fun i => ∀ j < i, numDiff p q live j = false) ?_ ?_
 ·simp [keep_cl, trunc, cp, cq]
 intro i hi hP1
 by_cases hlt : i < 18
 ·have hin := In_ok (G := G) live i hlv (by omega)
  obtain ⟨x, hx⟩ : ∃ x, x = p.getD i 0 := ⟨_, rfl⟩
  obtain ⟨y, hy⟩ : ∃ y, y = q.getD i 0 := ⟨_, rfl⟩
  have gx : x = p[i]'(by omega) := by rw [hx]; simp [List.getD, List.getElem?_eq_getElem (show i < p.length by omega)]
  have gy : y = q[i]'(by omega) := by rw [hy]; simp [List.getD, List.getElem?_eq_getElem (show i < q.length by omega)]
  have vx := vcs_get (p := p) (st := s) (tk := .no) hp hlt
  have vy := vcs_get (p := q) (st := t) (tk := .no) hq hlt
  rw [← gx, ← hP] at vx
  rw [← gy, ← hQ] at vy
  have hnd : numDiff p q live i = (partB live i && (x != y)) := by rw [hx, hy]; rfl
  have hP2 : numDiff p q live i = false → ∀ j < i + 1, numDiff p q live j = false := fun h0 j hj => by
   rcases Nat.lt_succ_iff_lt_or_eq.1 hj with h | rfl
   ·exact hP1 j h
   ·exact h0
  simp (disch := omega) [ltT, hlt]
  refine callP_of hin ?_
  cases hb : partB live i with
  | false =>
   rw [hb, Bool.false_and] at hnd
   simp (disch := omega) [ltT, hlt, add1', keep_cl, trunc, cp, cq, -Int.natCast_add]
   exact hP2 hnd
  | true =>
   rw [hb, Bool.true_and] at hnd
   by_cases hxy : x = y
   ·have hn : numDiff p q live i = false := by rw [hnd, hxy]; simp
    simp (disch := omega) [ltT, leTn, lp, lq, vx, vy, hxy, hlt, add1', keep_cl, trunc, cp, cq, -Int.natCast_add]
    exact hP2 hn
   ·have hn : numDiff p q live i = true := by rw [hnd]; simp [hxy]
    simp (disch := omega) [ltT, leTn, lp, lq, vx, vy, bneT hxy, hxy, hlt, sameB_no1 hlt hn]
 ·have hne : i = 18 := by omega
  subst hne
  simp [lp, lq, sp, sq, keep_cl]
  by_cases hl : s.length = t.length
  ·simp [hl, lp, lq, sp, sq, keep_cl]
   refine W_up s.length (fun i => [(4, .ptr 1 0), (36, .vs (ints .i64 s) .no), (37, .int .i64 s.length), (38, .int .i64 i)]) (fun _ => [some (.cells P), some (.cells Q)]) (fun i => s.take i = t.take i) ?_ ?_
   ·simp [keep_cl, trunc, cp, cq, hl]
   intro i hi hT
   by_cases hlt : i < s.length
   ·have g1 : (ints .i64 s)[i]? = some [.int .i64 s[i]] := by simp [hlt]
    have g2 : (ints .i64 t)[i]? = some [.int .i64 (t[i]'(by omega))] := by simp [show i < t.length by omega]
    obtain ⟨x, hx⟩ : ∃ x, x = s[i] := ⟨_, rfl⟩
    obtain ⟨y, hy⟩ : ∃ y, y = t[i]'(by omega) := ⟨_, rfl⟩
    rw [← hx] at g1
    rw [← hy] at g2
    have hx := hx.symm
    have hy := hy.symm
    by_cases hxy : x = y
    ·have hT' : s.take (i + 1) = t.take (i + 1) := by
      rw [List.take_add_one, List.take_add_one, hT, List.getElem?_eq_getElem hlt, List.getElem?_eq_getElem (show i < t.length by omega), hx, hy, hxy]
     simp (disch := omega) [ltT, hlt, hl, lp, lq, sp, sq, g1, g2, hx, hy, hxy, add1', keep_cl, trunc, cp, cq, hT', show i < t.length by omega, -Int.natCast_add]
    ·have hne : s ≠ t := by
      rintro rfl
      exact hxy (hx.symm.trans hy)
     simp (disch := omega) [ltT, hlt, hl, lp, lq, sp, sq, g1, g2, hx, hy, bneT hxy, hxy, sameB_no2 hne]
   ·have hne : i = s.length := by omega
    subst hne
    rw [List.take_length, hl, List.take_length] at hT
    simp [sameB_yes.2 ⟨hP1, hT⟩]
  ·have hne : s ≠ t := fun h => hl (by rw [h])
   have hne' : ((s.length : Int) != (t.length : Int)) = true := bneT (by omega)
   simp [hl, hne', sameB_no2 hne]
end Go.Ev
/- Ranges over functions whose contracts speak of memory. -/
namespace Go.Ev
open Go Go.RowKit
variable {G : Tbl}
set_option linter.unusedSimpArgs false
set_option linter.unusedVariables false
mutual
theorem V.cl_cl {n m : Nat} (h : n ≤ m) : ∀ v : V, (v.cl m).cl n = v.cl n
 | .ptr id off => by
  by_cases h1 : id < m
  ·simp only [V.cl, if_pos h1]
  ·simp only [V.cl, if_neg h1, if_neg (show ¬ id < n by omega)]
 | .rs id off k sz => by
  by_cases h1 : id < m
  ·simp only [V.cl, if_pos h1]
  ·simp only [V.cl, if_neg h1, if_neg (show ¬ id < n by omega)]
 | .mp id => by
  by_cases h1 : id < m
  ·simp only [V.cl, if_pos h1]
  ·simp only [V.cl, if_neg h1, if_neg (show ¬ id < n by omega)]
 | .yld id => by
  by_cases h1 : id < m
  ·simp only [V.cl, if_pos h1]
  ·simp only [V.cl, if_neg h1, if_neg (show ¬ id < n by omega)]
 | .vs es tk => by
  simp only [V.cl]
  cases tk with
  | own q =>
   by_cases h1 : q < m
   ·simp only [Tk.cl, if_pos h1]
   ·simp only [Tk.cl, if_neg h1, if_neg (show ¬ q < n by omega)]
  | no => rfl
  | full => rfl
 | .fn f cap => by simp only [V.cl, clL_clL h cap]
 | .agg cs => by simp only [V.cl, clL_clL h cs]
 | .tup cs => by simp only [V.cl, clL_clL h cs]
 | .undef => rfl
 | .skp => rfl
 | .any => rfl
 | .int _ _ => rfl
 | .bool _ => rfl
 | .str _ => rfl
 | .nilp => rfl
 | .cptr _ => rfl
 | .nilf => rfl
 | .nilm => rfl
theorem clL_clL {n m : Nat} (h : n ≤ m) : ∀ cs : List V, clL n (clL m cs) = clL n cs
 | [] => rfl
 | c :: cs => by simp only [clL, V.cl_cl h c, clL_clL h cs]
end
theorem Blk.cl_cl {n m : Nat} (h : n ≤ m) (b : Blk) : (b.cl m).cl n = b.cl n := by
 cases b with
 | cells cs => simp only [Blk.cl, clL_clL h]
 | zone k => rfl
 | froz cs => simp only [Blk.cl, clL_clL h]
 | map es => simp only [Blk.cl, List.map_map]; congr 1; exact List.map_congr_left fun p _ => by simp only [Function.comp, V.cl_cl h]
 | siter s pos => rfl
 | loop e0 ps as bo st => simp only [Blk.cl, List.map_map]; congr 1; exact List.map_congr_left fun p _ => by simp only [Function.comp, V.cl_cl h]
theorem trunc_trunc {n m : Nat} (h : n ≤ m) (H : Heap) : trunc n (trunc m H) = trunc n H := by
 unfold trunc
 rw [← List.map_take, List.map_map, List.take_take, Nat.min_eq_left h]
 exact List.map_congr_left fun b _ => by cases b with
  | none => rfl
  | some b => simp only [Function.comp, Option.map_some, Blk.cl_cl h]
theorem loop_of_trunc {H1 : Heap} {n k : Nat} {e0 : List (Nat × V)} {ps : List Nat} {as bo : SCode} {st : LSt} (h : (trunc n H1)[k]? = some (some (.loop e0 ps as bo st))) : ∃ e1, H1[k]? = some (some (.loop e1 ps as bo st)) := by
 unfold trunc at h
 rw [List.getElem?_map] at h
 by_cases hk : k < n
 ·rw [List.getElem?_take_of_lt hk] at h
  cases hg : H1[k]? with
  | none => rw [hg] at h; cases h
  | some b =>
   rw [hg] at h
   cases b with
   | none => simp at h
   | some b =>
    cases b <;> simp [Blk.cl] at h
    obtain ⟨_, rfl, rfl, rfl, rfl⟩ := h
    exact ⟨_, rfl⟩
 ·rw [List.getElem?_take_eq_none (by omega)] at h; cases h
theorem rangeSF_of {f : Nat} {cap : List V} {l ps : List Nat} {as bo : SCode} {r : V} {H H2 : Heap} {e0 : List (Nat × V)} {ps' : List Nat} {as' bo' : SCode} {st : LSt} {x : Ex} {K : List Kt} {e : Env} {Q : Ex → Env → Heap → Prop}
  (h : SF G f (.yld H.length :: cap) (H ++ [some (.loop (look e l) ps as bo .ready)]) r H2)
  (hb : H2[H.length]? = some (some (.loop e0 ps' as' bo' st))) (hst : st = .ready ∧ x = .nx ∨ st = .done x ∧ x ≠ .nx) (hr : Wr G x K e (trunc H.length H2) Q) : rangeW G (.fn f cap) l ps as bo K e H Q := by
 obtain ⟨r1, H1, hbig, _, ht⟩ := h
 rw [← ht] at hb
 obtain ⟨e1, he1⟩ := loop_of_trunc hb
 refine rangeW_of hbig he1 hst ?_
 rw [← ht, trunc_trunc (by simp)] at hr
 exact hr
end Go.Ev
/- One try of decide.Decide. -/
namespace Go.Ev
open Go Go.RowKit
variable {G : Tbl}
set_option maxRecDepth 10000
set_option maxHeartbeats 4000000
set_option linter.unusedSimpArgs false
set_option linter.unusedVariables false
def ansC (c : Int) : Option (List Nat) → List V
 | some r => .int .i64 c :: ((stO r).cs ++ (ofW (r.drop 18)).cs)
 | none => .int .i64 c :: (cnats .u32 (zeros 20) ++ cnats .u64 (zeros 7))
def tryAs : SCode := .region 1 [⟨some 13, .alloc 0 (cnats .u32 (zeros 34)), none⟩, ⟨none, .store 34 (.t 13) (.t 46), none⟩]
def tryBo : SCode := .block 1 (.seq (.region 2 [⟨some 48, .load 34 true false (.t 13), none⟩, ⟨some 49, .pcall 294 [.t 48], none⟩, ⟨some 47, .mv (.t 49), none⟩, ⟨some 50, .ext 0 (.t 47), none⟩, ⟨some 51, .ext 1 (.t 47), none⟩, ⟨some 14, .alloc 0 (cnats .u32 (zeros 18)), none⟩,
 ⟨some 15, .alloc 1 [.int .u32 0, .int .u32 0, .int .u64 0, .int .u64 0, .int .u64 0, .int .u64 0, .int .u64 0, .int .u64 0, .int .u64 0], none⟩, ⟨none, .store 18 (.t 14) (.t 50), none⟩, ⟨none, .store 9 (.t 15) (.t 51), none⟩])
 (.seq (.keep [3, 4, 5, 6, 7, 14, 15]) (.seq (.region 0 [⟨some 52, .load 1 false false (.t 3), none⟩, ⟨some 53, .load 1 false false (.t 4), none⟩, ⟨some 54, .load 1 false false (.t 5), none⟩, ⟨some 55, .load 18 true false (.t 14), none⟩, ⟨some 56, .load 9 true false (.t 15), none⟩,
  ⟨some 57, .pcall 308 [.t 52, .t 53, .t 54, .t 55, .t 56], none⟩]) (.seq (.keep [6, 7, 14, 15, 57]) (.cond (.t 57) (.seq (.region 0 [⟨some 58, .load 18 true false (.t 14), none⟩, ⟨some 59, .load 9 true false (.t 15), none⟩,
   ⟨some 60, .build (ansC 0 none) [(0, 1, .c (.int .i64 1)), (1, 18, .t 58), (19, 9, .t 59)], none⟩, ⟨none, .store 28 (.t 6) (.t 60), none⟩, ⟨none, .store 1 (.t 7) (.c (.int .i64 0)), none⟩]) .ret) .skip)))))
def tryE : List (Nat × V) := [(3, .ptr 0 0), (4, .ptr 1 0), (5, .ptr 2 0), (6, .ptr 3 0), (7, .ptr 4 0)]
structure TryH (N : Heap) (v w : List In4) (live : Nat) : Prop where
 b0 : N[0]? = some (some (.cells [.vs (IL v) .no]))
 b1 : N[1]? = some (some (.cells [.vs (IL w) .no]))
 b2 : N[2]? = some (some (.cells [.int .u32 live]))
 b3 : N[3]? = some (some (.cells (ansC 0 none)))
 b4 : N[4]? = some (some (.cells [.int .i64 0]))
 lo : N[14]? = some (some (.loop tryE [46] tryAs tryBo .ready))
 shut : HShut N
theorem TryH.app {N : Heap} {v w : List In4} {live : Nat} (h : TryH N v w live) {X : Heap} (hX : ∀ n, X.map (Option.map (Blk.cl n)) = X) : TryH (N ++ X) v w live := by
 have lt := (List.getElem?_eq_some_iff.1 h.lo).1
 refine ⟨?_, ?_, ?_, ?_, ?_, ?_, h.shut.app hX⟩
 all_goals rw [List.getElem?_append_left (by omega)]
 ·exact h.b0
 ·exact h.b1
 ·exact h.b2
 ·exact h.b3
 ·exact h.b4
 ·exact h.lo
def hitH (N : Heap) (r : List Nat) : Heap := ((N.set 3 (some (.cells (ansC 1 (some r))))).set 4 (some (.cells [.int .i64 0]))).set 14 (some (.loop tryE [46] tryAs tryBo (.done .ret)))
theorem hitH_app {N X : Heap} {r : List Nat} (h : 14 < N.length) : hitH (N ++ X) r = hitH N r ++ X := by
 unfold hitH
 rw [List.set_append_left _ _ (by omega), List.set_append_left _ _ (by simp; omega), List.set_append_left _ _ (by simp; omega)]
theorem hitH_shut {N : Heap} (h : HShut N) (hl : 14 < N.length) (r : List Nat) : HShut (hitH N r) := by
 intro m hm
 have hm' : N.length ≤ m := by simpa [hitH] using hm
 have ha : clL m (ansC 1 (some r)) = ansC 1 (some r) := by simp [ansC, clL_eq_map, V.cl, St.cs, Da.cs, cnats, Function.comp_def]
 unfold hitH
 rw [List.map_set, List.map_set, List.map_set, h m hm']
 have hle : (Blk.loop tryE [46] tryAs tryBo (.done .ret)).cl m = .loop tryE [46] tryAs tryBo (.done .ret) := by
  simp [Blk.cl, tryE, V.cl, show 0 < m by omega, show 1 < m by omega, show 2 < m by omega, show 3 < m by omega, show 4 < m by omega]
 have hla : (Blk.cells (ansC 1 (some r))).cl m = .cells (ansC 1 (some r)) := by rw [Blk.cl, ha]
 have hl4 : (Blk.cells [V.int .i64 0]).cl m = .cells [.int .i64 0] := by simp [Blk.cl, clL, V.cl]
 simp only [Option.map_some, hle, hla, hl4]
theorem try_ok [HasWd G] [HasNeg G] [HasIns G] [HasCheck G] [HasData G] [HasWith G] [HasStep G] [HasWRight G] [HasWinRun G] [HasWinAsg G] [HasWinState G] [HasDecDf G]
  {N : Heap} {v w : List In4} {live : Nat} (h : TryH N v w live) (hf : v.length ≤ maxLen) (hg : w.length ≤ maxLen) (hk : ∀ x ∈ v, x.k < 4294967296) (hkw : ∀ x ∈ w, x.k < 4294967296) (hlv : live < 4294967296)
  (hv : winB v = true) (hw : winB w = true) {r : List Nat} (hr : r.length = 34) (hr' : ∀ x ∈ r, x < 4294967296) {t : Bool} (ht : diffR v w live (stO r) (ofW (r.drop 18)) = t) :
  YS G 14 [.agg (cnats .u32 r)] N (!t) (if t = true then hitH N r else N) := by
 have lt := (List.getElem?_eq_some_iff.1 h.lo).1
 obtain ⟨b, H', hy, rfl, rfl⟩ := YS_of (R := fun b H' => b = (!t) ∧ H' = if t = true then hitH N r else N) (G := G) (args := [.agg (cnats .u32 r)]) h.lo rfl (by
  have rt := take_full (k := .u32) hr
  have rd : (cnats .u32 r).drop 34 = [] := List.drop_eq_nil_of_le (by simp [hr])
  have kk : ∀ r : Heap, (N ++ r)[N.length]? = r[0]? := fun r => apn0 rfl
  have k0 : ∀ (r : Heap) x, (N ++ r).set N.length x = N ++ r.set 0 x := fun r x => setn0 rfl x
  have l14 : ∀ r : Heap, (N ++ r)[14]? = some (some (.loop tryE [46] tryAs tryBo .ready)) := fun r => by rw [List.getElem?_append_left lt]; exact h.lo
  simp [tryAs, tryE, putP, kk, k0, hr, rt, rd]
  refine ⟨_, _, _, _, l14 _, ?_⟩
  obtain ⟨B, hB⟩ : ∃ B, B = N.set 14 (some (.loop tryE [46] tryAs tryBo .busy)) := ⟨_, rfl⟩
  have nB : B.length = N.length := by rw [hB]; simp
  rw [List.set_append_left _ _ lt, ← hB]
  have bk0 : ∀ r : Heap, (B ++ r)[N.length]? = r[0]? := fun r => apn0 nB
  have bk1 : ∀ r : Heap, (B ++ r)[N.length + 1]? = r[1]? := fun r => apnk nB 1
  have bk2 : ∀ r : Heap, (B ++ r)[N.length + 2]? = r[2]? := fun r => apnk nB 2
  have bs1 : ∀ (r : Heap) x, (B ++ r).set (N.length + 1) x = B ++ r.set 1 x := fun r x => setnk nB 1 x
  have bs2 : ∀ (r : Heap) x, (B ++ r).set (N.length + 2) x = B ++ r.set 2 x := fun r x => setnk nB 2 x
  have bk2' : ∀ r : Heap, (B ++ r)[N.length + 1 + 1]? = r[2]? := bk2
  have bs2' : ∀ (r : Heap) x, (B ++ r).set (N.length + 1 + 1) x = B ++ r.set 2 x := bs2
  have g2 : ∀ (a b c : Option Blk) (r : Heap) h, (B ++ a :: b :: c :: r)[N.length + 1 + 1]'h = c := fun a b c r h => (List.getElem?_eq_some_iff.1 (bk2 (a :: b :: c :: r))).2
  have look : ∀ {p : Nat} {c : List V}, N[p]? = some (some (.cells c)) → p ≠ 14 → ∀ r : Heap, (B ++ r)[p]? = some (some (.cells c)) := fun {p c} hp hne r => by
   rw [List.getElem?_append_left (by rw [nB]; exact (List.getElem?_eq_some_iff.1 hp).1), hB, List.getElem?_set_ne (Ne.symm hne)]; exact hp
  have q0 := look h.b0 (by decide)
  have q1 := look h.b1 (by decide)
  have q2 := look h.b2 (by decide)
  have q3 := look h.b3 (by decide)
  have q0' : ∀ (r : Heap) h, (B ++ r)[0]'h = some (.cells [.vs (IL v) .no]) := fun r h => (List.getElem?_eq_some_iff.1 (q0 r)).2
  have q1' : ∀ (r : Heap) h, (B ++ r)[1]'h = some (.cells [.vs (IL w) .no]) := fun r h => (List.getElem?_eq_some_iff.1 (q1 r)).2
  have q2' : ∀ (r : Heap) h, (B ++ r)[2]'h = some (.cells [.int .u32 live]) := fun r h => (List.getElem?_eq_some_iff.1 (q2 r)).2
  have q3' : ∀ (r : Heap) h, (B ++ r)[3]'h = some (.cells (ansC 0 none)) := fun r h => (List.getElem?_eq_some_iff.1 (q3 r)).2
  have hso := stO_ok hr hr'
  have hdo := ofW_ok (w := r.drop 18) (by simp [hr]) (fun x hx => hr' x (List.mem_of_mem_drop hx))
  have hst := WinState_ok (G := G) r hr hr'
  have hdi := Differs_ok (G := G) v w live (stO r) (ofW (r.drop 18)) hf hg hk hkw hlv hso hdo
  rw [hv, hw, ht] at hdi
  have sl := cs_len hso
  have dl := dcs_len hdo
  have hans : ansC 1 (some r) = .int .i64 1 :: ((stO r).cs ++ (ofW (r.drop 18)).cs) := rfl
  obtain ⟨S, hS⟩ : ∃ S, S = (stO r).cs := ⟨_, rfl⟩
  obtain ⟨D, hD⟩ : ∃ D, D = (ofW (r.drop 18)).cs := ⟨_, rfl⟩
  have Sk : ∀ n, clL n S = S := fun n => by rw [hS]; exact cs_cl _ n
  have Dk : ∀ n, clL n D = D := fun n => by rw [hD]; exact dcs_cl _ n
  have Sn : S.map V.nf1 = S := by rw [hS]; exact cs_nf _
  have Dn : D.map V.nf1 = D := by rw [hD]; exact dcs_nf _
  simp only [FL, SV, DV, Bool.true_and] at hst hdi
  rw [← hS, ← hD] at hst hdi hans
  rw [← hS] at sl
  rw [← hD] at dl
  have St := List.take_of_length_le (i := 18) (l := S) (by omega)
  have Dt := List.take_of_length_le (i := 9) (l := D) (by omega)
  have Sd : S.drop 18 = [] := List.drop_eq_nil_of_le (by omega)
  have Dd : D.drop 9 = [] := List.drop_eq_nil_of_le (by omega)
  obtain ⟨A0, hA0⟩ : ∃ A0, A0 = ansC 0 none := ⟨_, rfl⟩
  have lA0 : A0.length = 28 := by rw [hA0]; rfl
  simp only [← hA0] at q3 q3'
  simp [tryBo, nB, bk0, bk1, bk2, bs1, bs2, hr, rt, rd, ← hA0]
  refine callP_of hst ?_
  simp [nB, bk0, bk1, bk2, bs1, bs2, sl, dl, St, Dt, Sd, Dd, Sk, Dk, Sn, Dn, q0, q1, q2, q3, q0', q1', q2', q3', keep_cl]
  simp [nB, bk0, bk1, bk2, bk2', g2, bs1, bs2, bs2', sl, dl, St, Dt, Sd, Dd, Sk, Dk, Sn, Dn, q0, q1, q2, q3, q0', q1', q2', q3', keep_cl]
  refine callP_of hdi ?_
  have B14 : ∀ r : Heap, (B ++ r)[14]? = some (some (.loop tryE [46] tryAs tryBo .busy)) := fun r => by
   rw [List.getElem?_append_left (by omega), hB, List.getElem?_set_self (by omega)]
  cases t with
  | false =>
   have fin0 : ∀ r : Heap, trunc N.length ((B ++ r).set 14 (some (.loop tryE [46] tryAs tryBo .ready))) = N := fun r => by
    rw [List.set_append_left _ _ (by omega), hB, List.set_set, set_same h.lo]
    exact h.shut.back r
   simp
   exact ⟨_, _, _, _, B14 _, fin0 _⟩
  | true =>
   simp [nB, bk0, bk1, bk2, bk2', g2, bs1, bs2, bs2', sl, dl, St, Dt, Sd, Dd, Sk, Dk, Sn, Dn, q0, q1, q2, q3, q0', q1', q2', q3', keep_cl]
   have dr : (S ++ A0.drop 19).drop 27 = [] := List.drop_eq_nil_of_le (by simp; omega)
   have ln : (V.int .i64 1 :: (S ++ D)).length = 28 := by simp; omega
   have tn : (S ++ D).take 27 = S ++ D := List.take_of_length_le (by simp; omega)
   have dn : A0.drop 28 = [] := List.drop_eq_nil_of_le (by omega)
   have q4 := look h.b4 (by decide)
   have ts3 : ∀ (r : Heap) x, (B ++ r).set 3 x = B.set 3 x ++ r := fun r x => List.set_append_left _ _ (by omega)
   have ts4 : ∀ (r : Heap) y x, (B.set 3 y ++ r).set 4 x = (B.set 3 y).set 4 x ++ r := fun r y x => List.set_append_left _ _ (by simp; omega)
   have tg4' : ∀ (r : Heap) y, (B.set 3 y ++ r)[4]? = some (some (.cells [.int .i64 0])) := fun r y => by
    have := q4 []
    rw [List.getElem?_append_left (by simp; omega), List.getElem?_set_ne (by decide)]
    simpa using this
   have tg4'' : ∀ (r : Heap) y h, (B.set 3 y ++ r)[4]'h = some (.cells [.int .i64 0]) := fun r y h => (List.getElem?_eq_some_iff.1 (tg4' r y)).2
   simp [lA0, dr, dn, tn, nB, sl, dl, q3, q3', ts3, ts4, tg4', tg4'', St, Sd, Dt, Dd]
   refine ⟨tryE, [46], tryAs, tryBo, ?_, ?_⟩
   ·have := B14 []
    rw [List.append_nil] at this
    rw [List.getElem?_append_left (by simp; omega), List.getElem?_set_ne (by decide), List.getElem?_set_ne (by decide)]
    exact this
   ·have he : ((B.set 3 (some (Blk.cells (V.int IntKind.i64 1 :: (S ++ D))))).set 4 (some (Blk.cells [V.int IntKind.i64 0]))).set 14 (some (.loop tryE [46] tryAs tryBo (.done .ret))) = hitH N r := by
     rw [hB, ← hans, List.set_comm _ _ (show (14 : Nat) ≠ 3 by decide), List.set_comm _ _ (show (14 : Nat) ≠ 4 by decide), List.set_set]
     rfl
    rw [List.set_append_left _ _ (by simp; omega), he]
    have := (hitH_shut h.shut lt r).back [some (Blk.cells (cnats .u32 r)), some (Blk.cells S), some (Blk.cells D)]
    rwa [show (hitH N r).length = N.length by simp [hitH]] at this)
 exact hy
end Go.Ev
