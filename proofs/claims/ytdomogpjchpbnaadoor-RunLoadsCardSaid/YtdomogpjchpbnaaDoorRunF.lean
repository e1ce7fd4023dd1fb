/- What data.With computes. -/
import Derived.Test.YtdomogpjchpbnaaDoorRunE
namespace Go.Ev
open Go Go.RowKit
variable {G : Tbl}
set_option maxRecDepth 10000
set_option maxHeartbeats 2000000
set_option linter.unusedSimpArgs false
set_option linter.unusedVariables false

theorem take3 (a b c : V) (l : List V) (n : Nat) : (a :: b :: c :: l).take (3 + n) = a :: b :: c :: l.take n := by rw [Nat.add_comm]; rfl
theorem drop3 (a b c : V) (l : List V) (n : Nat) : (a :: b :: c :: l).drop (3 + n) = l.drop n := by rw [Nat.add_comm]; rfl
theorem drop31 (a b c : V) (l : List V) (n : Nat) : (a :: b :: c :: l).drop (3 + n + 1) = l.drop (n + 1) := by rw [show 3 + n + 1 = (n + 1) + 3 by omega]; rfl

theorem drop32 (b c : V) (l : List V) (n : Nat) : (b :: c :: l).drop (3 + n) = l.drop (n + 1) := by rw [show 3 + n = (n + 1) + 2 by omega]; rfl
theorem two_or {w : List Nat} (hw : ∀ x ∈ w, x < 4294967296) (i : Nat) : orI .u64 ((w.getD i 0 : Nat) : Int) (shlI .u64 ((w.getD (i + 1) 0 : Nat) : Int) 32) = ((two w i : Nat) : Int) := by
  have hg : ∀ i, w.getD i 0 < 4294967296 := by
    intro i
    rw [List.getD]
    cases h : w[i]? with
    | none => decide
    | some z => exact hw z (List.mem_of_getElem? h)
  exact or_two _ _ (hg i) (hg (i + 1))

def ZD : List V := [.int .u32 0, .int .u32 0, .int .u64 0, .int .u64 0, .int .u64 0, .int .u64 0, .int .u64 0, .int .u64 0, .int .u64 0]
/-- What holds words, and a place in them, and a record. -/
def HG (w : List Nat) (n : Nat) (a b c : Nat) (l : List Nat) : Heap := [some (.cells (cnats .u32 w)), some (.cells ZD), some (.cells [.int .i64 n]), some (.cells (.int .u32 (a : Int) :: .int .u32 (b : Int) :: .int .u64 (c : Int) :: cnats .u64 l))]
theorem get_ok [HasWith G] (w : List Nat) (n a b c : Nat) (l : List Nat) (hl : w.length = 16) (hw : ∀ x ∈ w, x < 4294967296) (hn : n + 1 < 16) :
    Big G (.F 231 [.ptr 0 0, .ptr 2 0] (HG w n a b c l) (.int .u64 (two w n : Nat)) (HG w (n + 2) a b c l)) := by
  have c1 := cnats_get .u32 w n (by omega)
  have c2 := cnats_get .u32 w (n + 1) (by omega)
  have d1 : w.getD n 0 = w[n] := by simp [List.getD, List.getElem?_eq_getElem (show n < w.length by omega)]
  have d2 : w.getD (n + 1) 0 = w[n + 1] := by simp [List.getD, List.getElem?_eq_getElem (show n + 1 < w.length by omega)]
  have ho := two_or hw n
  rw [d1, d2] at ho
  have l1 := hw _ (List.getElem_mem (show n < w.length by omega))
  have l2 := hw _ (List.getElem_mem (show n + 1 < w.length by omega))
  have v1 := convU w[n] (by omega)
  have v2 := convU w[n + 1] (by omega)
  have e1 : addI .i64 (n : Int) 1 = ((n + 1 : Nat) : Int) := add1' (by omega)
  have e2 : addI .i64 (n : Int) 2 = ((n + 2 : Nat) : Int) := addL (n := 2) (by omega)
  have i1 : ((n : Int) < 16) = True := ltT (by omega)
  have i2 : (((n + 1 : Nat) : Int) < 16) = True := ltT (by omega)
  have j1 : (n + 1 ≤ 16) = True := leTn (by omega)
  have j2 : (n + 1 + 1 ≤ 16) = True := leTn (by omega)
  have j3 : (n ≤ 14) = True := leTn (by omega)
  refine F_of HasWith.h_data_of_1 (Nat.le_of_ble_eq_true rfl) ?_
  simp [HG, ZD, e1, e2, i1, i2, j1, j2, j3, c1, c2, v1, v2, ho, hl, -Int.natCast_add]

def fillA (w : List Nat) (i : Nat) : List Nat := (List.range 6).map fun j => if j < i then two w (4 + 2 * j) else 0
theorem fillA_len (w : List Nat) (i : Nat) : (fillA w i).length = 6 := by simp [fillA]
theorem fillA_step (w : List Nat) {i : Nat} (hi : i < 6) : (fillA w i).set i (two w (4 + 2 * i)) = fillA w (i + 1) := by
  apply List.ext_getElem?
  intro j
  rw [List.getElem?_set, fillA_len]
  by_cases h : i = j
  · subst h
    simp [fillA, hi]
  · rw [if_neg h]
    by_cases hj : j < 6
    · simp only [fillA, List.getElem?_map, List.getElem?_range hj, Option.map_some]
      by_cases h2 : j < i
      · simp [h2, show j < i + 1 by omega]
      · simp [h2, show ¬ j < i + 1 by omega]
    · simp [fillA, hj]
theorem fillA_6 (w : List Nat) : fillA w 6 = (ofW w).args := by
  simp only [fillA, ofW]
  apply List.map_congr_left
  intro j hj
  simp [List.mem_range.1 hj]
theorem fillA_0 (w : List Nat) : fillA w 0 = zeros 6 := by
  simp [fillA, zeros, List.range_succ]

theorem of_ok' [HasWith G] (w : List Nat) (hl : w.length = 16) (hw : ∀ x ∈ w, x < 4294967296) : FP G 232 [.agg (cnats .u32 w)] (DV (ofW w)) := by
  refine FP_of HasWith.h_data_of (Nat.le_of_ble_eq_true rfl) ?_
  have htw := take_full (k := .u32) hl
  have c0 : (cnats .u32 w).take 1 = [.int .u32 (w[0] : Nat)] := by have := cnats_get .u32 w 0 (by omega); rwa [List.drop_zero] at this
  have c1 : (cnats .u32 w).tail.take 1 = [.int .u32 (w[1] : Nat)] := by have := cnats_get .u32 w 1 (by omega); rwa [List.drop_one] at this
  have c2 := cnats_get .u32 w 2 (by omega)
  have c3 := cnats_get .u32 w 3 (by omega)
  have d : ∀ i (h : i < 16), w.getD i 0 = w[i] := fun i h => by simp [List.getD, List.getElem?_eq_getElem (show i < w.length by omega)]
  have ho := two_or hw 2
  rw [d 2 (by omega), d 3 (by omega)] at ho
  have l2 := hw _ (List.getElem_mem (show 2 < w.length by omega))
  have l3 := hw _ (List.getElem_mem (show 3 < w.length by omega))
  have v2 := convU w[2] (by omega)
  have v3 := convU w[3] (by omega)
  simp [c0, c1, c2, c3, v2, v3, ho, hl, htw]
  refine W_up 6 (fun i => [(2, .ptr 1 0), (4, .fn 231 [.ptr 0 0, .ptr 2 0]), (5, .ptr 3 0), (21, .int .i64 i)])
    (fun i => HG w (4 + 2 * i) w[0] w[1] (two w 2) (fillA w i)) (fun _ => True) ?_ ?_
  · have hz6 : cnats .u64 (zeros 6) = [.int .u64 0, .int .u64 0, .int .u64 0, .int .u64 0, .int .u64 0, .int .u64 0] := rfl
    simp [keep_cl, trunc, HG, ZD, fillA_0, hz6, hl, htw]
  intro i hi _
  by_cases hlt : i < 6
  · have hg := get_ok (G := G) w (4 + 2 * i) w[0] w[1] (two w 2) (fillA w i) hl hw (by omega)
    have hfl := fillA_len w i
    have cs := cnats_set .u64 (fillA w i) i (two w (4 + 2 * i)) (by omega)
    rw [fillA_step w hlt] at cs
    simp [HG, ZD, -Int.natCast_add, -Int.natCast_mul] at hg
    simp (disch := omega) [ltT, leTn, HG, ZD, -Int.natCast_add, -Int.natCast_mul]
    refine callV_of hg (by simp) ?_
    simp (disch := omega) [trunc, take3, drop3, drop31, drop32, hfl, cs, ltT, leTn, add1', hlt, keep_cl, show 4 + 2 * (i + 1) = 4 + 2 * i + 2 from by omega, -Int.natCast_add, -Int.natCast_mul]
  · have hne : i = 6 := by omega
    subst hne
    have h6 := fillA_6 w
    have h6l := fillA_len w 6
    have ht6 := take_full (k := .u64) h6l
    have e0 := d 0 (by omega)
    have e1 := d 1 (by omega)
    simp [HG, ZD, DV, Da.cs, h6l, ht6]
    rw [← h6]
    simp [ofW, hl]

theorem With_ok [HasData G] [HasWith G] (d : Da) (n v : Nat) (hd : d.ok) (hn : n < 4294967296) (hv : v < 4294967296) : FP G 233 [DV d, .int .u32 n, .int .u32 v] (DV (withS d n v)) := by
  refine FP_of HasWith.h_data_With (Nat.le_of_ble_eq_true rfl) ?_
  have hw := words_ok (G := G) d hd
  have ht := take_full (k := .u64) hd.2.2.2.1
  have h6 := hd.2.2.2.1
  simp [DV, Da.cs] at hw ⊢
  refine callP_of (there_ok n hn) ?_
  by_cases h : n % 4 = 0 ∧ n < 64
  · have hq : quoI .u32 (n : Int) 4 = ((n / 4 : Nat) : Int) := quo32 (b := 4) hn (by decide)
    have hl := wordsD_len h6
    have htw := take_full (k := .u32) hl
    have cs := cnats_set .u32 (wordsD d) (n / 4) v (by omega)
    have hl2 : ((wordsD d).set (n / 4) v).length = 16 := by rw [List.length_set]; exact hl
    have htw2 := take_full (k := .u32) hl2
    have hof := of_ok' (G := G) ((wordsD d).set (n / 4) v) hl2 (set_lt (wordsD_lt hd) hv)
    have ho6 : (ofW ((wordsD d).set (n / 4) v)).args.length = 6 := by simp [ofW]
    have ht2 := take_full (k := .u64) ho6
    simp [DV, Da.cs] at hof
    simp [h, h6, ht, withS]
    refine callP_of hw ?_
    simp (disch := omega) [hq, ltT, leTn, hl, htw, cs, hl2, htw2, -Int.natCast_ediv]
    refine callP_of hof ?_
    simp [ho6, ht2]
  · simp [h, withS, h6, ht]
end Go.Ev
