/- The laws of bits, over the simplified code. -/
import Derived.Test.YtjmefljnaekalaaEvLaw15C
import Derived.Test.YtjmefljnaekalaaRefE
namespace Go.Ev
open Go Go.RowKit
variable {G : Tbl}
set_option maxRecDepth 10000
set_option maxHeartbeats 4000000
set_option linter.unusedSimpArgs false
set_option linter.unusedVariables false

def rightC (vars : List Int) (tab : List Nat) : Bool :=
  decide (vars.length ≤ 4) && decide (tab.length = 2 ^ vars.length) && (List.range vars.length).all fun j =>
    match vars[j]? with
    | some v => decide (0 ≤ v ∧ v < 34) && (j == 0 || (match vars[j - 1]? with | some u => decide (u < v) | none => true)) && cnt tab j
    | none => false
theorem right_of_C {vars : List Int} {tab : List Nat} (h : rightC vars tab = true) : Right vars tab := by
  simp only [rightC, Bool.and_eq_true, decide_eq_true_eq, List.all_eq_true, List.mem_range] at h
  refine ⟨h.1.1, h.1.2, fun j hj => ?_⟩
  have := h.2 j hj
  rw [List.getElem?_eq_getElem hj] at this
  simp only [Bool.and_eq_true, decide_eq_true_eq, Bool.or_eq_true, beq_iff_eq] at this
  refine ⟨_, List.getElem?_eq_getElem hj, this.1.1.1, this.1.1.2, fun u h0 hu => ?_, this.2⟩
  rcases this.1.2 with e | e
  · omega
  · rw [hu] at e; simpa using e

theorem Do_is (hG : HasBits G) {kind : Int} {fv gv vs : List Int} {ft gt tab : List Nat} (hok : DoOk kind fv gv ft gt) (hft : ∀ w ∈ ft, w < 4294967296) (hgt : ∀ w ∈ gt, w < 4294967296) (hR : Right vs tab)
    (hs : ∀ p, sem vs tab p = (doW kind (sem fv ft p) (sem gv gt p)).1) : FP G 109 [.int .i64 kind, FV fv ft, FV gv gt] (.tup [FV vs tab, .bool true]) := by
  have h1 := hok.2.1.1
  have h2 := hok.2.2.1.1
  have h3 := tab_small h1 hok.2.1.2.1
  have h4 := tab_small h2 hok.2.2.1.2.1
  obtain ⟨r, hr, h | ⟨_, vs', tab', rfl, hR', _, hs'⟩⟩ := Do_ok hG kind fv gv ft gt (by omega) (by omega) (by omega) (by omega) hft hgt
  · exact absurd hok h.1
  · obtain ⟨rfl, rfl⟩ := canon hR' hR fun p => by rw [hs, hs']
    exact hr

theorem knows_ok (hG : HasBits G) (hL : HasLaw15 G) : FP G 131 [] (.bool true) := by
  have v0 := Var_ok hG 0
  have v1 := Var_ok hG 1
  simp only [show (0 : Int) ≤ 0 ∧ (0 : Int) < 34 from by decide, show (0 : Int) ≤ 1 ∧ (1 : Int) < 34 from by decide, and_self, if_true] at v0 v1
  have R0 : Right [0] [0, 4294967295] := right_of_C (by decide)
  have R1 : Right [1] [0, 4294967295] := right_of_C (by decide)
  have Rc : Right [] [255] := right_of_C (by decide)
  have Rd : Right [] [65280] := right_of_C (by decide)
  have Rb : Right [0] [0, 255] := right_of_C (by decide)
  have Re : Right [1] [0, 65280] := right_of_C (by decide)
  have Rf : Right [0, 1] [0, 255, 65280, 65535] := right_of_C (by decide)
  have d1 : FP G 109 [.int .i64 84, FV [0] [0, 4294967295], FV [] [255]] (.tup [FV [0] [0, 255], .bool true]) :=
    Do_is hG ⟨by decide, R0, Rc, by simp [mer]⟩ (by simp) (by simp) Rb fun p => by cases h : p 0 <;> simp [sem, idx, h, doW]
  have d2 : FP G 109 [.int .i64 84, FV [1] [0, 4294967295], FV [] [65280]] (.tup [FV [1] [0, 65280], .bool true]) :=
    Do_is hG ⟨by decide, R1, Rd, by simp [mer]⟩ (by simp) (by simp) Re fun p => by cases h : p 1 <;> simp [sem, idx, h, doW]
  have d3 : FP G 109 [.int .i64 68, FV [0] [0, 255], FV [1] [0, 65280]] (.tup [FV [0, 1] [0, 255, 65280, 65535], .bool true]) :=
    Do_is hG ⟨by decide, Rb, Re, by simp [mer]⟩ (by simp) (by simp) Rf fun p => by cases h : p 0 <;> cases h2 : p 1 <;> simp [sem, idx, h, h2, doW]
  refine FP_of hL.h_hurdlelaw15_knows (Nat.le_of_ble_eq_true rfl) ?_
  simp
  refine callP_of v0 ?_
  simp [FV]
  refine callP_of v1 ?_
  simp [FV]
  refine callP_of (Const_ok hG 255) ?_
  simp [FV]
  refine callP_of d1 ?_
  simp [FV]
  refine callP_of (Const_ok hG 65280) ?_
  simp [FV]
  refine callP_of d2 ?_
  simp [FV]
  refine callP_of d3 ?_
  simp [FV]
  refine callP_of (Same_ok hG [0, 1] [0, 1] [0, 255, 65280, 65535] [0, 255, 65280, 65535] (by simp) (by simp)) ?_
  simp
  refine callP_of (Right_ok hG [0, 1] [0, 255, 65280, 65535] (by simp) (by simp)) ?_
  simp [rightB_iff.2 Rf]

theorem great_ok (hL : HasLaw15 G) (v : List Int) (t : List Nat) : FP G 128 [FV v t] (.bool (decide (v.length > 50 ∨ t.length > 100))) := by
  refine FP_of hL.h_hurdlelaw15_great (Nat.le_of_ble_eq_true rfl) ?_
  simp [FV]
  by_cases h : v.length > 50
  · simp (disch := omega) [ltT, h]
  · by_cases h2 : t.length > 100
    · simp (disch := omega) [ltT, ltF, h, h2]
    · simp (disch := omega) [ltT, ltF, h, h2]
theorem As_ok (hL : HasLaw15 G) (v : List Int) (t : List Nat) : FP G 129 [FV v t] (FV v t) := by
  refine FP_of hL.h_hurdlelaw15_As (Nat.le_of_ble_eq_true rfl) ?_
  simp [FV]
theorem row_ok (hL : HasLaw15 G) (r : List Nat) (hr : r.length = 34) : FP G 130 [.agg (cnats .u32 r)] (.vs (nats .u32 r) .no) := by
  refine FP_of hL.h_hurdlelaw15_row (Nat.le_of_ble_eq_true rfl) ?_
  simp
  refine W_up 34 (fun i => [(1, .ptr 0 0), (3, .vs (nats .u32 (r.take i)) (.own 1)), (4, .int .i64 i)]) (fun i => [some (.cells (cnats .u32 r)), some (.zone (r.take i).length)]) (fun _ => True) ?_ ?_
  · simp [keep_cl, trunc]
  intro i hi _
  by_cases hlt : i < 34
  · have hc := cnats_get .u32 r i (by omega)
    have hs : r.take (i + 1) = r.take i ++ [r[i]] := by rw [List.take_add_one, List.getElem?_eq_getElem (by omega)]; rfl
    have hl : (r.take i).length = i := by rw [List.length_take]; omega
    have hl1 : (r.take (i + 1)).length = i + 1 := by rw [List.length_take]; omega
    simp (disch := omega) [ltT, leTn, hr, hc, hl, hl1, hlt, add1', keep_cl, trunc, -List.length_take, -Int.natCast_add, -List.getElem?_drop]
  · have hne : i = 34 := by omega
    subst hne
    have : r.take 34 = r := by rw [← hr]; exact List.take_length
    simp [this]

/-- Both ways to do it come to the same. -/
theorem do_both (hG : HasBits G) (hR : HasRef15 G) (kind : Int) (fv gv : List Int) (ft gt : List Nat) (hfl : fv.length ≤ 50) (hgl : gv.length ≤ 50) (hfl' : ft.length ≤ 100) (hgl' : gt.length ≤ 100) (hft : ∀ w ∈ ft, w < 4294967296) (hgt : ∀ w ∈ gt, w < 4294967296) :
    ∃ vs tab ok, FP G 109 [.int .i64 kind, FV fv ft, FV gv gt] (.tup [FV vs tab, .bool ok]) ∧ FP G 121 [.int .i64 kind, FV fv ft, FV gv gt] (.tup [FV vs tab, .bool ok]) ∧
      (ok = false ∧ vs = [] ∧ tab = [] ∧ ¬ DoOk kind fv gv ft gt ∨ ok = true ∧ DoOk kind fv gv ft gt ∧ Right vs tab ∧ (∀ w ∈ tab, w < 4294967296) ∧ ∀ p, sem vs tab p = (doW kind (sem fv ft p) (sem gv gt p)).1) := by
  obtain ⟨r, h1, h2⟩ := Do_ok hG kind fv gv ft gt (by omega) (by omega) (by omega) (by omega) hft hgt
  obtain ⟨r', h1', h2'⟩ := DoR15_ok hR kind fv gv ft gt (by omega) (by omega) (by omega) (by omega) hft hgt
  rcases h2 with ⟨hn, rfl⟩ | ⟨hy, vs, tab, rfl, hR1, hw, hs⟩
  · rcases h2' with ⟨_, rfl⟩ | ⟨hy, _⟩
    · exact ⟨[], [], false, h1, h1', .inl ⟨rfl, rfl, rfl, hn⟩⟩
    · exact absurd hy hn
  · rcases h2' with ⟨hn, _⟩ | ⟨_, vs', tab', rfl, hR2, _, hs'⟩
    · exact absurd hy hn
    · obtain ⟨rfl, rfl⟩ := canon hR1 hR2 fun p => by rw [hs, hs']
      exact ⟨vs, tab, true, h1, h1', .inr ⟨rfl, hy, hR1, hw, hs⟩⟩

theorem BitsDoes_ok (hG : HasBits G) (hR : HasRef15 G) (hL : HasLaw15 G) (kind : Int) (fv gv : List Int) (ft gt : List Nat) (hft : ∀ w ∈ ft, w < 4294967296) (hgt : ∀ w ∈ gt, w < 4294967296) :
    FP G 132 [.int .i64 kind, FV fv ft, FV gv gt] (.bool true) := by
  refine FP_of hL.h_hurdlelaw15_BitsDoes (Nat.le_of_ble_eq_true rfl) ?_
  simp [FV]
  refine callP_of (great_ok hL fv ft) ?_
  by_cases hf : fv.length > 50 ∨ ft.length > 100
  · simp [hf]
    refine callP_of (knows_ok hG hL) ?_
    simp
  simp [hf]
  refine callP_of (great_ok hL gv gt) ?_
  by_cases hg : gv.length > 50 ∨ gt.length > 100
  · simp [hg]
    refine callP_of (knows_ok hG hL) ?_
    simp
  simp [hg]
  obtain ⟨vs, tab, ok, h1, h2, hp⟩ := do_both hG hR kind fv gv ft gt (by omega) (by omega) (by omega) (by omega) hft hgt
  refine callP_of h1 ?_
  simp [FV]
  refine callP_of (As_ok hL fv ft) ?_
  simp [FV]
  refine callP_of (As_ok hL gv gt) ?_
  simp
  refine callP_of h2 ?_
  simp [FV]
  refine callP_of (As_ok hL vs tab) ?_
  simp [FV]
  have hl : vs.length ≤ 4 ∧ tab.length ≤ 16 := by
    rcases hp with ⟨_, rfl, rfl, _⟩ | ⟨_, _, hR1, _⟩
    · simp
    · exact ⟨hR1.1, tab_small hR1.1 hR1.2.1⟩
  refine callP_of (SameR_ok hR vs vs tab tab (by omega) (by omega)) ?_
  simp
  refine callP_of (knows_ok hG hL) ?_
  simp
end Go.Ev
