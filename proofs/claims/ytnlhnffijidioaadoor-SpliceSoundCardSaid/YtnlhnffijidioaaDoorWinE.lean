/- The laws SplicePieces and SpliceRows. -/
import Derived.Test.YtnlhnffijidioaaDoorWinD
import Derived.Test.YtnlhnffijidioaaDoorEvLaw22C
namespace Go.Ev
open Go Go.RowKit
variable {G : Tbl}
set_option maxRecDepth 10000
set_option maxHeartbeats 2000000
set_option linter.unusedSimpArgs false
set_option linter.unusedVariables false

/-- SPLICEPIECES. -/
theorem SplicePieces_ok [HasIns G] [HasCheck G] [HasWRight G] [HasSpl G] [HasR2 G] [HasR5 G] [HasR17 G] [HasR22 G] [HasL22 G] (hkn : FP G 224 [] (.bool true)) (f : List In4) (most : Int) (hf : f.length ≤ maxLen) (hk : ∀ x ∈ f, x.k < 4294967296)
    (hm : -9223372036854775808 ≤ most ∧ most ≤ 9223372036854775807) : FP G 226 [FL f, .int .i64 most] (.bool true) := by
  refine FP_of HasL22.h_hurdlelaw22_SplicePieces (Nat.le_of_ble_eq_true rfl) ?_
  by_cases hb : f.length > 60
  · have h1 : ((60 : Int) < (f.length : Int)) = True := eq_true (by omega)
    simp [FL, h1]
    refine callP_of hkn ?_
    simp
  have h1 : ((60 : Int) < (f.length : Int)) = False := eq_false (by omega)
  have hp := Pieces_ok (G := G) f most hf hk hm
  have hr := PiecesR_ok (G := G) f most (by omega) hk
  have hrl := rows_len f most f.length
  simp only [FL] at hp hr
  simp [FL, h1]
  refine callP_of hp ?_
  simp
  refine callP_of hr ?_
  generalize rows f most f.length = L at hp hr hrl
  simp
  refine W_up L.length (fun i => [(5, .vs (rowsV L) .no), (6, .vs (rowsW .full L) .no), (7, .int .i64 i)]) (fun _ => []) (fun _ => True) ?_ ?_
  · simp [keep_cl, trunc]
  intro i hi _
  by_cases hlt : i < L.length
  · obtain ⟨p, hpp⟩ : ∃ p, p = L[i] := ⟨_, rfl⟩
    have hg : L[i]? = some p := by rw [List.getElem?_eq_getElem hlt, hpp]
    simp (disch := omega) [ltT, hg, hpp, hlt, add1', keep_cl, trunc, -Int.natCast_add]
  · have hne : i = L.length := by omega
    subst hne
    simp
    refine callP_of hkn ?_
    simp

/-- SPLICEROWS. -/
theorem SpliceRows_ok [HasIns G] [HasCheck G] [HasWRight G] [HasSpl G] [HasR2 G] [HasR5 G] [HasR17 G] [HasR22 G] [HasL22 G] (hkn : FP G 224 [] (.bool true)) (f : List In4) (most : Int) (hf : f.length ≤ maxLen) (hk : ∀ x ∈ f, x.k < 4294967296)
    (hm : -9223372036854775808 ≤ most ∧ most ≤ 9223372036854775807) : FP G 229 [FL f, .int .i64 most] (.bool true) := by
  refine FP_of HasL22.h_hurdlelaw22_SpliceRows (Nat.le_of_ble_eq_true rfl) ?_
  by_cases hb : f.length > 100
  · have h1 : ((100 : Int) < (f.length : Int)) = True := eq_true (by omega)
    simp [FL, h1]
    refine callP_of hkn ?_
    simp
  have h1 : ((100 : Int) < (f.length : Int)) = False := eq_false (by omega)
  have hp := Pieces_ok (G := G) f most hf hk hm
  have hrl := rows_len f most f.length
  have hmem := fun p => mem_rows (f := f) (most := most) (p := p) (n := f.length)
  have hsrt := rows_sorted f most f.length
  simp only [FL] at hp
  simp [FL, h1]
  refine callP_of hp ?_
  generalize rows f most f.length = L at hp hrl hmem hsrt
  simp
  refine W_up L.length (fun i => [(0, FL f), (1, .int .i64 most), (5, .vs (rowsV L) .no), (6, .int .i64 i)]) (fun _ => []) (fun _ => True) ?_ ?_
  · simp [keep_cl, trunc, FL]
  intro i hi _
  by_cases hlt : i < L.length
  · obtain ⟨p, hpp⟩ : ∃ p, p = L[i] := ⟨_, rfl⟩
    have hg : L[i]? = some p := by rw [List.getElem?_eq_getElem hlt, hpp]
    have hgv := hpp.symm
    obtain ⟨m1, m2, m3, m4⟩ := hmem p (hpp ▸ List.getElem_mem hlt)
    simp only [cnd, Bool.and_eq_true, decide_eq_true_eq] at m2
    have hfr := FreeR_ok (G := G) f p.1 p.2 hf hk
    rw [m2.2] at hfr
    simp only [FL] at hfr
    have c1 : ((p.2 : Int) < 2) = False := eq_false (by omega)
    have c2 : (most < (p.2 : Int)) = False := eq_false (by omega)
    have c3 : ((32 : Int) < (p.2 : Int)) = False := eq_false (by omega)
    simp (disch := omega) [ltT, FL, hg, hgv, c1, c2, c3, -Int.natCast_add]
    refine callP_of hfr ?_
    by_cases h0 : i = 0
    · subst h0
      simp (disch := omega) [show addI .i64 0 1 = 1 from by decide, hlt, add1', keep_cl, trunc, FL, -Int.natCast_add]
    have hgt : (0 < i) = True := eq_true (by omega)
    have s1 : subI .i64 (i : Int) 1 = ((i - 1 : Nat) : Int) := sub1' (by omega)
    obtain ⟨q, hqq⟩ : ∃ q, q = L[i - 1]'(by omega) := ⟨_, rfl⟩
    have hgq : L[i - 1]? = some q := by rw [List.getElem?_eq_getElem (by omega), hqq]
    have hgqv := hqq.symm
    have hah : Ahead q p := by
      rw [hqq, hpp]
      exact List.pairwise_iff_getElem.1 hsrt (i - 1) i (by omega) hlt (by omega)
    have d1 : ((p.1 : Int) < (q.1 : Int)) = False := eq_false (by rcases hah with h | h <;> omega)
    by_cases he : q.1 = p.1
    · have d2 : ((q.1 : Int) == (p.1 : Int)) = true := by simp [he]
      have d3 : ((q.2 : Int) ≤ (p.2 : Int)) = False := eq_false (by rcases hah with h | h <;> omega)
      simp (disch := omega) [hgt, s1, ltT, hgq, hgqv, d1, d2, d3, hlt, add1', keep_cl, trunc, FL, -Int.natCast_add]
    · have d2 : ((q.1 : Int) == (p.1 : Int)) = false := beqF (by omega)
      simp (disch := omega) [hgt, s1, ltT, hgq, hgqv, d1, d2, hlt, add1', keep_cl, trunc, FL, -Int.natCast_add]
  · have hne : i = L.length := by omega
    subst hne
    simp
    refine callP_of hkn ?_
    simp
end Go.Ev
