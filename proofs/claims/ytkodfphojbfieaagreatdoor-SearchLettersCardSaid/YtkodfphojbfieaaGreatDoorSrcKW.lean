/- The laws SearchSound, SearchMore, SearchLetters. -/
import Derived.Test.YtkodfphojbfieaaGreatDoorSrcHW
set_option linter.unusedVariables false
set_option linter.unusedSimpArgs false
namespace Go.Ev
open Go Go.RowKit
variable {G : Tbl}
set_option maxRecDepth 10000
set_option maxHeartbeats 4000000
set_option linter.unusedSimpArgs false
set_option linter.unusedVariables false
theorem SearchLetters_ok [HasWd G] [HasNeg G] [HasIns G] [HasCheck G] [HasWRight G] [HasWinOf G] [HasAffine G] [hBE : HasBitsE G] [HasSymNew G] [HasSym G] [HasSymEval G] [HasSrcN G] [HasSrcL G] [HasSrcC G] [HasSrcA G]
  [HasR2 G] [HasR5o G] [HasR17 G] [HasR3 G] [HasR19 G] [HasR19c G] [HasL19t G] [HasL19 G]
  (hkn : FP G 334 [] (.bool true)) (w : List In4) (q : Int) (hf : w.length ≤ maxLen) (hk : ∀ x ∈ w, x.k < 4294967296) (hq : -9223372036854775808 ≤ q ∧ q ≤ 9223372036854775807) :
  FP G 344 [FL w, .int .i64 q] (.bool true) := by
 refine FP_of HasL19.h_hurdlelaw19_SearchLetters (Nat.le_of_ble_eq_true rfl) ?_
 by_cases hb : 100 < w.length
 ·have h1 : ((100 : Int) < (w.length : Int)) = True := eq_true (by omega)
  simp [FL, h1]
  refine callP_of hkn ?_
  simp
 have h1 : ((100 : Int) < (w.length : Int)) = False := eq_false (by omega)
 have hwr := Right17_ok (G := G) w (by omega) hk
 simp only [FL] at hwr
 cases hw : winB w with
 | false =>
  have hl := Letters_no (G := G) w hf hk hw
  have hc := Cand_no (G := G) w q hf hk hw
  rw [hw] at hwr
  simp only [FL] at hl hc
  simp [FL, h1]
  refine callP_of hl ?_
  simp
  refine callP_of hc ?_
  simp
  refine callP_of hwr ?_
  simp
  refine callP_of hkn ?_
  simp
 | true =>
  have hl := Letters_ok (G := G) w hf hk hw (nums_lt hk hw)
  have hc := Cand_ok (G := G) w q hf hk hw
  have ht := told_ok (G := G) w hf hk hw
  have hlr := LettersR_ok (G := G) w (toldN w) (by omega) (by have := told_len w; omega) hk (nums_lt hk hw)
  have hLl := lettersW_len hw
  have hw32 : w.length ≤ 32 := by simp only [winB, Bool.and_eq_true, decide_eq_true_eq] at hw; exact hw.1
  change FP G 330 [FL w] (.tup [FL (lettersW w), .int .i64 0]) at hl
  change FP G 337 _ (FL (lettersW w)) at hlr
  have hcr := CandR_ok (G := G) w (lettersW w) q (by omega) (by omega) hq
  generalize lettersW w = L at hl hc hlr hLl hcr
  have hs1 := Same03_ok (G := G) L L (by omega)
  obtain ⟨rc, hrc⟩ : ∃ rc, rc = (if 0 ≤ q then (candL w L)[q.toNat]?.getD [] else []) := ⟨_, rfl⟩
  obtain ⟨rb, hrb⟩ : ∃ rb, rb = decide (0 ≤ q ∧ q < ((candL w L).length : Int)) := ⟨_, rfl⟩
  rw [← hrc, ← hrb] at hc hcr
  have hrl : rc.length ≤ 1000 := by
   rw [hrc]
   split
   ·cases hg : (candL w L)[q.toNat]? with
    | none => simp
    | some c =>
     have := cand_short (List.mem_of_getElem? hg)
     simp; omega
   ·simp
  have hs2 := Same03_ok (G := G) rc rc (by omega)
  rw [hw] at hwr
  simp only [FL, decide_true] at hl hc ht hlr hcr hs1 hs2
  simp [FL, h1]
  refine callP_of hl ?_
  simp
  refine callP_of hc ?_
  simp
  refine callP_of hwr ?_
  simp
  refine callP_of ht ?_
  simp
  refine callP_of hlr ?_
  simp
  refine callP_of hcr ?_
  simp
  refine callP_of hs1 ?_
  simp
  refine callP_of hs2 ?_
  simp
  refine callP_of hkn ?_
  simp
end Go.Ev
/- The laws SearchFinds, SearchNumbers. -/
namespace Go.Ev
open Go Go.RowKit
variable {G : Tbl}
set_option maxRecDepth 10000
set_option maxHeartbeats 4000000
set_option linter.unusedSimpArgs false
set_option linter.unusedVariables false
theorem SearchNumbers_ok [HasWd G] [HasNeg G] [HasIns G] [HasCheck G] [HasWRight G] [HasWinOf G] [HasAffine G] [hBE : HasBitsE G] [HasSymNew G] [HasSym G] [HasSymEval G] [HasSrcN G] [HasSrcL G]
  [HasR2 G] [HasR5o G] [HasR17 G] [hR1 : HasR1 G] [HasR1n G] [HasR4 G] [HasR6s G] [HasR17r G] [HasR19e G] [HasL19 G]
  (hkn : FP G 334 [] (.bool true)) (w : List In4) (hf : w.length ≤ maxLen) (hk : ∀ x ∈ w, x.k < 4294967296) :
  FP G 340 [FL w] (.bool true) := by
 refine FP_of HasL19.h_hurdlelaw19_SearchNumbers (Nat.le_of_ble_eq_true rfl) ?_
 by_cases hb : 100 < w.length
 ·have h1 : ((100 : Int) < (w.length : Int)) = True := eq_true (by omega)
  simp [FL, h1]
  refine callP_of hkn ?_
  simp
 have h1 : ((100 : Int) < (w.length : Int)) = False := eq_false (by omega)
 have hwr := Right17_ok (G := G) w (by omega) hk
 simp only [FL] at hwr
 simp [FL, h1]
 refine callP_of hwr ?_
 cases hw : winB w with
 | false =>
  simp
  refine callP_of hkn ?_
  simp
 | true =>
 have hl := Letters_ok (G := G) w hf hk hw (nums_lt hk hw)
 have hLl := lettersW_len hw
 have hw32 : w.length ≤ 32 := by simp only [winB, Bool.and_eq_true, decide_eq_true_eq] at hw; exact hw.1
 change FP G 330 [FL w] (.tup [FL (lettersW w), .int .i64 0]) at hl
 have hend : ∀ a, a = 0 ∨ a = 4294967295 → (runW Da0 w ⟨a, 0, zeros 16⟩).2 = w.length → (⟨0, 0, 0, (runW Da0 w ⟨a, 0, zeros 16⟩).1.a⟩ : In4) ∈ lettersW w := fun a ha h => by
  have hm := told_end hk hw ha h
  exact letters_ld (List.mem_append.2 (.inr hm)) (nums_lt hk hw _ (List.mem_append.2 (.inr hm)))
 generalize lettersW w = L at hl hLl hend
 simp only [FL] at hl
 obtain ⟨S2, hS2⟩ : ∃ S2 : List (List V), S2 = nats .u32 [0, 4294967295] := ⟨_, rfl⟩
 have hS2z : [[V.int .u32 0], [.int .u32 4294967295]] = S2 := by rw [hS2]; rfl
 have l2 : S2.length = 2 := by rw [hS2]; rfl
 simp
 refine callP_of hl ?_
 simp [hS2z]
 refine W_up 2 (fun i => [(0, FL w), (3, .vs (IL L) .no), (4, .int .i64 0), (5, .vs S2 .full), (6, .int .i64 i)]) (fun _ => []) (fun _ => True) ?_ ?_
 ·simp [keep_cl, trunc, FL]
 intro i hi _
 by_cases hlt : i < 2
 ·obtain ⟨a, ha, hga⟩ : ∃ a : Nat, (a = 0 ∨ a = 4294967295) ∧ S2[i]? = some [.int .u32 (a : Int)] := by
   rw [hS2]
   rcases (by omega : i = 0 ∨ i = 1) with rfl | rfl
   ·exact ⟨0, .inl rfl, rfl⟩
   ·exact ⟨4294967295, .inr rfl, rfl⟩
  have hga' := (List.getElem?_eq_some_iff.1 hga).2
  have he := Ends19_ok (G := G) w a (by omega) hk (by omega)
  have hen := hend a ha
  obtain ⟨v, hv⟩ : ∃ v, v = (runW Da0 w ⟨a, 0, zeros 16⟩).1.a := ⟨_, rfl⟩
  rw [← hv] at he hen
  obtain ⟨ok, hok⟩ : ∃ ok, ok = decide ((runW Da0 w ⟨a, 0, zeros 16⟩).2 = w.length) := ⟨_, rfl⟩
  rw [← hok] at he
  simp only [FL] at he
  have hi2 : ((i : Int) < 2) = True := eq_true (by omega)
  simp (disch := omega) [hi2, FL, l2, hga, hga', hlt]
  refine callP_of he ?_
  obtain ⟨B, hB⟩ : ∃ B : Nat → Bool, ∀ j, B j = decide ((⟨0, 0, 0, v⟩ : In4) ∈ L.take j) := ⟨_, fun _ => rfl⟩
  have B0 : B 0 = false := by rw [hB]; simp
  simp
  refine W_up L.length (fun j => [(0, FL w), (3, .vs (IL L) .no), (4, .int .i64 0), (5, .vs S2 .full), (6, .int .i64 i), (7, .int .u32 v), (8, .bool ok), (9, .bool (B j)), (10, .int .i64 j)]) (fun _ => []) (fun _ => True) ?_ ?_
  ·simp [keep_cl, trunc, FL, B0]
  intro j hj _
  by_cases hjl : j < L.length
  ·obtain ⟨y, hy⟩ : ∃ y, y = L[j] := ⟨_, rfl⟩
   have hg : L[j]? = some y := by rw [List.getElem?_eq_getElem hjl, hy]
   have hgg := FL_get hjl
   rw [← hy] at hgg
   have hyl : y.cs.length = 4 := rfl
   have hyt : y.cs.take 4 = y.cs := rfl
   have hae := aeq4 y ⟨0, 0, 0, v⟩
   have hvc : (⟨0, 0, 0, v⟩ : In4).cs = [.int .i64 0, .int .i64 0, .int .i64 0, .int .u32 (v : Int)] := rfl
   rw [hvc] at hae
   have Bs : B (j + 1) = (B j || decide (y = ⟨0, 0, 0, v⟩)) := by
    rw [hB, hB, List.take_add_one, hg, Bool.eq_iff_iff]
    simp only [decide_eq_true_eq, Bool.or_eq_true, List.mem_append, Option.toList_some, List.mem_singleton]
    exact ⟨fun h => h.imp id Eq.symm, fun h => h.imp id Eq.symm⟩
   obtain ⟨t, ht⟩ : ∃ t, t = decide (y = ⟨0, 0, 0, v⟩) := ⟨_, rfl⟩
   rw [← ht] at Bs hae
   clear ht
   cases hbj : B j with
   | true =>
    rw [hbj, Bool.true_or] at Bs
    simp (disch := omega) [ltT, FL, hjl, Bs, hgg, hyl, hyt, hae, add1', keep_cl, trunc, -Int.natCast_add]
   | false =>
    rw [hbj, Bool.false_or] at Bs
    simp (disch := omega) [ltT, FL, hjl, Bs, hgg, hy.symm, hyl, hyt, hae, add1', keep_cl, trunc, -Int.natCast_add]
  ·have hne : j = L.length := by omega
   subst hne
   have hBL : ok = true → B L.length = true := fun h => by
    rw [hB, List.take_length, decide_eq_true_eq]
    rw [hok, decide_eq_true_eq] at h
    exact hen h
   cases ok with
   | false =>
    simp (disch := omega) [FL, hlt, add1', keep_cl, trunc, -Int.natCast_add]
   | true =>
    have := hBL rfl
    simp (disch := omega) [FL, hlt, this, add1', keep_cl, trunc, -Int.natCast_add]
 ·obtain rfl : i = 2 := by omega
  simp
  refine callP_of hkn ?_
  simp
end Go.Ev
