/- The laws SearchSound, SearchMore, SearchLetters. -/
import Derived.Test.YtkodfphojbfieaaGreatDoorSrcJ
set_option linter.unusedVariables false
set_option linter.unusedSimpArgs false
namespace Go.Ev
open Go Go.RowKit
variable {G : Tbl}
set_option maxRecDepth 10000
set_option maxHeartbeats 4000000
set_option linter.unusedSimpArgs false
set_option linter.unusedVariables false
theorem SearchSound_ok [HasWd G] [HasNeg G] [HasIns G] [HasCheck G] [HasData G] [HasWith G] [HasStep G] [HasWRight G] [HasWinRun G] [HasWinAsg G] [HasWinState G] [HasWinOf G] [HasAffApart G] [HasAffine G] [hBA : HasBitsA G] [HasSymNew G] [HasSym G] [HasSymEval G] [HasSymApart G] [HasDecDf G] [HasDec G] [HasSrcN G] [HasSrcL G] [HasSrcC G] [HasSrcF G]
  [HasR2 G] [HasR5o G] [HasR17 G] [hR1 : HasR1 G] [HasR1n G] [HasR4 G] [HasR6s G] [HasR17r G] [HasR17a G] [HasR18 G] [HasL19 G]
  (hkn : FP G 334 [] (.bool true)) (w : List In4) (live : Nat) (tries : Int) (s : St) (d : Da) (hf : w.length ≤ maxLen) (hk : ∀ x ∈ w, x.k < 4294967296) (hlv : live < 4294967296) (hs : s.ok) (hd : d.ok) :
  FP G 342 [FL w, .int .u32 live, .int .i64 tries, SV s, DV d] (.bool true) := by
 refine FP_of HasL19.h_hurdlelaw19_SearchSound (Nat.le_of_ble_eq_true rfl) ?_
 have sl := cs_len hs
 have st := List.take_of_length_le (i := 18) (l := s.cs) (by omega)
 have sn := cs_nf s
 have sk := fun n => cs_cl s n
 have dl := dcs_len hd
 have dt := List.take_of_length_le (i := 9) (l := d.cs) (by omega)
 have dn := dcs_nf d
 have dk := fun n => dcs_cl d n
 by_cases hb : 100 < w.length
 ·have h1 : ((100 : Int) < (w.length : Int)) = True := eq_true (by omega)
  simp [FL, SV, DV, h1, sn, dn, keep_cl]
  refine callP_of hkn ?_
  simp
 have h1 : ((100 : Int) < (w.length : Int)) = False := eq_false (by omega)
 by_cases hb2 : 200 < tries
 ·simp [FL, SV, DV, h1, hb2, sn, dn, keep_cl]
  refine callP_of hkn ?_
  simp
 have hwr := Right17_ok (G := G) w (by omega) hk
 simp only [FL] at hwr
 simp [FL, SV, DV, h1, hb2, sn, dn, keep_cl]
 refine callP_of hwr ?_
 cases hw : winB w with
 | false =>
  simp
  refine callP_of hkn ?_
  simp
 | true =>
 have hw32 : w.length ≤ 32 := by simp only [winB, Bool.and_eq_true, decide_eq_true_eq] at hw; exact hw.1
 have hfd := Find_ok (G := G) w live tries hf hk hw hlv
 simp only [FL] at hfd
 simp
 refine callP_of hfd ?_
 cases hr : findR w live tries with
 | none =>
  simp [keep_cl]
  refine callP_of hkn ?_
  simp
 | some c =>
  obtain ⟨k, hkt, hc, h0, _⟩ := fnd_some hr
  have hcm := List.mem_of_getElem? hc
  have hcs := cand_short hcm
  have hcw := cand_win letters_win hcm hw32
  have hck : ∀ x ∈ c, x.k < 4294967296 := fun x hx => lettersW_k hk hw x (cand_mem hcm x hx)
  have hsm := dec_same (v := w) (w := c) (live := live) hw hcw
  rw [h0, decide_eq_true rfl] at hsm
  have hdf := same_diff (s := s) (d := d) hk hck hs hd hw hcw hsm.symm
  have hcr := Right17_ok (G := G) c (by omega) hck
  have hDR := DiffersR_ok (G := G) w c live s d (by omega) (by omega) hk hck hlv hs hd
  rw [hcw] at hcr
  rw [hdf] at hDR
  have hlt : ((c.length : Int) < (w.length : Int)) = True := eq_true (by omega)
  simp only [FL, SV, DV] at hcr hDR
  simp [hlt, keep_cl, sk, dk]
  refine callP_of hcr ?_
  simp [sl, st, sk, sn, dl, dt, dk, dn]
  refine callP_of hDR ?_
  simp
  refine callP_of hkn ?_
  simp
theorem SearchMore_ok [HasWd G] [HasNeg G] [HasIns G] [HasCheck G] [HasData G] [HasWith G] [HasStep G] [HasWRight G] [HasWinRun G] [HasWinAsg G] [HasWinState G] [HasWinOf G] [HasAffApart G] [HasAffine G] [hBA : HasBitsA G] [HasSymNew G] [HasSym G] [HasSymEval G] [HasSymApart G] [HasDecDf G] [HasDec G] [HasSrcN G] [HasSrcL G] [HasSrcC G] [HasSrcF G]
  [HasR2 G] [HasR5o G] [HasR17 G] [HasR3 G] [HasL19 G]
  (hkn : FP G 334 [] (.bool true)) (w : List In4) (live : Nat) (tries : Int) (more : Nat) (hf : w.length ≤ maxLen) (hk : ∀ x ∈ w, x.k < 4294967296) (hlv : live < 4294967296) (hm : more < 256) :
  FP G 343 [FL w, .int .u32 live, .int .i64 tries, .int .u8 more] (.bool true) := by
 refine FP_of HasL19.h_hurdlelaw19_SearchMore (Nat.le_of_ble_eq_true rfl) ?_
 by_cases hb : 100 < w.length
 ·have h1 : ((100 : Int) < (w.length : Int)) = True := eq_true (by omega)
  simp [FL, h1]
  refine callP_of hkn ?_
  simp
 have h1 : ((100 : Int) < (w.length : Int)) = False := eq_false (by omega)
 by_cases hb2 : 100 < tries
 ·simp [FL, h1, hb2]
  refine callP_of hkn ?_
  simp
 by_cases hb3 : tries < -1000
 ·simp [FL, h1, hb2, hb3]
  refine callP_of hkn ?_
  simp
 have hwr := Right17_ok (G := G) w (by omega) hk
 simp only [FL] at hwr
 simp [FL, h1, hb2, hb3]
 refine callP_of hwr ?_
 cases hw : winB w with
 | false =>
  simp
  refine callP_of hkn ?_
  simp
 | true =>
 have c1 : convI .i64 (more : Int) = (more : Int) := IntWalk.i64_in _ ⟨by omega, by omega⟩
 have r1 : remI (more : Int) 100 = ((more % 100 : Nat) : Int) := rem64 (b := 100)
 have a1 : addI .i64 tries ((more % 100 : Nat) : Int) = tries + ((more % 100 : Nat) : Int) := IntWalk.i64_in _ ⟨by omega, by omega⟩
 have hfd := Find_ok (G := G) w live tries hf hk hw hlv
 have hfm := Find_ok (G := G) w live (tries + ((more % 100 : Nat) : Int)) hf hk hw hlv
 simp only [FL] at hfd hfm
 simp
 refine callP_of hfd ?_
 simp [c1, r1, a1, -Int.natCast_emod]
 refine callP_of hfm ?_
 cases hr : findR w live tries with
 | none =>
  simp [keep_cl]
  refine callP_of hkn ?_
  simp
 | some c =>
  have hr2 := fnd_more (more := more % 100) hr
  obtain ⟨k, hkt, hc, h0, _⟩ := fnd_some hr
  have hcs := cand_short (List.mem_of_getElem? hc)
  have hsm := Same03_ok (G := G) c c (by omega)
  simp only [FL, decide_true] at hsm
  rw [hr2]
  simp [keep_cl]
  refine callP_of hsm ?_
  simp
  refine callP_of hkn ?_
  simp
end Go.Ev
/- The laws SearchFinds, SearchNumbers. -/
namespace Go.Ev
open Go Go.RowKit
variable {G : Tbl}
set_option maxRecDepth 10000
set_option maxHeartbeats 4000000
set_option linter.unusedSimpArgs false
set_option linter.unusedVariables false
theorem SearchFinds_ok [HasWd G] [HasNeg G] [HasIns G] [HasCheck G] [HasData G] [HasWith G] [HasStep G] [HasWRight G] [HasWinRun G] [HasWinAsg G] [HasWinState G] [HasWinOf G] [HasAffApart G] [HasAffine G] [hBA : HasBitsA G] [HasSymNew G] [HasSym G] [HasSymEval G] [HasSymApart G] [HasDecDf G] [HasDec G] [HasSrcN G] [HasSrcL G] [HasSrcC G] [HasSrcF G]
  [HasR2 G] [HasR5o G] [HasR17 G] [HasR3 G] [HasR19c G] [HasL19 G]
  (hkn : FP G 334 [] (.bool true)) (w : List In4) (live : Nat) (tries : Int) (hf : w.length ≤ maxLen) (hk : ∀ x ∈ w, x.k < 4294967296) (hlv : live < 4294967296) (hti : -9223372036854775808 ≤ tries ∧ tries ≤ 9223372036854775807) :
  FP G 341 [FL w, .int .u32 live, .int .i64 tries] (.bool true) := by
 haveI : HasBitsE G := hBA.toHasBitsE
 refine FP_of HasL19.h_hurdlelaw19_SearchFinds (Nat.le_of_ble_eq_true rfl) ?_
 by_cases hb : 100 < w.length
 ·have h1 : ((100 : Int) < (w.length : Int)) = True := eq_true (by omega)
  simp [FL, h1]
  refine callP_of hkn ?_
  simp
 have h1 : ((100 : Int) < (w.length : Int)) = False := eq_false (by omega)
 by_cases hb2 : 200 < tries
 ·simp [FL, h1, hb2]
  refine callP_of hkn ?_
  simp
 have hwr := Right17_ok (G := G) w (by omega) hk
 simp only [FL] at hwr
 cases hw : winB w with
 | false =>
  have hfd := Find_no (G := G) w live tries hf hk hw
  rw [hw] at hwr
  simp only [FL] at hfd
  simp [FL, h1, hb2]
  refine callP_of hfd ?_
  simp
  refine callP_of hwr ?_
  simp
  refine callP_of hkn ?_
  simp
 | true =>
 have hfd := Find_ok (G := G) w live tries hf hk hw hlv
 have hl := Letters_ok (G := G) w hf hk hw (nums_lt hk hw)
 have hLl := lettersW_len hw
 have hw32 : w.length ≤ 32 := by simp only [winB, Bool.and_eq_true, decide_eq_true_eq] at hw; exact hw.1
 change FP G 330 [FL w] (.tup [FL (lettersW w), .int .i64 0]) at hl
 have hLk := lettersW_k hk hw
 have fnone := fnd_none (w := w) (live := live) (tries := tries)
 have fat := fun (k : Nat) (c : List In4) => fnd_at (w := w) (live := live) (tries := tries) (k := k) (c := c)
 have hcw := fun (c : List In4) (h : c ∈ candL w (lettersW w)) => cand_win letters_win h hw32
 generalize lettersW w = L at hl hLl hLk fnone fat hcw
 rw [hw] at hwr
 obtain ⟨R, hR⟩ : ∃ R, R = findR w live tries := ⟨_, rfl⟩
 rw [← hR] at hfd fnone fat
 have hRl : ((R.getD []).length ≤ 100) := by
  rw [hR]
  cases hr : findR w live tries with
  | none => simp
  | some c =>
   obtain ⟨k, _, hc, _⟩ := fnd_some hr
   have := cand_short (List.mem_of_getElem? hc)
   simp; omega
 simp only [FL] at hfd hl
 simp [FL, h1, hb2]
 refine callP_of hfd ?_
 simp
 refine callP_of hwr ?_
 simp
 refine callP_of hl ?_
 obtain ⟨C, hC⟩ : ∃ C, C = candL w L := ⟨_, rfl⟩
 obtain ⟨A, hA⟩ : ∃ A, A = ansC 0 none := ⟨_, rfl⟩
 have lA : A.length = 28 := by rw [hA]; rfl
 have hA0z : V.int .i64 0 :: (cnats .u32 (zeros 20) ++ cnats .u64 (zeros 7)) = A := by rw [hA]; rfl
 have dA : A.drop 28 = [] := List.drop_eq_nil_of_le (by omega)
 simp
 refine W_up (min tries.toNat C.length) (fun i => [(0, FL w), (1, .int .u32 live), (2, .int .i64 tries), (7, .vs (IL (R.getD [])) .no), (8, .bool R.isSome), (9, .int .i64 0), (10, .vs (IL L) .no), (12, .int .i64 i)]) (fun _ => [])
  (fun i => ∀ j < i, ∀ c, C[j]? = some c → (decR w c live).1 ≠ 0) ?_ ?_
 ·simp [keep_cl, trunc, FL]
 intro i hi hP
 by_cases hlt : i < min tries.toNat C.length
 ·have hit : (i : Int) < tries := by omega
  have hiC : i < C.length := by omega
  obtain ⟨c, hc⟩ : ∃ c, C[i]? = some c := ⟨_, List.getElem?_eq_getElem hiC⟩
  have hcm : c ∈ candL w L := by rw [← hC]; exact List.mem_of_getElem? hc
  have hcs := cand_short hcm
  have hck : ∀ x ∈ c, x.k < 4294967296 := fun x hx => hLk x (cand_mem hcm x hx)
  have hww := hcw c hcm
  have hcr := CandR_ok (G := G) w L (i : Int) (by omega) (by omega) (by omega)
  rw [← hC, if_pos (by omega), Int.toNat_natCast, hc, decide_eq_true (show (0 : Int) ≤ (i : Int) ∧ (i : Int) < (C.length : Int) by omega)] at hcr
  have hd := Decide_ok (G := G) w c live hf (by simp only [maxLen]; omega) hk hck hlv
  rw [hw, hww, if_pos (show (true && true) = true from rfl)] at hd
  obtain ⟨cc, B, hcc, hB, kB, lB, B1⟩ : ∃ (cc : Int) (B : List V), (decR w c live).1 = cc ∧ B = ansC (decR w c live).1 (decR w c live).2 ∧ (∀ n, clL n B = B) ∧ B.length = 28 ∧ B.take 1 = [.int .i64 cc] :=
   ⟨_, _, rfl, rfl, fun n => ansC_cl _ _ n, decR_len w c live, ansC_hd _ _⟩
  have tB : B.take 28 = B := List.take_of_length_le (by omega)
  rw [← hB] at hd
  simp only [FL, Option.getD_some] at hcr hd
  have hi1 : ((i : Int) < tries) = True := eq_true hit
  simp [hi1, FL]
  refine callP_of hcr ?_
  simp [FL]
  refine callP_of hd ?_
  simp [hA0z, lA, dA, lB, tB, B1, kB, keep_cl]
  by_cases h0 : cc = 0
  ·subst h0
   have hRs := fat i c (by rw [← hC]; exact hc) hit hcc (by rw [← hC]; exact hP)
   have hs := Same03_ok (G := G) c c (by omega)
   simp only [FL, decide_true] at hs
   rw [hRs]
   simp
   refine callP_of hs ?_
   simp
   refine callP_of hkn ?_
   simp
  ·have hP2 : ∀ j < i + 1, ∀ c, C[j]? = some c → (decR w c live).1 ≠ 0 := fun j hj c' hc' => by
    rcases Nat.lt_succ_iff_lt_or_eq.1 hj with h | rfl
    ·exact hP j h c' hc'
    ·rw [hc] at hc'; cases hc'; rw [hcc]; exact h0
   have hlt' : i < tries.toNat ∧ i < C.length := by omega
   simp (disch := omega) [h0, beqF h0, hlt, hlt', add1', keep_cl, trunc, FL, -Int.natCast_add]
   exact hP2
 ·have hne : i = min tries.toNat C.length := by omega
  by_cases ht : (i : Int) < tries
  ·have hiC : i = C.length := by omega
   have hcr := CandR_ok (G := G) w L (i : Int) (by omega) (by omega) (by omega)
   rw [← hC, if_pos (by omega), Int.toNat_natCast, List.getElem?_eq_none (by omega), decide_eq_false (show ¬ ((0 : Int) ≤ (i : Int) ∧ (i : Int) < (C.length : Int)) by omega)] at hcr
   have hn := fnone fun k c _ hc => hP k (by rw [← hC] at hc; have := (List.getElem?_eq_some_iff.1 hc).1; omega) c (by rw [← hC] at hc; exact hc)
   have hi1 : ((i : Int) < tries) = True := eq_true ht
   simp only [FL, Option.getD_none] at hcr
   simp [hi1, FL, hn]
   refine callP_of hcr ?_
   simp
   refine callP_of hkn ?_
   simp
  ·have hn := fnone fun k c hkt hc => hP k (by omega) c (by rw [← hC] at hc; exact hc)
   have hi1 : ((i : Int) < tries) = False := eq_false ht
   simp [hi1, FL, hn]
   refine callP_of hkn ?_
   simp
end Go.Ev
