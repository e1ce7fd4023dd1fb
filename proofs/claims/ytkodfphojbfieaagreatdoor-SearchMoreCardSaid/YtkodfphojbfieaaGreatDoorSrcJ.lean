/- The examples of layer 19; the laws SearchSound, SearchMore. -/
import Derived.Test.YtkodfphojbfieaaGreatDoorDecFW
set_option linter.unusedVariables false
set_option linter.unusedSimpArgs false
namespace Go.Ev
open Go Go.RowKit
variable {G : Tbl}
set_option maxRecDepth 10000
set_option maxHeartbeats 4000000
set_option linter.unusedSimpArgs false
set_option linter.unusedVariables false
theorem dec_same {v w : List In4} {live : Nat} (hv : winB v = true) (hw : winB w = true) : decide ((decR v w live).1 = 0) = sameB (winV [] v).p (winV (winV [] v).L w).p (winV [] v).st (winV (winV [] v).L w).st live := by
 rcases dec_tells (live := live) hv hw with ⟨e, h⟩ | ⟨r, e, _, _, h⟩ | ⟨e, _, h⟩
 ·rw [e, h]; rfl
 ·rw [e, h]; rfl
 ·rw [e, h]; rfl
def ex5 : List In4 := [⟨2, 0, 0, 0⟩, ⟨96, 0, 0, 0⟩]
def sA (a : Nat) : St := ⟨a, 0, zeros 16⟩
theorem sA_ok {a : Nat} (h : a < 4294967296) : (sA a).ok := ⟨h, show (0 : Nat) < 4294967296 by decide, by simp [sA], fun w hw => by
 simp only [sA, zeros, List.mem_replicate] at hw
 omega⟩
theorem cand18 : (candL ex1 (lettersW ex1))[17]? = some ex2 := by kernel_rfl
theorem apart18 : ((candL ex1 (lettersW ex1)).take 17).all (fun c => diffR ex1 c 1 (sA 0) Da0 || diffR ex1 c 1 (sA 1) Da0) = true := by kernel_rfl
theorem same5 : sameB (winV [] ex5).p (winV (winV [] ex5).L []).p (winV [] ex5).st (winV (winV [] ex5).L []).st 1 = true := by kernel_rfl
theorem ex1_k : ∀ x ∈ ex1, x.k < 4294967296 := by decide
theorem ex1_w : winB ex1 = true := by decide +kernel
theorem ex5_k : ∀ x ∈ ex5, x.k < 4294967296 := by decide
theorem ex5_w : winB ex5 = true := by decide +kernel
theorem find_ex1 : findR ex1 1 100 = some ex2 := by
 refine fnd_at cand18 (by decide) ?_ fun j hj c hc h0 => ?_
 ·have := dec_same (v := ex1) (w := ex2) (live := 1) ex1_w (by decide +kernel)
  rw [ex12] at this
  simpa using this
 ·have hm : c ∈ (candL ex1 (lettersW ex1)).take 17 := List.mem_of_getElem? (i := j) (by rw [List.getElem?_take, if_pos hj]; exact hc)
  have hcm := List.mem_of_getElem? hc
  have hcw := cand_win letters_win hcm (by decide)
  have hck : ∀ x ∈ c, x.k < 4294967296 := fun x hx => lettersW_k ex1_k ex1_w x (cand_mem hcm x hx)
  have hs := dec_same (v := ex1) (w := c) (live := 1) ex1_w hcw
  rw [h0, decide_eq_true rfl] at hs
  have d0 := same_diff (s := sA 0) (d := Da0) ex1_k hck (sA_ok (by decide)) da0_ok ex1_w hcw hs.symm
  have d1 := same_diff (s := sA 1) (d := Da0) ex1_k hck (sA_ok (by decide)) da0_ok ex1_w hcw hs.symm
  have := List.all_eq_true.1 apart18 c hm
  rw [d0, d1] at this
  cases this
theorem find_ex5 : findR ex5 1 1 = some [] := by
 refine fnd_at (k := 0) (cand0 (by decide)) (by decide) ?_ fun j hj => by omega
 have := dec_same (v := ex5) (w := []) (live := 1) ex5_w (by decide +kernel)
 rw [same5] at this
 simpa using this
theorem knows19_ok [HasWd G] [HasNeg G] [HasIns G] [HasCheck G] [HasData G] [HasWith G] [HasStep G] [HasWRight G] [HasWinRun G] [HasWinAsg G] [HasWinState G] [HasWinOf G] [HasAffApart G] [HasAffine G] [hBA : HasBitsA G] [HasSymNew G] [HasSym G] [HasSymEval G] [HasSymApart G] [HasDecDf G] [HasDec G] [HasSrcN G] [HasSrcL G] [HasSrcC G] [HasSrcF G] [HasL19k G]
  (p1 : FP G 148 [.str [97, 100, 100, 32, 48, 120, 49, 10, 97, 100, 100, 32, 48, 120, 50, 10]] (.tup [FL ex1, .int .i64 0, .int .i64 0]))
  (p2 : FP G 148 [.str [115, 116, 32, 48, 120, 48, 10, 109, 101, 109, 32, 48, 120, 48, 10]] (.tup [FL ex5, .int .i64 0, .int .i64 0])) : FP G 334 [] (.bool true) := by
 refine FP_of HasL19k.h_hurdlelaw19_knows (Nat.le_of_ble_eq_true rfl) ?_
 have f1 := Find_ok (G := G) ex1 1 100 (by decide) ex1_k ex1_w (by decide)
 have f2 := Find_ok (G := G) ex5 1 1 (by decide) ex5_k ex5_w (by decide)
 rw [find_ex1] at f1
 rw [find_ex5] at f2
 have hae := aeq4 (⟨4, 0, 0, 3⟩ : In4) ⟨4, 0, 0, 3⟩
 simp only [decide_true, In4.cs] at hae
 simp only [FL, Option.getD_some, Option.isSome_some] at f1 f2 p1 p2
 have hex2 : IL ex2 = [[.int .i64 4, .int .i64 0, .int .i64 0, .int .u32 3]] := rfl
 rw [hex2] at f1
 have l1 : (IL ex1).length = 2 := rfl
 simp
 refine callP_of p1 ?_
 simp
 refine callP_of p2 ?_
 simp
 refine callP_of f1 ?_
 simp [keep_cl]
 refine callP_of f2 ?_
 simp [keep_cl, show ex1.length = 2 from rfl]
end Go.Ev
