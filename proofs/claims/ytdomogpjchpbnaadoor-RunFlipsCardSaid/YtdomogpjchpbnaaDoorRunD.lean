/- Records with another word; and branches whose ways are swapped. -/
import Derived.Test.YtdomogpjchpbnaaDoorRunC
namespace Go.Ev
open Go Go.RowKit
variable {G : Tbl}
set_option maxRecDepth 10000
set_option maxHeartbeats 2000000
set_option linter.unusedSimpArgs false
set_option linter.unusedVariables false

def two (w : List Nat) (i : Nat) : Nat := w.getD i 0 + w.getD (i + 1) 0 * 4294967296
/-- The record of words. -/
def ofW (w : List Nat) : Da := ⟨w.getD 0 0, w.getD 1 0, two w 2, (List.range 6).map fun i => two w (4 + 2 * i)⟩
def withS (d : Da) (at' v : Nat) : Da := if at' % 4 = 0 ∧ at' < 64 then ofW ((wordsD d).set (at' / 4) v) else d
theorem words_of {w : List Nat} (hl : w.length = 16) (hw : ∀ x ∈ w, x < 4294967296) : wordsD (ofW w) = w := by
  match w, hl with
  | [a0, a1, a2, a3, a4, a5, a6, a7, a8, a9, a10, a11, a12, a13, a14, a15], _ =>
    simp only [List.mem_cons, List.not_mem_nil, or_false, forall_eq_or_imp, forall_eq] at hw
    simp only [wordsD, ofW, two, lo, hi, List.range_succ, List.range_zero, List.nil_append, List.map_append, List.map_cons, List.map_nil, List.cons_append, List.flatMap_cons, List.flatMap_nil, List.getD_cons_zero, List.getD_cons_succ, Nat.mul_zero, Nat.mul_one, Nat.reduceMul, Nat.reduceAdd, List.cons.injEq, and_true, true_and]
    and_intros <;> omega
theorem ofW_ok {w : List Nat} (hl : w.length = 16) (hw : ∀ x ∈ w, x < 4294967296) : (ofW w).ok := by
  have hg : ∀ i, w.getD i 0 < 4294967296 := by
    intro i
    rw [List.getD]
    cases h : w[i]? with
    | none => decide
    | some z => exact hw z (List.mem_of_getElem? h)
  have h2 : ∀ i, two w i < 18446744073709551616 := fun i => by
    have := hg i; have := hg (i + 1); unfold two; omega
  refine ⟨hg 0, hg 1, h2 2, by simp [ofW], fun x hx => ?_⟩
  simp only [ofW, List.mem_map] at hx
  obtain ⟨i, _, rfl⟩ := hx
  exact h2 _
theorem set_lt {l : List Nat} {i v n : Nat} (h : ∀ x ∈ l, x < n) (hv : v < n) : ∀ x ∈ l.set i v, x < n := fun x hx => by
  rcases List.mem_or_eq_of_mem_set hx with h1 | h1
  · exact h x h1
  · rw [h1]; exact hv
theorem with_ok {d : Da} (hd : d.ok) {at' v : Nat} (hv : v < 4294967296) : (withS d at' v).ok := by
  unfold withS
  split
  · exact ofW_ok (by rw [List.length_set]; exact wordsD_len hd.2.2.2.1) (set_lt (wordsD_lt hd) hv)
  · exact hd
/-- Another word is as it was. -/
theorem with_word {d : Da} (hd : d.ok) {at' v k : Nat} (hv : v < 4294967296) (hk : k ≠ at') : wordS (withS d at' v) k = wordS d k := by
  unfold withS
  split
  · rename_i h
    unfold wordS
    rw [words_of (by rw [List.length_set]; exact wordsD_len hd.2.2.2.1) (set_lt (wordsD_lt hd) hv)]
    split
    · rename_i h2
      rw [List.getD, List.getD, List.getElem?_set_ne (by omega)]
    · rfl
  · rfl
end Go.Ev
