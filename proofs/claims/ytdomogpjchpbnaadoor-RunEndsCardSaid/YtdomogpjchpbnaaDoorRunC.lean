/- What holds of runs: of what they hang on, and of filters that are put together. -/
import Derived.Test.YtdomogpjchpbnaaDoorRun6W
namespace Go.Ev
open Go Go.RowKit
variable {G : Tbl}
set_option maxRecDepth 10000
set_option maxHeartbeats 2000000
set_option linter.unusedSimpArgs false
set_option linter.unusedVariables false

theorem step_word {d e : Da} (s : St) (x : In4) (h : x.op = 32 → wordS d x.k = wordS e x.k) : stepS s x d = stepS s x e := by
  unfold stepS
  split
  · rfl
  · unfold stepO
    by_cases h32 : x.op = 32
    · rw [h h32]
    · simp only [h32, if_false]
/-- A run hangs on the words that are loaded alone. -/
theorem run_word {d e : Da} : ∀ (n : Nat) (g : List In4) (s : St), g.length ≤ n → (∀ x ∈ g, x.op = 32 → wordS d x.k = wordS e x.k) → run d g s = run e g s
  | _, [], s, _, _ => by rw [run, run]
  | 0, x :: g, s, h, _ => by simp at h
  | n + 1, x :: g, s, h, hw => by
    rw [run_cons, run_cons, step_word s x (hw x (by simp))]
    have ih := run_word n (g.drop (goes s x)) (stepS s x e).1 (by simp at h ⊢; omega) fun y hy => hw y (by simp [List.mem_of_mem_drop hy])
    rw [ih]
/-- What stands behind is never come to. -/
theorem run_behind {f l : List In4} (d : Da) (hs : soundF f = true) : ∀ (n t : Nat) (s : St), f.length - t ≤ n → t < f.length → run d ((f ++ l).drop t) s = run d (f.drop t) s
  | 0, t, s, h, ht => by omega
  | n + 1, t, s, h, ht => by
    have hg : f[t]? = some f[t] := List.getElem?_eq_getElem ht
    have hdr := List.drop_eq_getElem_cons ht
    have hdr2 : (f ++ l).drop t = f[t] :: (f ++ l).drop (t + 1) := by
      rw [List.drop_eq_getElem_cons (by simp; omega), List.getElem_append_left ht]
    generalize f[t] = x at hg hdr hdr2
    rw [hdr, hdr2, run_cons, run_cons]
    by_cases h6 : x.op = 6
    · rw [if_pos h6, if_pos h6]
    by_cases h22 : x.op = 22
    · rw [if_neg h6, if_neg h6, if_pos h22, if_pos h22]
    have he : isEnd x.op = false := by simp [isEnd, h6, h22]
    have hgo := sound_offs hs hg (goes_offs he s)
    have ih := run_behind (l := l) d hs n (t + 1 + goes s x) (stepS s x d).1 (by omega) hgo
    have e1 : ∀ z : List In4, z.drop (t + 1 + goes s x) = (z.drop (t + 1)).drop (goes s x) := fun z => by rw [List.drop_drop]
    rw [e1, e1] at ih
    rw [ih]
/-- A jump over what is never come to. -/
theorem run_jump (d : Da) (l f : List In4) (s : St) : run d (⟨5, 0, 0, l.length⟩ :: (l ++ f)) s = ((run d f s).1, (run d f s).2 + 1) := by
  rw [run_cons]
  have hs : stepS s ⟨5, 0, 0, l.length⟩ d = (s, true) := by
    have : (aluT 5).2.2 = false := by decide
    simp [stepS, stepO, this]
  have hg : goes s ⟨5, 0, 0, l.length⟩ = l.length := by simp [goes]
  rw [hs, hg, List.drop_left]
  simp
theorem run_pos (d : Da) (x : In4) (g : List In4) (s : St) : 1 ≤ (run d (x :: g) s).2 := by
  rw [run_cons]
  split
  · simp
  split
  · simp
  split
  · simp
  · simp
end Go.Ev
