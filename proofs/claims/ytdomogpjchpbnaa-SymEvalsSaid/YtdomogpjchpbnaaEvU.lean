/- Lemmas that many texts use. -/
import Derived.Test.YtdomogpjchpbnaaEvT
import Derived.Test.YtdomogpjchpbnaaEvX
import Derived.Test.YtdomogpjchpbnaaBitsW
namespace Go.Ev
open Go Go.RowKit
variable {G : Tbl}
set_option maxRecDepth 10000
set_option linter.unusedSimpArgs false
set_option linter.unusedVariables false

/-- Blocks that hold nothing of what is made later. -/
def HShut (H : Heap) : Prop := ∀ m, H.length ≤ m → H.map (Option.map (Blk.cl m)) = H
theorem shut_trunc {H : Heap} (h : HShut H) (r : Heap) (n : Nat) : trunc (H.length + n) (H ++ r) = H ++ (r.take n).map (Option.map (Blk.cl (H.length + n))) := by
  unfold trunc
  rw [List.take_append, List.map_append]
  congr 1
  · rw [List.take_of_length_le (by omega)]; exact h _ (by omega)
  · congr 2; omega
theorem callK_of {ro : Bool} {f : Nat} {args : List V} {r : V} {H H1 : Heap} {K : List Kt} {e : Env} {Q : Ex → Env → Heap → Prop} {base : Nat} {d : Option Nat} {os : List SOper} (h : Big G (.F f args H r H1)) (hro : ro = true → base ≤ H.length ∧ H1.take H.length = H)
    (hr : WO G base os K (e.put d r) H1 Q) : callK G ro f args base d os K e H Q := ⟨r, H1, h, hro, hr⟩

/-- 0 less a number. -/
def negW (a : Nat) : Nat := (4294967296 - a) % 4294967296
theorem doW32 (kind : Int) {a b : Nat} (ha : a < 4294967296) (hb : b < 4294967296) : (doW kind a b).1 < 4294967296 := by
  have h1 := Nat.or_lt_two_pow (n := 32) ha hb
  have h2 := Nat.and_lt_two_pow (n := 32) a hb
  have h3 := Nat.xor_lt_two_pow (n := 32) ha hb
  have h4 : a / b ≤ a := Nat.div_le_self _ _
  have h5 : a / 2 ^ (b % 32) ≤ a := Nat.div_le_self _ _
  unfold doW
  repeat' split
  all_goals first
    | (simp only; omega)
    | (simp only; exact Nat.mod_lt _ (by decide))
/-- Truth values. -/
def bools (l : List Bool) : List (List V) := l.map fun b => [.bool b]
@[simp] theorem bools_length (l : List Bool) : (bools l).length = l.length := by simp [bools]
@[simp] theorem bools_get (l : List Bool) (i : Nat) : (bools l)[i]? = (l[i]?).map fun b => [.bool b] := by simp [bools]
@[simp] theorem bools_nil : bools [] = [] := rfl
@[simp] theorem bools_snoc (l : List Bool) (x : Bool) : bools l ++ [[.bool x]] = bools (l ++ [x]) := by simp [bools]
@[simp] theorem bools_sz (l : List Bool) : (∀ f ∈ bools l, f.length = 1) = True := by
  simp only [eq_iff_iff, iff_true]
  intro f hf
  simp only [bools, List.mem_map] at hf
  obtain ⟨x, _, rfl⟩ := hf
  rfl

end Go.Ev
