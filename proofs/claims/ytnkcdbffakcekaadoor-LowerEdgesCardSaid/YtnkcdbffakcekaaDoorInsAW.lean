/- What the functions of ins, and those of hurdleref02, compute. -/
import Derived.Test.YtnkcdbffakcekaaDoorEvNW
import Derived.Test.YtnkcdbffakcekaaDoorEvRefCW
import Derived.Test.YtnkcdbffakcekaaDoorEvX
import Derived.Test.YtnkcdbffakcekaaDoorEvQW
set_option linter.unusedVariables false
set_option linter.unusedSimpArgs false
namespace Go.Ev
open Go Go.RowKit
variable {G : Tbl}
set_option maxRecDepth 10000
set_option maxHeartbeats 2000000
set_option linter.unusedSimpArgs false
set_option linter.unusedVariables false
structure In4 where
 op : Int
 jt : Int
 jf : Int
 k : Nat
 deriving DecidableEq
def In4.cs (x : In4) : List V := [.int .i64 x.op, .int .i64 x.jt, .int .i64 x.jf, .int .u32 (x.k : Int)]
def IV (x : In4) : V := .agg x.cs
def IL (l : List In4) : List (List V) := l.map In4.cs
def FL (l : List In4) : V := .vs (IL l) .no
@[simp] theorem IL_length (l : List In4) : (IL l).length = l.length := by simp [IL]
@[simp] theorem IL_get (l : List In4) (i : Nat) : (IL l)[i]? = (l[i]?).map In4.cs := by simp [IL]
@[simp] theorem IL_nil : IL [] = [] := rfl
theorem IL_eq_nil (l : List In4) : IL l = [] ↔ l = [] := by simp [IL]
theorem IL_append (l m : List In4) : IL l ++ IL m = IL (l ++ m) := by simp [IL]
@[simp] theorem IL_snoc (l : List In4) (x : In4) : IL l ++ [x.cs] = IL (l ++ [x]) := by simp [IL]
@[simp] theorem IL_sz (l : List In4) : (∀ f ∈ IL l, f.length = 4) = True := by
 simp only [eq_iff_iff, iff_true]
 intro f hf
 simp only [IL, List.mem_map] at hf
 obtain ⟨x, _, rfl⟩ := hf
 rfl
@[simp] theorem cs_length (x : In4) : x.cs.length = 4 := rfl
abbrev Row4 := Int × List UInt8 × Bool × Bool
def rowCs (r : Row4) : List V := [.int .i64 r.1, .str r.2.1, .bool r.2.2.1, .bool r.2.2.2]
def shapeOf (op : Int) : Option Row4 := shapeRows.find? fun r => r.1 == op
theorem flat_at {α β : Type} (g : α → List β) (k : Nat) (hk : ∀ a, (g a).length = k) : ∀ (l : List α) (n : Nat) (a : α), l[n]? = some a → (((l.map g).flatten).drop (n * k)).take k = g a
 | [], n, a, h => by simp at h
 | b :: l, 0, a, h => by
  simp at h; subst h
  simp [List.take_append_of_le_length, hk]
 | b :: l, n + 1, a, h => by
  simp only [List.getElem?_cons_succ] at h
  rw [List.map_cons, List.flatten_cons, Nat.add_mul, Nat.one_mul, Nat.add_comm, ← hk b, List.drop_length_add_append]
  have := flat_at g k hk l n a h
  rw [hk b]
  exact this
theorem shapes_at {n : Nat} {r : Row4} (h : shapeRows[n]? = some r) : (g_ins_shapes.drop (n * 4)).take 4 = rowCs r := flat_at (fun r : Row4 => rowCs r) 4 (fun _ => rfl) shapeRows n r h
theorem shapes_len : g_ins_shapes.length = 156 := by decide
theorem shapes_take : g_ins_shapes.take 156 = g_ins_shapes := by rw [List.take_of_length_le]; rw [shapes_len]; exact Nat.le_refl _
theorem shapes_cl (n : Nat) : clL n g_ins_shapes = g_ins_shapes := by
 rw [clL_eq_map]
 simp [g_ins_shapes, List.map_flatten, Function.comp_def, V.cl]
def ofV (op : Int) : V := match shapeOf op with
 | some r => .tup [.agg (rowCs r), .bool true]
 | none => .tup [.agg [.int .i64 0, .str [], .bool false, .bool false], .bool false]
theorem find_none {α : Type} {p : α → Bool} {l : List α} (h : ∀ (n : Nat) (a : α), l[n]? = some a → p a = false) : l.find? p = none := by
 rw [List.find?_eq_none]
 intro a ha
 obtain ⟨n, hn⟩ := List.getElem?_of_mem ha
 simp [h n a hn]
theorem find_at {α : Type} {p : α → Bool} : ∀ {l : List α} {n : Nat} {a : α}, l[n]? = some a → p a = true → (∀ (m : Nat) (b : α), m < n → l[m]? = some b → p b = false) → l.find? p = some a
 | [], n, a, h, _, _ => by simp at h
 | b :: l, 0, a, h, hp, _ => by simp at h; subst h; simp [hp]
 | b :: l, n + 1, a, h, hp, hn => by
  rw [List.find?_cons]
  rw [hn 0 b (by omega) rfl]
  exact find_at (by simpa using h) hp fun m c hm hc => hn (m + 1) c (by omega) (by simpa using hc)
def NoRow (op : Int) (n : Nat) : Prop := ∀ (m : Nat) (b : Row4), m < n → shapeRows[m]? = some b → (b.1 == op) = false
theorem of_ok [HasIns G] (op : Int) : FP G 139 [.int .i64 op] (ofV op) := by
 refine FP_of HasIns.h_ins_of (Nat.le_of_ble_eq_true rfl) ?_
 simp [shapes_len, shapes_take]
 refine W_up 39 (fun n => [(0, .int .i64 op), (2, .ptr 0 0), (6, .agg g_ins_shapes), (7, .int .i64 n)]) (fun _ => [some (.cells [.int .i64 0, .str [], .bool false, .bool false])])
  (fun n => NoRow op n) ?_ ?_
 ·simp [keep_cl, trunc, shapes_cl]
  intro m b hm; omega
 intro n hn hall
 by_cases hlt : n < 39
 ·obtain ⟨r, hr⟩ : ∃ r, shapeRows[n]? = some r := ⟨_, List.getElem?_eq_getElem (show n < shapeRows.length from hlt)⟩
  have hs := shapes_at hr
  by_cases he : r.1 = op
  ·have : shapeOf op = some r := find_at hr (by simpa using he) hall
   simp (disch := omega) [ltT, leTn, shapes_len, hs, rowCs, he, this, ofV, -Int.natCast_add]
  ·have hall' : NoRow op (n + 1) := fun m b hm hb => by
    by_cases hmn : m = n
    ·subst hmn; rw [hr] at hb; cases hb; simpa using he
    ·exact hall m b (by omega) hb
   simp (disch := omega) [ltT, leTn, shapes_len, hs, rowCs, beqF, he, add1', hlt, keep_cl, trunc, shapes_cl, hall', -Int.natCast_add]
 ·have hne : n = 39 := by omega
  subst hne
  have : shapeOf op = none := find_none fun m b hb => hall m b (by have := (List.getElem?_eq_some_iff.1 hb).1; exact this) hb
  simp [this, ofV]
theorem shape_some {op : Int} {r : Row4} (h : shapeOf op = some r) : r.1 = op ∧ r ∈ shapeRows := by
 have h1 := List.find?_some h
 exact ⟨by simpa using h1, List.mem_of_find?_eq_some h⟩
theorem shape_none {op : Int} (h : shapeOf op = none) : ∀ r ∈ shapeRows, r.1 ≠ op := fun r hr => by
 have := List.find?_eq_none.1 h r hr
 simpa using this
def aluT (op : Int) : Int × Bool × Bool :=
 if op ∈ [4, 20, 36, 52, 68, 84, 100, 116, 164] then (op, false, true) else if op ∈ [12, 28, 44, 60, 76, 92, 108, 124, 172] then (op - 8, true, true) else (0, false, false)
def isBr (op : Int) : Bool := decide (op ∈ [21, 37, 53, 69, 29, 45, 61, 77])
def isEnd (op : Int) : Bool := decide (op = 6 ∨ op = 22)
theorem alu_none {op : Int} (h : shapeOf op = none) : aluT op = (0, false, false) := by
 have h1 : ∀ p ∈ [4, 20, 36, 52, 68, 84, 100, 116, 164, 12, 28, 44, 60, 76, 92, 108, 124, 172], ∃ r ∈ shapeRows, r.1 = p := by decide
 unfold aluT
 rw [if_neg, if_neg]
 ·intro hm
  obtain ⟨r, hr, he⟩ := h1 op (by simp only [List.mem_cons, List.not_mem_nil, or_false] at hm ⊢; omega)
  exact shape_none h r hr he
 ·intro hm
  obtain ⟨r, hr, he⟩ := h1 op (by simp only [List.mem_cons, List.not_mem_nil, or_false] at hm ⊢; omega)
  exact shape_none h r hr he
theorem br_none {op : Int} (h : shapeOf op = none) : isBr op = false := by
 have h1 : ∀ p ∈ [21, 37, 53, 69, 29, 45, 61, 77], ∃ r ∈ shapeRows, r.1 = p := by decide
 simp only [isBr, decide_eq_false_iff_not]
 intro hm
 obtain ⟨r, hr, he⟩ := h1 op hm
 exact shape_none h r hr he
theorem Ends_ok [HasIns G] (x : In4) : FP G 143 [IV x] (.bool (isEnd x.op)) := by
 refine FP_of HasIns.h_ins_Ends (Nat.le_of_ble_eq_true rfl) ?_
 simp [IV, In4.cs]
 by_cases h : x.op = 6
 ·simp [h, isEnd]
 ·by_cases h2 : x.op = 22 <;> simp [h, h2, beqF, isEnd]
theorem Branch_ok [HasIns G] (x : In4) : FP G 142 [IV x] (.bool (isBr x.op)) := by
 refine FP_of HasIns.h_ins_Branch (Nat.le_of_ble_eq_true rfl) ?_
 simp [IV, In4.cs]
 refine callP_of (of_ok x.op) ?_
 unfold ofV
 cases h : shapeOf x.op with
 | none => simp [br_none h]
 | some r =>
  obtain ⟨he, hr⟩ := shape_some h
  have key : ∀ r ∈ shapeRows, (decide (andI .i64 r.1 7 = 5) && decide (r.1 ≠ 5)) = isBr r.1 := by decide
  have key := key r hr
  rw [he] at key
  by_cases h1 : andI .i64 x.op 7 = 5
  ·by_cases h2 : x.op = 5
   ·simp [h1, h2] at key; simp [rowCs, h1, h2]; rw [h2] at h1; simp [h1]; exact key
   ·simp [h1, h2] at key; simp [rowCs, h1, h2, bneT, key]
  ·simp [h1] at key; simp [rowCs, h1, beqF, key]
def rightI (x : In4) : Bool := match shapeOf x.op with
 | some r => (r.2.2.1 || decide (x.k = 0)) && (if r.2.2.2 then decide (0 ≤ x.jt ∧ x.jt ≤ 255 ∧ 0 ≤ x.jf ∧ x.jf ≤ 255) else decide (x.jt = 0 ∧ x.jf = 0))
 | none => false
theorem RightI_ok [HasIns G] (x : In4) : FP G 140 [IV x] (.bool (rightI x)) := by
 refine FP_of HasIns.h_ins_Right (Nat.le_of_ble_eq_true rfl) ?_
 simp [IV, In4.cs]
 refine callP_of (of_ok x.op) ?_
 unfold ofV rightI
 cases h : shapeOf x.op with
 | none => simp
 | some r =>
  obtain ⟨op, w, has, ways⟩ := r
  have ways_ok : ∀ {H : Heap}, True := trivial
  cases has
  ·by_cases hk : x.k = 0
   ·cases ways
    ·by_cases h1 : x.jt = 0
     ·by_cases h2 : x.jf = 0 <;> simp [rowCs, hk, h1, h2, beqF]
     ·simp [rowCs, hk, h1, beqF]
    ·by_cases h1 : 0 ≤ x.jt
     ·by_cases h2 : x.jt ≤ 255
      ·by_cases h3 : 0 ≤ x.jf
       ·by_cases h4 : x.jf ≤ 255 <;> simp [rowCs, hk, h1, h2, h3, h4]
       ·simp [rowCs, hk, h1, h2, h3]
      ·simp [rowCs, hk, h1, h2]
     ·simp [rowCs, hk, h1]
   ·have hk' : ((x.k : Int) != 0) = true := bneT (by omega)
    simp [rowCs, hk, hk']
  ·cases ways
   ·by_cases h1 : x.jt = 0
    ·by_cases h2 : x.jf = 0 <;> simp [rowCs, h1, h2, beqF]
    ·simp [rowCs, h1, beqF]
   ·by_cases h1 : 0 ≤ x.jt
    ·by_cases h2 : x.jt ≤ 255
     ·by_cases h3 : 0 ≤ x.jf
      ·by_cases h4 : x.jf ≤ 255 <;> simp [rowCs, h1, h2, h3, h4]
      ·simp [rowCs, h1, h2, h3]
     ·simp [rowCs, h1, h2]
    ·simp [rowCs, h1]
/- hurdleref02. -/
def ops39 : List Int := shapeRows.map (·.1)
theorem Ops_ok [HasR2 G] : FP G 177 [] (.vs (ints .i64 ops39) .no) := by
 refine FP_of HasR2.h_hurdleref02_Ops (Nat.le_of_ble_eq_true rfl) ?_
 simp [ints, ops39, shapeRows]
theorem place_ok [HasR2 G] (op : Int) : ∃ p : Int, FP G 176 [.int .i64 op] (.int .i64 p) ∧
  ((∃ (n : Nat) (r : Row4), p = n ∧ shapeRows[n]? = some r ∧ shapeOf op = some r) ∨ p = -1 ∧ shapeOf op = none) := by
 have main : ∀ p : Int, ((∃ (n : Nat) (r : Row4), p = n ∧ shapeRows[n]? = some r ∧ shapeOf op = some r) ∨ p = -1 ∧ shapeOf op = none) → FP G 176 [.int .i64 op] (.int .i64 p) := by
  intro p hp
  refine FP_of HasR2.h_hurdleref02_place (Nat.le_of_ble_eq_true rfl) ?_
  simp
  refine callP_of Ops_ok ?_
  simp
  refine W_up 39 (fun n => [(0, .int .i64 op), (3, .vs (ints .i64 ops39) .no), (4, .int .i64 n)]) (fun _ => []) (fun n => NoRow op n) ?_ ?_
  ·simp [keep_cl, trunc]
   intro m b hm; omega
  intro n hn hall
  have hl : ops39.length = 39 := rfl
  by_cases hlt : n < 39
  ·obtain ⟨r, hr⟩ : ∃ r, shapeRows[n]? = some r := ⟨_, List.getElem?_eq_getElem (show n < shapeRows.length from hlt)⟩
   have ho : ops39[n]? = some r.1 := by simp [ops39, hr]
   obtain ⟨_, hg⟩ := List.getElem?_eq_some_iff.1 ho
   by_cases he : r.1 = op
   ·have hs : shapeOf op = some r := find_at hr (by simpa using he) hall
    have : p = n := by
     rcases hp with ⟨n', r', rfl, h1, h2⟩ | ⟨_, h2⟩
     ·rw [hs] at h2; cases h2
      have h3 : shapeRows.length = 39 := rfl
      have h4 : ∀ i j : Fin 39, shapeRows[i.1]? = shapeRows[j.1]? → i = j := by decide
      have hn' : n' < 39 := by have := (List.getElem?_eq_some_iff.1 h1).1; omega
      have := h4 ⟨n', hn'⟩ ⟨n, hlt⟩ (by rw [h1, hr])
      simp at this; rw [this]
     ·rw [hs] at h2; cases h2
    simp (disch := omega) [ltT, ho, hg, he, hl, this, -Int.natCast_add]
   ·have hall' : NoRow op (n + 1) := fun m b hm hb => by
     by_cases hmn : m = n
     ·subst hmn; rw [hr] at hb; cases hb; simpa using he
     ·exact hall m b (by omega) hb
    simp (disch := omega) [ltT, ho, hg, beqF, he, hl, add1', hlt, keep_cl, trunc, hall', -Int.natCast_add]
  ·have hne : n = 39 := by omega
   subst hne
   have hs : shapeOf op = none := find_none fun m b hb => hall m b (by have := (List.getElem?_eq_some_iff.1 hb).1; exact this) hb
   have : p = -1 := by
    rcases hp with ⟨n', r', rfl, h1, h2⟩ | ⟨h1, _⟩
    ·rw [hs] at h2; cases h2
    ·exact h1
   simp [hl, this]
 cases h : shapeOf op with
 | none => exact ⟨-1, main _ (.inr ⟨rfl, h⟩), .inr ⟨rfl, rfl⟩⟩
 | some r =>
  obtain ⟨he, hr⟩ := shape_some h
  obtain ⟨n, hn⟩ := List.getElem?_of_mem hr
  exact ⟨n, main _ (.inl ⟨n, r, rfl, hn, h⟩), .inl ⟨n, r, rfl, hn, rfl⟩⟩
def plainB (i : Int) : Bool := decide (13 ≤ i ∧ i ≤ 24 ∨ i = 30 ∨ 35 ≤ i)
theorem plain_okR [HasR2 G] (i : Int) : FP G 175 [.int .i64 i] (.bool (plainB i)) := by
 refine FP_of HasR2.h_hurdleref02_plain (Nat.le_of_ble_eq_true rfl) ?_
 unfold plainB
 by_cases h1 : 13 ≤ i
 ·by_cases h2 : i ≤ 24
  ·simp [h1, h2]
  ·by_cases h3 : i = 30
   ·simp [h1, h2, h3]
   ·by_cases h4 : 35 ≤ i <;> simp [h1, h2, h3, h4, beqF]
 ·simp [h1, show ¬ 35 ≤ i from by omega, show ¬ i = 30 from by omega, beqF]
theorem branch_okR [HasR2 G] (i : Int) : FP G 174 [.int .i64 i] (.bool (decide (31 ≤ i))) := by
 refine FP_of HasR2.h_hurdleref02_branch (Nat.le_of_ble_eq_true rfl) ?_
 simp
theorem BranchR_ok [HasR2 G] (x : In4) : FP G 180 [IV x] (.bool (isBr x.op)) := by
 obtain ⟨p, hp, hc⟩ := place_ok (G := G) x.op
 refine FP_of HasR2.h_hurdleref02_Branch (Nat.le_of_ble_eq_true rfl) ?_
 simp [IV, In4.cs]
 refine callP_of hp ?_
 simp
 refine callP_of (branch_okR p) ?_
 have : decide (31 ≤ p) = isBr x.op := by
  rcases hc with ⟨n, r, rfl, h1, h2⟩ | ⟨rfl, h2⟩
  ·have key : ∀ i : Fin 39, ∀ r, shapeRows[i.1]? = some r → decide (31 ≤ (i.1 : Int)) = isBr r.1 := by decide
   have hn : n < 39 := by have := (List.getElem?_eq_some_iff.1 h1).1; exact this
   have := key ⟨n, hn⟩ r h1
   rw [(shape_some h2).1] at this
   exact this
  ·rw [br_none h2]; rfl
 simp [this]
theorem AluR_ok [HasR2 G] (x : In4) : FP G 179 [IV x] (.tup [.int .i64 (aluT x.op).1, .bool (aluT x.op).2.1, .bool (aluT x.op).2.2]) := by
 obtain ⟨p, hp, hc⟩ := place_ok (G := G) x.op
 refine FP_of HasR2.h_hurdleref02_Alu (Nat.le_of_ble_eq_true rfl) ?_
 simp [IV, In4.cs]
 refine callP_of hp ?_
 have key : aluT x.op = if 4 ≤ p ∧ p ≤ 12 then (x.op, false, true) else if 13 ≤ p ∧ p ≤ 21 then (subI .i64 x.op 8, true, true) else (0, false, false) := by
  rcases hc with ⟨n, r, rfl, h1, h2⟩ | ⟨rfl, h2⟩
  ·have key : ∀ i : Fin 39, ∀ r, shapeRows[i.1]? = some r → aluT r.1 = if 4 ≤ (i.1 : Int) ∧ (i.1 : Int) ≤ 12 then (r.1, false, true) else if 13 ≤ (i.1 : Int) ∧ (i.1 : Int) ≤ 21 then (subI .i64 r.1 8, true, true) else (0, false, false) := by decide
   have hn : n < 39 := by have := (List.getElem?_eq_some_iff.1 h1).1; exact this
   have := key ⟨n, hn⟩ r h1
   rw [(shape_some h2).1] at this
   exact this
  ·rw [alu_none h2]; rfl
 by_cases a1 : 4 ≤ p
 ·by_cases a2 : p ≤ 12
  ·rw [if_pos ⟨a1, a2⟩] at key
   simp [a1, a2, key]
  ·rw [if_neg (by omega)] at key
   by_cases a3 : 13 ≤ p
   ·by_cases a4 : p ≤ 21
    ·rw [if_pos ⟨a3, a4⟩] at key
     simp [a1, a2, a3, a4, key]
    ·rw [if_neg (by omega)] at key
     simp [a1, a2, a3, a4, key]
   ·omega
 ·rw [if_neg (by omega), if_neg (by omega)] at key
  simp [a1, show ¬ 13 ≤ p from by omega, key]
theorem EndsR_ok [HasR2 G] (x : In4) : FP G 181 [IV x] (.bool (isEnd x.op)) := by
 refine FP_of HasR2.h_hurdleref02_Ends (Nat.le_of_ble_eq_true rfl) ?_
 simp [IV, In4.cs]
 by_cases h : x.op = 6
 ·simp [h, isEnd]
 ·by_cases h2 : x.op = 22 <;> simp [h, h2, beqF, isEnd]
theorem RightR2_ok [HasR2 G] (x : In4) : FP G 178 [IV x] (.bool (rightI x)) := by
 obtain ⟨p, hp, hc⟩ := place_ok (G := G) x.op
 refine FP_of HasR2.h_hurdleref02_Right (Nat.le_of_ble_eq_true rfl) ?_
 simp [IV, In4.cs]
 refine callP_of hp ?_
 rcases hc with ⟨n, r, rfl, h1, h2⟩ | ⟨rfl, h2⟩
 case inr => simp [rightI, h2]
 have key : ∀ i : Fin 39, ∀ r, shapeRows[i.1]? = some r → plainB (i.1 : Int) = !r.2.2.1 ∧ decide (31 ≤ (i.1 : Int)) = r.2.2.2 := by decide
 have hn : n < 39 := by have := (List.getElem?_eq_some_iff.1 h1).1; exact this
 obtain ⟨k1, k2⟩ := key ⟨n, hn⟩ r h1
 simp only at k1 k2
 simp (disch := omega) [ltF]
 refine callP_of (plain_okR n) ?_
 unfold rightI
 rw [h2, k1]
 obtain ⟨op, w, has, ways⟩ := r
 simp only at k2 ⊢
 have lt256 : ∀ j : Int, (j < 256) = (j ≤ 255) := fun j => propext (by omega)
 have tail : ∀ b : Bool, b = true → True := fun _ _ => trivial
 cases has
 ·by_cases hk : x.k = 0
  ·simp [hk]
   refine callP_of (branch_okR n) ?_
   rw [k2]
   cases ways
   ·by_cases h1 : x.jt = 0
    ·by_cases h2 : x.jf = 0 <;> simp [h1, h2, beqF]
    ·simp [h1, beqF]
   ·by_cases h1 : 0 ≤ x.jt
    ·by_cases h2 : x.jt ≤ 255
     ·by_cases h3 : 0 ≤ x.jf
      ·by_cases h4 : x.jf ≤ 255 <;> simp [lt256, h1, h2, h3, h4]
      ·simp [lt256, h1, h2, h3]
     ·simp [lt256, h1, h2]
    ·simp [lt256, h1]
  ·have hk' : ((x.k : Int) != 0) = true := bneT (by omega)
   simp [hk, hk']
 ·simp
  refine callP_of (branch_okR n) ?_
  rw [k2]
  cases ways
  ·by_cases h1 : x.jt = 0
   ·by_cases h2 : x.jf = 0 <;> simp [h1, h2, beqF]
   ·simp [h1, beqF]
  ·by_cases h1 : 0 ≤ x.jt
   ·by_cases h2 : x.jt ≤ 255
    ·by_cases h3 : 0 ≤ x.jf
     ·by_cases h4 : x.jf ≤ 255 <;> simp [lt256, h1, h2, h3, h4]
     ·simp [lt256, h1, h2, h3]
    ·simp [lt256, h1, h2]
   ·simp [lt256, h1]
end Go.Ev
/- Forms of a few variables and a table: plain mathematics, with no program in sight. -/
namespace Go.Ev
set_option linter.unusedSimpArgs false
set_option linter.unusedVariables false
def cnt (tab : List Nat) (j : Nat) : Bool := (List.range tab.length).any fun n => tab[n]? != tab[n ^^^ 2 ^ j]?
def okAt (vars : List Int) (tab : List Nat) (j : Nat) : Prop :=
 ∃ v, vars[j]? = some v ∧ 0 ≤ v ∧ v < 34 ∧ (∀ u, 0 < j → vars[j - 1]? = some u → u < v) ∧ cnt tab j = true
def Right (vars : List Int) (tab : List Nat) : Prop := vars.length ≤ 4 ∧ tab.length = 2 ^ vars.length ∧ ∀ j, j < vars.length → okAt vars tab j
abbrev Up (l : List Int) : Prop := l.Pairwise (· < ·)
theorem Up.nodup {l : List Int} (h : Up l) : l.Nodup := h.imp (fun h e => by omega)
theorem nodup_inj {l : List Int} (h : l.Nodup) {i j : Nat} {hi : i < l.length} {hj : j < l.length} (e : l[i] = l[j]) : i = j := by
 rcases Nat.lt_trichotomy i j with hl | hl | hl
 ·exact absurd e (List.pairwise_iff_getElem.1 h _ _ _ _ hl)
 ·exact hl
 ·exact absurd e.symm (List.pairwise_iff_getElem.1 h _ _ _ _ hl)
def idx : List Int → (Int → Bool) → Nat
 | [], _ => 0
 | v :: vs, p => (p v).toNat + 2 * idx vs p
theorem idx_lt : ∀ (vs : List Int) (p : Int → Bool), idx vs p < 2 ^ vs.length
 | [], _ => by simp [idx]
 | v :: vs, p => by
  have := idx_lt vs p
  have h2 : (p v).toNat ≤ 1 := by cases p v <;> simp
  simp only [idx, List.length_cons, Nat.pow_succ]; omega
theorem idx_bit (p : Int → Bool) : ∀ (vs : List Int) (j : Nat), (idx vs p).testBit j = (vs[j]?.map p).getD false
 | [], j => by simp [idx]
 | v :: vs, 0 => by
  simp only [idx, Nat.testBit_zero, List.getElem?_cons_zero, Option.map_some, Option.getD_some]
  cases p v <;> simp <;> omega
 | v :: vs, j + 1 => by
  simp only [List.getElem?_cons_succ, ← idx_bit p vs j, idx, Nat.testBit_succ]
  congr 1
  cases p v <;> simp <;> omega
def say (vs : List Int) (n : Nat) : Int → Bool := fun v => n.testBit (vs.idxOf v)
theorem idx_say {vs : List Int} (h : vs.Nodup) {n : Nat} (hn : n < 2 ^ vs.length) : idx vs (say vs n) = n := by
 refine Nat.eq_of_testBit_eq fun j => ?_
 rw [idx_bit]
 by_cases hj : j < vs.length
 ·rw [List.getElem?_eq_getElem hj]
  simp only [Option.map_some, Option.getD_some, say]
  rw [List.Nodup.idxOf_getElem h]
 ·rw [List.getElem?_eq_none (by omega)]
  simp only [Option.map_none, Option.getD_none]
  rw [Nat.testBit_lt_two_pow (Nat.lt_of_lt_of_le hn (Nat.pow_le_pow_right (by decide) (by omega)))]
def flip (p : Int → Bool) (v : Int) : Int → Bool := fun u => if u = v then !p u else p u
theorem idx_flip {vs : List Int} (h : vs.Nodup) (p : Int → Bool) {j : Nat} {v : Int} (hv : vs[j]? = some v) : idx vs (flip p v) = idx vs p ^^^ 2 ^ j := by
 have hj : j < vs.length := by
  rcases Nat.lt_or_ge j vs.length with h | h
  ·exact h
  ·rw [List.getElem?_eq_none h] at hv; cases hv
 refine Nat.eq_of_testBit_eq fun i => ?_
 rw [Nat.testBit_xor, idx_bit, idx_bit, Nat.testBit_two_pow]
 by_cases hi : i < vs.length
 ·rw [List.getElem?_eq_getElem hi]
  simp only [Option.map_some, Option.getD_some, flip]
  rw [List.getElem?_eq_getElem hj] at hv; cases hv
  by_cases hij : i = j
  ·subst hij; simp
  ·have : vs[i] ≠ vs[j] := fun e => hij (nodup_inj h e)
   have hji : j ≠ i := fun e => hij e.symm
   simp [this, hji]
 ·rw [List.getElem?_eq_none (by omega)]
  have hji : j ≠ i := by omega
  simp [hji]
def sem (vs : List Int) (tab : List Nat) (p : Int → Bool) : Nat := tab.getD (idx vs p) 0
def dep (f : (Int → Bool) → Nat) (v : Int) : Prop := ∃ p, f p ≠ f (flip p v)
theorem cnt_iff {vs : List Int} {tab : List Nat} (h : vs.Nodup) (hl : tab.length = 2 ^ vs.length) {j : Nat} {v : Int} (hv : vs[j]? = some v) : cnt tab j = true ↔ dep (sem vs tab) v := by
 have get (n : Nat) (hn : n < tab.length) : tab[n]? = some (tab.getD n 0) := by rw [List.getElem?_eq_getElem hn, List.getD_eq_getElem?_getD, List.getElem?_eq_getElem hn]; rfl
 have hj : j < vs.length := by
  rcases Nat.lt_or_ge j vs.length with h | h
  ·exact h
  ·rw [List.getElem?_eq_none h] at hv; cases hv
 simp only [cnt, List.any_eq_true, List.mem_range, bne_iff_ne, ne_eq, dep, sem]
 constructor
 ·rintro ⟨n, hn, hne⟩
  refine ⟨say vs n, fun e => hne ?_⟩
  rw [idx_flip h _ hv, idx_say h (by omega)] at e
  rw [get n hn, get _ (by rw [hl] at hn ⊢; exact Nat.xor_lt_two_pow hn (Nat.pow_lt_pow_right (by decide) hj)), e]
 ·rintro ⟨p, hp⟩
  have h1 : idx vs p < tab.length := by rw [hl]; exact idx_lt vs p
  refine ⟨idx vs p, h1, fun e => hp ?_⟩
  rw [idx_flip h _ hv]
  rw [get _ h1, get _ (by rw [hl] at h1 ⊢; exact Nat.xor_lt_two_pow h1 (Nat.pow_lt_pow_right (by decide) hj))] at e
  exact Option.some.inj e
theorem Right.of {vs : List Int} {tab : List Nat} (h4 : vs.length ≤ 4) (hl : tab.length = 2 ^ vs.length) (hu : Up vs) (hm : ∀ v ∈ vs, 0 ≤ v ∧ v < 34) (hd : ∀ v ∈ vs, dep (sem vs tab) v) : Right vs tab := by
 refine ⟨h4, hl, fun j hj => ⟨vs[j], List.getElem?_eq_getElem hj, (hm _ (List.getElem_mem hj)).1, (hm _ (List.getElem_mem hj)).2, ?_, (cnt_iff hu.nodup hl (List.getElem?_eq_getElem hj)).2 (hd _ (List.getElem_mem hj))⟩⟩
 intro u h0 hu'
 rw [List.getElem?_eq_getElem (by omega)] at hu'; cases hu'
 exact List.pairwise_iff_getElem.1 hu _ _ _ _ (by omega)
def ins (j m : Nat) : Nat := 2 ^ (j + 1) * (m / 2 ^ j) + m % 2 ^ j
def wordOf (f : Nat → Bool) : Nat → Nat
 | 0 => 0
 | k + 1 => wordOf f k + 2 ^ k * (f k).toNat
theorem wordOf_lt (f : Nat → Bool) : ∀ k, wordOf f k < 2 ^ k
 | 0 => by simp [wordOf]
 | k + 1 => by
  have := wordOf_lt f k
  simp only [wordOf, Nat.pow_succ]
  cases f k <;> simp <;> omega
theorem wordOf_bit (f : Nat → Bool) (i : Nat) : ∀ k, (wordOf f k).testBit i = (decide (i < k) && f i)
 | 0 => by simp [wordOf]
 | k + 1 => by
  rw [wordOf, Nat.add_comm, Nat.testBit_two_pow_mul_add _ (wordOf_lt f k)]
  by_cases h : i < k
  ·rw [if_pos h, wordOf_bit f i k]; simp [h, show i < k + 1 by omega]
  ·rw [if_neg h]
   by_cases h2 : i = k
   ·subst h2; simp
    cases f i <;> simp
   ·have h3 : ¬ i < k + 1 := by omega
    simp only [h3, decide_false, Bool.false_and]
    have : (f k).toNat < 2 ^ (i - k) := Nat.lt_of_lt_of_le (by cases f k <;> simp : (f k).toNat < 2 ^ 1) (Nat.pow_le_pow_right (by decide) (by omega))
    exact Nat.testBit_lt_two_pow this
theorem wordOf_ext {f g : Nat → Bool} : ∀ {k : Nat}, (∀ i, i < k → f i = g i) → wordOf f k = wordOf g k
 | 0, _ => rfl
 | k + 1, h => by rw [wordOf, wordOf, wordOf_ext fun i hi => h i (by omega), h k (by omega)]
theorem wordOf_self {w : Nat} (h : w < 2 ^ 32) : wordOf w.testBit 32 = w := by
 refine Nat.eq_of_testBit_eq fun i => ?_
 rw [wordOf_bit]
 by_cases hi : i < 32
 ·simp [hi]
 ·simp only [hi, decide_false, Bool.false_and]
  exact (Nat.testBit_lt_two_pow (Nat.lt_of_lt_of_le h (Nat.pow_le_pow_right (by decide) (by omega)))).symm
def val (vs : List Int) (tab : List Nat) (r : Int → Nat) : Nat := wordOf (fun i => (sem vs tab fun v => (r v).testBit i).testBit i) 32
end Go.Ev
/- What the functions of bits compute: the smaller ones. -/
namespace Go.Ev
open Go Go.RowKit
variable {G : Tbl}
set_option maxRecDepth 10000
set_option linter.unusedSimpArgs false
set_option linter.unusedVariables false
def doW (kind : Int) (a b : Nat) : Nat × Bool :=
 if kind = 4 then ((a + b) % 4294967296, true) else if kind = 20 then ((a + 4294967296 - b) % 4294967296, true) else if kind = 36 then (a * b % 4294967296, true)
 else if kind = 52 then (if b = 0 then (0, false) else (a / b, true)) else if kind = 68 then (a ||| b, true) else if kind = 84 then (a &&& b, true)
 else if kind = 100 then (a * 2 ^ (b % 32) % 4294967296, true) else if kind = 116 then (a / 2 ^ (b % 32), true) else if kind = 164 then (a ^^^ b, true) else (0, false)
theorem toNat_bit (n i : Nat) : n / 2 ^ i % 2 = (n.testBit i).toNat := by
 rw [Nat.testBit_eq_decide_div_mod_eq]
 rcases Nat.mod_two_eq_zero_or_one (n / 2 ^ i) with h | h <;> simp [h]
end Go.Ev
/- Lemmas that many texts use. -/
namespace Go.Ev
open Go Go.RowKit
variable {G : Tbl}
set_option maxRecDepth 10000
set_option linter.unusedSimpArgs false
set_option linter.unusedVariables false
def HShut (H : Heap) : Prop := ∀ m, H.length ≤ m → H.map (Option.map (Blk.cl m)) = H
theorem shut_trunc {H : Heap} (h : HShut H) (r : Heap) (n : Nat) : trunc (H.length + n) (H ++ r) = H ++ (r.take n).map (Option.map (Blk.cl (H.length + n))) := by
 unfold trunc
 rw [List.take_append, List.map_append]
 congr 1
 ·rw [List.take_of_length_le (by omega)]; exact h _ (by omega)
 ·congr 2; omega
theorem callK_of {ro : Bool} {f : Nat} {args : List V} {r : V} {H H1 : Heap} {K : List Kt} {e : Env} {Q : Ex → Env → Heap → Prop} {base : Nat} {d : Option Nat} {os : List SOper} (h : Big G (.F f args H r H1)) (hro : ro = true → base ≤ H.length ∧ H1.take H.length = H)
  (hr : WO G base os K (e.put d r) H1 Q) : callK G ro f args base d os K e H Q := ⟨r, H1, h, hro, hr⟩
def negW (a : Nat) : Nat := (4294967296 - a) % 4294967296
theorem doW32 (kind : Int) {a b : Nat} (ha : a < 4294967296) (hb : b < 4294967296) : (doW kind a b).1 < 4294967296 := by
 have h1 := Nat.or_lt_two_pow (n := 32) ha hb
 have h2 := Nat.and_lt_two_pow (n := 32) a hb
 have h3 := Nat.xor_lt_two_pow (n := 32) ha hb
 have h4 : a / b ≤ a := Nat.div_le_self _ _
 have h5 : a / 2 ^ (b % 32) ≤ a := Nat.div_le_self _ _
 unfold doW
 repeat' split
 all_goals first
  | (simp only; omega)
  | (simp only; exact Nat.mod_lt _ (by decide))
def bools (l : List Bool) : List (List V) := l.map fun b => [.bool b]
@[simp] theorem bools_length (l : List Bool) : (bools l).length = l.length := by simp [bools]
@[simp] theorem bools_get (l : List Bool) (i : Nat) : (bools l)[i]? = (l[i]?).map fun b => [.bool b] := by simp [bools]
@[simp] theorem bools_nil : bools [] = [] := rfl
@[simp] theorem bools_snoc (l : List Bool) (x : Bool) : bools l ++ [[.bool x]] = bools (l ++ [x]) := by simp [bools]
@[simp] theorem bools_sz (l : List Bool) : (∀ f ∈ bools l, f.length = 1) = True := by
 simp only [eq_iff_iff, iff_true]
 intro f hf
 simp only [bools, List.mem_map] at hf
 obtain ⟨x, _, rfl⟩ := hf
 rfl
end Go.Ev
/- What the functions of bits compute: Do, Eval, Apart. -/
namespace Go.Ev
open Go Go.RowKit
variable {G : Tbl}
set_option maxRecDepth 10000
set_option maxHeartbeats 2000000
set_option linter.unusedSimpArgs false
set_option linter.unusedVariables false
theorem conv64 {b : Nat} (hb : b < 9223372036854775808) : convI .i64 (b : Int) = (b : Int) := wrap_nat64 hb
end Go.Ev
/- What the functions of hurdleref15 and hurdleref01 compute. -/
namespace Go.Ev
open Go Go.RowKit
variable {G : Tbl}
set_option maxRecDepth 10000
set_option maxHeartbeats 2000000
set_option linter.unusedSimpArgs false
set_option linter.unusedVariables false
theorem rem2 {a : Nat} : remI (a : Int) 2 = ((a % 2 : Nat) : Int) := rem64 (b := 2)
end Go.Ev
/- What the functions of hurdleref15 and hurdleref01 compute: the rest. -/
namespace Go.Ev
open Go Go.RowKit
variable {G : Tbl}
set_option maxRecDepth 10000
set_option maxHeartbeats 2000000
set_option linter.unusedSimpArgs false
set_option linter.unusedVariables false
theorem wrapU64 {n : Nat} (h : n < 18446744073709551616) : IntKind.u64.wrap (n : Int) = n := by
 show ((n : Int) % 18446744073709551616) = n
 omega
theorem convU64b {b : Nat} (hb : b < 18446744073709551616) : convI .u64 (b : Int) = (b : Int) := wrapU64 hb
theorem convU32 {b : Nat} (hb : b < 4294967296) : convI .u32 (b : Int) = (b : Int) := wrap_nat32 hb
theorem quoU64 {a b : Nat} (ha : a < 18446744073709551616) : quoI .u64 (a : Int) (b : Int) = ((a / b : Nat) : Int) := by
 unfold quoI
 rw [Int.tdiv_eq_ediv_of_nonneg (by omega)]
 have h : ((a : Int) / (b : Int)) = ((a / b : Nat) : Int) := by rw [Int.natCast_ediv]
 rw [h]
 exact wrapU64 (Nat.lt_of_le_of_lt (Nat.div_le_self a b) ha)
theorem addU64 {a b : Nat} (h : a + b < 18446744073709551616) : addI .u64 (a : Int) (b : Int) = ((a + b : Nat) : Int) := by
 unfold addI; rw [← Int.natCast_add]; exact wrapU64 h
theorem mulU64 {a b : Nat} (h : a * b < 18446744073709551616) : mulI .u64 (a : Int) (b : Int) = ((a * b : Nat) : Int) := by
 unfold mulI; rw [← Int.natCast_mul]; exact wrapU64 h
end Go.Ev
/- What the functions of hurdleref01 compute; and hurdleref15's Do and Apart. -/
namespace Go.Ev
open Go Go.RowKit
variable {G : Tbl}
set_option maxRecDepth 10000
set_option maxHeartbeats 2000000
set_option linter.unusedSimpArgs false
set_option linter.unusedVariables false
theorem rem_32 {a : Nat} : remI (a : Int) 32 = ((a % 32 : Nat) : Int) := rem64 (b := 32)
theorem rem_w {a : Nat} : remI (a : Int) 4294967296 = ((a % 4294967296 : Nat) : Int) := rem64 (b := 4294967296)
theorem addU32 {a b : Nat} (h : a + b < 4294967296) : addI .u32 (a : Int) (b : Int) = ((a + b : Nat) : Int) := by
 unfold addI; rw [← Int.natCast_add]; exact wrap_nat32 h
theorem addU32_1 {a : Nat} (h : a + 1 < 4294967296) : addI .u32 (a : Int) 1 = ((a + 1 : Nat) : Int) := addU32 (b := 1) h
theorem mulU32 {a b : Nat} (h : a * b < 4294967296) : mulI .u32 (a : Int) (b : Int) = ((a * b : Nat) : Int) := by
 unfold mulI; rw [← Int.natCast_mul]; exact wrap_nat32 h
theorem mulU32_2 {b : Nat} (h : 2 * b < 4294967296) : mulI .u32 2 (b : Int) = ((2 * b : Nat) : Int) := mulU32 (a := 2) h
theorem mulU64_2 {a : Nat} (h : a * 2 < 18446744073709551616) : mulI .u64 (a : Int) 2 = ((a * 2 : Nat) : Int) := mulU64 (b := 2) h
theorem power_ok (hG : HasR1 G) (n : Nat) (hn : n < 4294967296) : FP G 125 [.int .u32 n] (.int .u64 (2 ^ (n % 32) : Nat)) := by
 refine FP_of hG.h_hurdleref01_power (Nat.le_of_ble_eq_true rfl) ?_
 simp [-Int.natCast_pow]
 refine W_up (n % 32) (fun i => [(0, .int .u32 n), (3, .int .u64 (2 ^ i : Nat)), (4, .int .u32 i)]) (fun _ => []) (fun _ => True) ?_ ?_
 ·simp [keep_cl, trunc, -Int.natCast_pow]
 intro i hi _
 by_cases hlt : i < n % 32
 ·have h1 : 2 ^ i * 2 ≤ 2 ^ 62 := by rw [← Nat.pow_succ]; exact Nat.pow_le_pow_right (by decide) (by omega)
  simp (disch := omega) [rem_32, rem2, rem_w, ltT, mulU64_2, addU32_1, keep_cl, trunc, hlt, Nat.pow_succ, -Int.natCast_pow, -Int.natCast_add, -Int.natCast_mul, -Int.natCast_emod]
 ·have hne : i = n % 32 := by omega
  subst hne
  simp (disch := omega) [rem_32, rem2, rem_w, ltF, -Int.natCast_pow, -Int.natCast_emod]
theorem bit1_ok (hG : HasR1 G) (a i : Nat) (ha : a < 4294967296) (hi : i < 32) : FP G 126 [.int .u32 a, .int .u32 i] (.int .u32 ((a.testBit i).toNat : Nat)) := by
 have h0 : 0 < 2 ^ (i % 32) := Nat.two_pow_pos _
 have he : i % 32 = i := Nat.mod_eq_of_lt hi
 have h2 := toNat_bit a i
 have h3 : (a.testBit i).toNat < 2 := by cases a.testBit i <;> simp
 refine FP_of hG.h_hurdleref01_bit (Nat.le_of_ble_eq_true rfl) ?_
 simp [-Int.natCast_pow]
 refine callP_of (power_ok hG i (by omega)) ?_
 simp (disch := omega) [convU64b, quoU64, rem_32, rem2, rem_w, eqF, he, h2, convU32, -Int.natCast_pow, -Int.natCast_ediv, -Int.natCast_emod]
theorem bits_ok (hG : HasR1 G) (a b s0 s1 s2 s3 : Nat) (ha : a < 4294967296) (hb : b < 4294967296) (h0 : s0 ≤ 1) (h1 : s1 ≤ 1) (h2 : s2 ≤ 1) (h3 : s3 ≤ 1) :
  FP G 127 [.int .u32 a, .int .u32 b, .vs (nats .u32 [s0, s1, s2, s3]) .no]
   (.int .u32 (wordOf (fun i => ([s0, s1, s2, s3][2 * (a.testBit i).toNat + (b.testBit i).toNat]?.getD 0) == 1) 32 : Nat)) := by
 refine FP_of hG.h_hurdleref01_bits (Nat.le_of_ble_eq_true rfl) ?_
 simp
 refine W_up 32 (fun i => [(0, .int .u32 a), (1, .int .u32 b), (2, .vs (nats .u32 [s0, s1, s2, s3]) .no), (7, .int .u32 (wordOf (fun i => ([s0, s1, s2, s3][2 * (a.testBit i).toNat + (b.testBit i).toNat]?.getD 0) == 1) i : Nat)), (8, .int .u32 i)])
  (fun _ => []) (fun _ => True) ?_ ?_
 ·simp [keep_cl, trunc, wordOf]
 intro i hi _
 by_cases hlt : i < 32
 case neg =>
  have hne : i = 32 := by omega
  subst hne
  simp
 have hx : (a.testBit i).toNat ≤ 1 := by cases a.testBit i <;> simp
 have hy : (b.testBit i).toNat ≤ 1 := by cases b.testBit i <;> simp
 simp (disch := omega) [ltT, -Int.natCast_add]
 refine callP_of (bit1_ok hG a i ha hlt) ?_
 simp
 refine callP_of (bit1_ok hG b i hb hlt) ?_
 generalize hk : 2 * (a.testBit i).toNat + (b.testBit i).toNat = k
 have hkl : k < [s0, s1, s2, s3].length := by simp; omega
 have hs1 : [s0, s1, s2, s3][k] ≤ 1 := by
  have : [s0, s1, s2, s3][k] ∈ [s0, s1, s2, s3] := List.getElem_mem hkl
  simp only [List.mem_cons, List.not_mem_nil, or_false] at this
  omega
 generalize hsay : [s0, s1, s2, s3] = says at *
 have hu := wordOf_lt (fun i => (says[2 * (a.testBit i).toNat + (b.testBit i).toNat]?.getD 0) == 1) i
 have hp : 2 ^ i ≤ 2 ^ 31 := Nat.pow_le_pow_right (by decide) (by omega)
 have he : i % 32 = i := Nat.mod_eq_of_lt hlt
 have hm : says[k] * 2 ^ i ≤ 1 * 2 ^ i := Nat.mul_le_mul_right _ hs1
 have hstep : wordOf (fun i => (says[2 * (a.testBit i).toNat + (b.testBit i).toNat]?.getD 0) == 1) (i + 1) = wordOf (fun i => (says[2 * (a.testBit i).toNat + (b.testBit i).toNat]?.getD 0) == 1) i + says[k] * 2 ^ i := by
  rw [wordOf]
  simp only [hk, List.getElem?_eq_getElem hkl, Option.getD_some]
  rcases Nat.le_one_iff_eq_zero_or_eq_one.1 hs1 with e | e <;> simp [e]
 simp (disch := omega) [mulU32_2, addU32, hk, conv64, leT, get_in, -Int.natCast_add, -Int.natCast_mul]
 refine callP_of (power_ok hG i (by omega)) ?_
 simp (disch := omega) [he, convU32, mulU32, addU32, addU32_1, keep_cl, trunc, hlt, hstep, -Int.natCast_add, -Int.natCast_mul, -Int.natCast_pow]
theorem bits_word {f : Nat → Bool} {w : Nat} (hw : w < 2 ^ 32) (h : ∀ i, i < 32 → f i = w.testBit i) : wordOf f 32 = w := by
 rw [wordOf_ext h, wordOf_self hw]
theorem DoR_ok (hG : HasR1 G) (kind : Int) (a b : Nat) (ha : a < 4294967296) (hb : b < 4294967296) :
  FP G 122 [.int .i64 kind, .int .u32 a, .int .u32 b] (.tup [.int .u32 ((doW kind a b).1 : Nat), .bool (doW kind a b).2]) := by
 refine FP_of hG.h_hurdleref01_Do (Nat.le_of_ble_eq_true rfl) ?_
 have hp : 2 ^ (b % 32) ≤ 2 ^ 31 := Nat.pow_le_pow_right (by decide) (by omega)
 have hp0 : 0 < 2 ^ (b % 32) := Nat.two_pow_pos _
 simp (disch := omega) [convU64b]
 by_cases h : kind = 4
 ·subst h; simp (disch := omega) [doW, addU64, rem_32, rem2, rem_w, convU32, -Int.natCast_add, -Int.natCast_emod]
 by_cases h : kind = 20
 ·subst h
  have h1 : addI .u64 (a : Int) 4294967296 = ((a + 4294967296 : Nat) : Int) := addU64 (b := 4294967296) (by omega)
  have h2 : subI .u64 ((a + 4294967296 : Nat) : Int) (b : Int) = ((a + 4294967296 - b : Nat) : Int) := by
   unfold subI
   rw [← Int.natCast_sub (by omega)]
   exact wrapU64 (by omega)
  simp (disch := omega) [doW, h1, h2, rem_32, rem2, rem_w, convU32, -Int.natCast_add, -Int.natCast_emod]
 by_cases h : kind = 36
 ·subst h
  have h1 : a * b < 18446744073709551616 := by
   have : a * b ≤ 4294967295 * 4294967295 := Nat.mul_le_mul (by omega) (by omega)
   omega
  simp (disch := omega) [doW, mulU64, rem_32, rem2, rem_w, convU32, -Int.natCast_mul, -Int.natCast_emod]
 by_cases h : kind = 52
 ·subst h
  by_cases hz : b = 0
  ·subst hz; simp [doW]
  ·have h1 : a / b < 4294967296 := Nat.lt_of_le_of_lt (Nat.div_le_self _ _) ha
   simp (disch := omega) [doW, hz, beqF, quoU64, convU32, -Int.natCast_ediv]
 by_cases h : kind = 68
 ·subst h
  simp
  refine callP_of (by simpa [nats] using bits_ok hG a b 0 1 1 1 ha hb (by decide) (by decide) (by decide) (by decide)) ?_
  have : wordOf (fun i => ([0, 1, 1, 1][2 * (a.testBit i).toNat + (b.testBit i).toNat]?.getD 0) == 1) 32 = a ||| b := bits_word (Nat.or_lt_two_pow ha hb) fun i hi => by
   rw [Nat.testBit_or]; cases a.testBit i <;> cases b.testBit i <;> rfl
  simp [doW, this]
 by_cases h : kind = 84
 ·subst h
  simp
  refine callP_of (by simpa [nats] using bits_ok hG a b 0 0 0 1 ha hb (by decide) (by decide) (by decide) (by decide)) ?_
  have : wordOf (fun i => ([0, 0, 0, 1][2 * (a.testBit i).toNat + (b.testBit i).toNat]?.getD 0) == 1) 32 = a &&& b := bits_word (Nat.and_lt_two_pow _ hb) fun i hi => by
   rw [Nat.testBit_and]; cases a.testBit i <;> cases b.testBit i <;> rfl
  simp [doW, this]
 by_cases h : kind = 100
 ·subst h
  simp
  refine callP_of (power_ok hG b hb) ?_
  have h1 : a * 2 ^ (b % 32) < 18446744073709551616 := by
   have : a * 2 ^ (b % 32) ≤ 4294967295 * 2 ^ 31 := Nat.mul_le_mul (by omega) hp
   omega
  simp (disch := omega) [doW, mulU64, rem_32, rem2, rem_w, convU32, -Int.natCast_mul, -Int.natCast_emod, -Int.natCast_pow]
 by_cases h : kind = 116
 ·subst h
  simp
  refine callP_of (power_ok hG b hb) ?_
  have h1 : a / 2 ^ (b % 32) < 4294967296 := Nat.lt_of_le_of_lt (Nat.div_le_self _ _) ha
  simp (disch := omega) [doW, quoU64, convU32, eqF, -Int.natCast_ediv, -Int.natCast_pow]
 by_cases h : kind = 164
 ·subst h
  simp
  refine callP_of (by simpa [nats] using bits_ok hG a b 0 1 1 0 ha hb (by decide) (by decide) (by decide) (by decide)) ?_
  have : wordOf (fun i => ([0, 1, 1, 0][2 * (a.testBit i).toNat + (b.testBit i).toNat]?.getD 0) == 1) 32 = a ^^^ b := bits_word (Nat.xor_lt_two_pow ha hb) fun i hi => by
   rw [Nat.testBit_xor]; cases a.testBit i <;> cases b.testBit i <;> rfl
  simp [doW, this]
 simp (disch := omega) [doW, beqF, *]
theorem NegR_ok [HasR1n G] (a : Nat) (ha : a < 4294967296) : FP G 173 [.int .u32 a] (.int .u32 (negW a : Nat)) := by
 refine FP_of HasR1n.h_hurdleref01_Neg (Nat.le_of_ble_eq_true rfl) ?_
 have c1 := convU64b (b := a) (by omega)
 have s1 : subI .u64 4294967296 (a : Int) = ((4294967296 - a : Nat) : Int) := by unfold subI; rw [show (4294967296 : Int) - (a : Int) = ((4294967296 - a : Nat) : Int) by omega]; exact IntWalk.u64_in _ ⟨by omega, by omega⟩
 have r1 : remI ((4294967296 - a : Nat) : Int) 4294967296 = ((negW a : Nat) : Int) := rem64 (b := 4294967296)
 have c2 : convI .u32 ((negW a : Nat) : Int) = ((negW a : Nat) : Int) := by unfold convI; exact wrap_nat32 (Nat.mod_lt _ (by decide))
 simp [c1, s1, r1, c2]
end Go.Ev
/- States and records; which way a branch goes; the parts of two states. -/
namespace Go.Ev
open Go Go.RowKit
variable {G : Tbl}
set_option maxRecDepth 10000
set_option maxHeartbeats 2000000
set_option linter.unusedSimpArgs false
set_option linter.unusedVariables false
structure St where
 a : Nat
 x : Nat
 m : List Nat
 deriving DecidableEq
def St.cs (s : St) : List V := .int .u32 (s.a : Int) :: .int .u32 (s.x : Int) :: cnats .u32 s.m
def SV (s : St) : V := .agg s.cs
def St.ok (s : St) : Prop := s.a < 4294967296 ∧ s.x < 4294967296 ∧ s.m.length = 16 ∧ ∀ w ∈ s.m, w < 4294967296
structure Da where
 nr : Nat
 arch : Nat
 ip : Nat
 args : List Nat
def Da.cs (d : Da) : List V := .int .u32 (d.nr : Int) :: .int .u32 (d.arch : Int) :: .int .u64 (d.ip : Int) :: cnats .u64 d.args
def DV (d : Da) : V := .agg d.cs
def Da.ok (d : Da) : Prop := d.nr < 4294967296 ∧ d.arch < 4294967296 ∧ d.ip < 18446744073709551616 ∧ d.args.length = 6 ∧ ∀ w ∈ d.args, w < 18446744073709551616
theorem take2 (a b : V) (l : List V) (n : Nat) : (a :: b :: l).take (2 + n) = a :: b :: l.take n := by rw [Nat.add_comm]; rfl
theorem drop2 (a b : V) (l : List V) (n : Nat) : (a :: b :: l).drop (2 + n) = l.drop n := by rw [Nat.add_comm]; rfl
theorem drop1 (a : V) (l : List V) (n : Nat) : (a :: l).drop (2 + n) = l.drop (n + 1) := by rw [show 2 + n = (n + 1) + 1 by omega]; rfl
theorem drop21 (a b : V) (l : List V) (n : Nat) : (a :: b :: l).drop (2 + n + 1) = l.drop (n + 1) := by rw [show 2 + n + 1 = (n + 1) + 2 by omega]; rfl
def takesB (s : St) (x : In4) : Bool :=
 let b := if x.op ∈ [29, 45, 61, 77] then s.x else x.k
 if x.op = 21 ∨ x.op = 29 then decide (s.a = b) else if x.op = 37 ∨ x.op = 45 then decide (b < s.a) else if x.op = 53 ∨ x.op = 61 then decide (b ≤ s.a) else if x.op = 69 ∨ x.op = 77 then decide (s.a &&& b ≠ 0) else false
theorem br_two {op : Int} (h : isBr op = true) : op = 21 ∨ op = 37 ∨ op = 53 ∨ op = 69 ∨ op = 29 ∨ op = 45 ∨ op = 61 ∨ op = 77 := by
 simpa [isBr] using h
theorem takes_none {s : St} {x : In4} (h : isBr x.op = false) : takesB s x = false := by
 have h : ∀ p, isBr p = true → x.op ≠ p := fun p hp e => by rw [e, hp] at h; cases h
 have a1 := h 21 rfl
 have a2 := h 37 rfl
 have a3 := h 53 rfl
 have a4 := h 69 rfl
 have a5 := h 29 rfl
 have a6 := h 45 rfl
 have a7 := h 61 rfl
 have a8 := h 77 rfl
 simp [takesB, a1, a2, a3, a4, a5, a6, a7, a8]
theorem TakesR_ok [HasR2 G] [hR1 : HasR1 G] [HasR6 G] (s : St) (x : In4) (hs : s.ok) (hk : x.k < 4294967296) : FP G 191 [SV s, IV x] (.bool (takesB s x)) := by
 refine FP_of HasR6.h_hurdleref06_Takes (Nat.le_of_ble_eq_true rfl) ?_
 have hbr := BranchR_ok (G := G) x
 simp [SV, IV, In4.cs, St.cs] at hbr ⊢
 refine callP_of hbr ?_
 have ha := hs.1
 have hx := hs.2.1
 have gt : ∀ a b : Nat, ((a : Int) < (b : Int)) = (a < b) := fun a b => propext (by omega)
 have le : ∀ a b : Nat, ((a : Int) ≤ (b : Int)) = (a ≤ b) := fun a b => propext (by omega)
 have pos : ∀ a : Nat, (0 < a) = (a ≠ 0) := fun a => propext (by omega)
 cases hb : isBr x.op
 ·simp [takes_none hb]
 ·have r1 : remI 21 16 = 5 := by decide
  have r2 : remI 37 16 = 5 := by decide
  have r3 : remI 53 16 = 5 := by decide
  have r4 : remI 69 16 = 5 := by decide
  have r5 : remI 29 16 = 13 := by decide
  have r6 : remI 45 16 = 13 := by decide
  have r7 : remI 61 16 = 13 := by decide
  have r8 : remI 77 16 = 13 := by decide
  have s5 : subI .i64 29 8 = 21 := by decide
  have s6 : subI .i64 45 8 = 37 := by decide
  have s7 : subI .i64 61 8 = 53 := by decide
  have s8 : subI .i64 77 8 = 69 := by decide
  rcases br_two hb with h | h | h | h | h | h | h | h
  ·simp [h, r1, takesB, beqI]
  ·simp [h, r2, takesB, beqI, gt]
  ·simp [h, r3, takesB, beqI, le]
  ·simp [h, r4]
   refine callP_of (DoR_ok hR1 84 s.a x.k ha hk) ?_
   simp [doW, takesB, h, pos]
  ·simp [h, r5, s5, takesB, beqI]
  ·simp [h, r6, s6, takesB, beqI, gt]
  ·simp [h, r7, s7, takesB, beqI, le]
  ·simp [h, r8, s8]
   refine callP_of (DoR_ok hR1 84 s.a s.x ha hx) ?_
   simp [doW, takesB, h, pos]
end Go.Ev
/- A record's words, by data. -/
namespace Go.Ev
open Go Go.RowKit
variable {G : Tbl}
set_option maxRecDepth 10000
set_option maxHeartbeats 2000000
set_option linter.unusedSimpArgs false
set_option linter.unusedVariables false
def lo (v : Nat) : Nat := v % 4294967296
def hi (v : Nat) : Nat := v / 4294967296 % 4294967296
def wordsD (d : Da) : List Nat := [d.nr, d.arch, lo d.ip, hi d.ip] ++ d.args.flatMap fun a => [lo a, hi a]
theorem flat2_len (l : List Nat) : (l.flatMap fun a => [lo a, hi a]).length = 2 * l.length := by
 induction l with
 | nil => rfl
 | cons a l ih => simp only [List.flatMap_cons, List.length_append, ih, List.length_cons, List.length_nil]; omega
theorem wordsD_len {d : Da} (h : d.args.length = 6) : (wordsD d).length = 16 := by rw [wordsD, List.length_append, flat2_len, h]; rfl
theorem lo_lt (v : Nat) : lo v < 4294967296 := Nat.mod_lt _ (by decide)
theorem hi_lt (v : Nat) : hi v < 4294967296 := Nat.mod_lt _ (by decide)
theorem wordsD_lt {d : Da} (h : d.ok) : ∀ w ∈ wordsD d, w < 4294967296 := by
 intro w hw
 simp only [wordsD, List.mem_append, List.mem_cons, List.not_mem_nil, or_false, List.mem_flatMap] at hw
 rcases hw with (rfl | rfl | rfl | rfl) | ⟨a, _, rfl | rfl⟩
 ·exact h.1
 ·exact h.2.1
 ·exact lo_lt _
 ·exact hi_lt _
 ·exact lo_lt _
 ·exact hi_lt _
theorem shr_hi (v : Nat) (h : v < 18446744073709551616) : shrI .u64 (v : Int) 32 = ((v / 4294967296 : Nat) : Int) := by
 unfold shrI
 have : (min (32 : Int).toNat IntKind.u64.bits) = 32 := by decide
 rw [this]
 change (v : Int).fdiv 4294967296 = _
 rw [Int.fdiv_eq_ediv_of_nonneg _ (by decide)]
 rfl
def wordS (d : Da) (at' : Nat) : Nat × Bool := if at' % 4 = 0 ∧ at' < 64 then ((wordsD d).getD (at' / 4) 0, true) else (0, false)
end Go.Ev
/- Arguments of the statements: instructions, states, records. -/
namespace Go.Ev
open Go Go.RowKit
set_option linter.unusedSimpArgs false
set_option linter.unusedVariables false
def i64R (n : Int) : Prop := -9223372036854775808 ≤ n ∧ n ≤ 9223372036854775807
def In4.ok (x : In4) : Prop := (i64R x.op ∧ i64R x.jt ∧ i64R x.jf) ∧ x.k < 4294967296
theorem hasty_int {k : IntKind} {cs : List V} (h : HasTy (.int k) cs) : ∃ n, cs = [.int k n] ∧ (Lit.int k n).wf = true := by simpa only [HasTy] using h
theorem u64_wf {n : Int} (h : (Lit.int .u64 n).wf = true) : 0 ≤ n ∧ n < 18446744073709551616 := by
 simp [Lit.wf, IntKind.min, IntKind.max, IntKind.signed, IntKind.bits] at h
 omega
theorem nats_of64 : ∀ {l : List Int}, (∀ n ∈ l, (Lit.int .u64 n).wf = true) → ∃ t : List Nat, l = t.map (fun (x : Nat) => (x : Int)) ∧ ∀ x ∈ t, x < 18446744073709551616
 | [], _ => ⟨[], rfl, by simp⟩
 | n :: l, h => by
  obtain ⟨t, rfl, ht⟩ := nats_of64 (l := l) fun x hx => h x (by simp [hx])
  have := u64_wf (h n (by simp))
  refine ⟨n.toNat :: t, by simp [Int.toNat_of_nonneg this.1], fun x hx => ?_⟩
  simp only [List.mem_cons] at hx
  rcases hx with rfl | hx
  ·omega
  ·exact ht x hx
theorem flat_nats64 : ∀ t : List Nat, (ints .u64 (t.map fun (x : Nat) => (x : Int))).flatten = cnats .u64 t
 | [] => rfl
 | x :: t => by
  have := flat_nats64 t
  simp only [ints, cnats, List.map_cons, List.flatten_cons] at this ⊢
  rw [this]; rfl
theorem arr_cells64 {n : Nat} {cs : List V} (h : HasTy (.arr n (.int .u64)) cs) : ∃ t : List Nat, cs = cnats .u64 t ∧ t.length = n ∧ ∀ x ∈ t, x < 18446744073709551616 := by
 simp only [HasTy] at h
 obtain ⟨es, rfl, hl, he⟩ := h
 obtain ⟨l, rfl, hw⟩ := ints_of (k := .u64) (fun x hx => by simpa only [HasTy] using he x hx)
 obtain ⟨t, rfl, ht⟩ := nats_of64 hw
 exact ⟨t, flat_nats64 t, by simpa using hl, ht⟩
theorem u32_cell {cs : List V} (h : HasTy (.int .u32) cs) : ∃ n : Nat, cs = [.int .u32 (n : Int)] ∧ n < 4294967296 := by
 obtain ⟨n, rfl, hw⟩ := hasty_int h
 have := u32_wf hw
 exact ⟨n.toNat, by rw [Int.toNat_of_nonneg this.1], by omega⟩
theorem u64_cell {cs : List V} (h : HasTy (.int .u64) cs) : ∃ n : Nat, cs = [.int .u64 (n : Int)] ∧ n < 18446744073709551616 := by
 obtain ⟨n, rfl, hw⟩ := hasty_int h
 have := u64_wf hw
 exact ⟨n.toNat, by rw [Int.toNat_of_nonneg this.1], by omega⟩
theorem da_arg {v : V} (h : ArgIs (.agg [.int .u32, .int .u32, .int .u64, .arr 6 (.int .u64)]) v) : ∃ d : Da, v = DV d ∧ d.ok := by
 unfold ArgIs at h
 obtain ⟨cs, rfl, h⟩ := h
 unfold HasTy HasTys at h
 obtain ⟨a, b, rfl, h1, h⟩ := h
 unfold HasTys at h
 obtain ⟨c, d, rfl, h2, h⟩ := h
 unfold HasTys at h
 obtain ⟨c', d', rfl, h2', h⟩ := h
 unfold HasTys at h
 obtain ⟨f, g, rfl, h3, h⟩ := h
 unfold HasTys at h
 subst h
 obtain ⟨n1, rfl, w1⟩ := u32_cell h1
 obtain ⟨n2, rfl, w2⟩ := u32_cell h2
 obtain ⟨n3, rfl, w3⟩ := u64_cell h2'
 obtain ⟨t, rfl, hl, ht⟩ := arr_cells64 h3
 exact ⟨⟨n1, n2, n3, t⟩, by simp [DV, Da.cs], w1, w2, w3, hl, ht⟩
end Go.Ev
/- What an instruction makes of a state: run.Step. -/
namespace Go.Ev
open Go Go.RowKit
variable {G : Tbl}
set_option maxRecDepth 10000
set_option maxHeartbeats 2000000
set_option linter.unusedSimpArgs false
set_option linter.unusedVariables false
def cellS (s : St) (k : Nat) : Nat := if k < 16 then s.m.getD k 0 else 0
def storeS (s : St) (k v : Nat) : St := if k < 16 then { s with m := s.m.set k v } else s
def stepO (s : St) (x : In4) (d : Da) : St :=
 if x.op = 0 then { s with a := x.k } else if x.op = 1 then { s with x := x.k } else if x.op = 32 then { s with a := (wordS d x.k).1 }
 else if x.op = 96 then { s with a := cellS s x.k } else if x.op = 97 then { s with x := cellS s x.k } else if x.op = 2 then storeS s x.k s.a else if x.op = 3 then storeS s x.k s.x
 else if x.op = 7 then { s with x := s.a } else if x.op = 135 then { s with a := s.x } else if x.op = 132 then { s with a := negW s.a } else s
def aluB (s : St) (x : In4) : Nat := if (aluT x.op).2.1 then s.x else x.k
def aluR (s : St) (x : In4) : Nat × Bool := doW (aluT x.op).1 s.a (aluB s x)
def stepS (s : St) (x : In4) (d : Da) : St × Bool :=
 if (aluT x.op).2.2 then (if (aluR s x).2 then { s with a := (aluR s x).1 } else s, (aluR s x).2) else (stepO s x d, true)
theorem storeS_ok' {s : St} (hs : s.ok) {k v : Nat} (hv : v < 4294967296) : (storeS s k v).ok := by
 unfold storeS
 split
 ·refine ⟨hs.1, hs.2.1, by simp [hs.2.2.1], fun w hw => ?_⟩
  rcases List.mem_or_eq_of_mem_set hw with h | h
  ·exact hs.2.2.2 w h
  ·rw [h]; exact hv
 ·exact hs
theorem cellS_lt {s : St} (hs : s.ok) (k : Nat) : cellS s k < 4294967296 := by
 unfold cellS
 split
 ·rename_i h
  rw [List.getD, List.getElem?_eq_getElem (show k < s.m.length by rw [hs.2.2.1]; exact h), Option.getD_some]
  exact hs.2.2.2 _ (List.getElem_mem _)
 ·decide
theorem wordS_lt {d : Da} (hd : d.ok) (k : Nat) : (wordS d k).1 < 4294967296 := by
 unfold wordS
 split
 ·rename_i h
  have hl := wordsD_len hd.2.2.2.1
  simp only [List.getD, List.getElem?_eq_getElem (show k / 4 < (wordsD d).length by omega), Option.getD_some]
  exact wordsD_lt hd _ (List.getElem_mem _)
 ·decide
theorem aluB_lt {s : St} (hs : s.ok) {x : In4} (hk : x.k < 4294967296) : aluB s x < 4294967296 := by
 unfold aluB
 split
 ·exact hs.2.1
 ·exact hk
theorem stepO_ok {s : St} (hs : s.ok) {x : In4} (hk : x.k < 4294967296) {d : Da} (hd : d.ok) : (stepO s x d).ok := by
 obtain ⟨h1, h2, h3, h4⟩ := hs
 have hn : negW s.a < 4294967296 := Nat.mod_lt _ (by decide)
 have hc := cellS_lt ⟨h1, h2, h3, h4⟩ x.k
 have hw := wordS_lt hd x.k
 unfold stepO
 repeat' split
 all_goals first
  | exact ⟨hk, h2, h3, h4⟩
  | exact ⟨h1, hk, h3, h4⟩
  | exact ⟨hw, h2, h3, h4⟩
  | exact ⟨hc, h2, h3, h4⟩
  | exact ⟨h1, hc, h3, h4⟩
  | exact storeS_ok' ⟨h1, h2, h3, h4⟩ h1
  | exact storeS_ok' ⟨h1, h2, h3, h4⟩ h2
  | exact ⟨h1, h1, h3, h4⟩
  | exact ⟨h2, h2, h3, h4⟩
  | exact ⟨hn, h2, h3, h4⟩
  | exact ⟨h1, h2, h3, h4⟩
theorem stepS_ok' {s : St} (hs : s.ok) {x : In4} (hk : x.k < 4294967296) {d : Da} (hd : d.ok) : (stepS s x d).1.ok := by
 unfold stepS
 split
 ·simp only
  split
  ·exact ⟨doW32 _ hs.1 (aluB_lt hs hk), hs.2⟩
  ·exact hs
 ·exact stepO_ok hs hk hd
end Go.Ev
/- Which filters are sound: check. -/
namespace Go.Ev
open Go Go.RowKit
variable {G : Tbl}
set_option maxRecDepth 10000
set_option maxHeartbeats 2000000
set_option linter.unusedSimpArgs false
set_option linter.unusedVariables false
def ruleB (x : In4) : Bool :=
 if x.op = 32 then decide (x.k % 4 = 0 ∧ x.k < 64) else if x.op = 52 then decide (x.k ≠ 0) else if x.op = 2 ∨ x.op = 3 ∨ x.op = 96 ∨ x.op = 97 then decide (x.k < 16) else if x.op = 100 ∨ x.op = 116 then decide (x.k < 32) else true
def oneB (x : In4) (left : Nat) : Bool := rightI x && ruleB x && (if x.op = 5 then decide (x.k < left) else true) && (if isBr x.op then decide (x.jt < left ∧ x.jf < left) else true)
def okAll : List In4 → Bool
 | [] => true
 | x :: f => oneB x f.length && okAll f
def endB (f : List In4) : Bool := match f.getLast? with | some x => isEnd x.op | none => false
def soundF (f : List In4) : Bool := decide (f.length ≤ 4096) && okAll f && endB f
def rents : List (V × V) := [(.int .i64 32, .fn 152 [.ptr 0 0]), (.int .i64 52, .fn 153 [.ptr 0 0]), (.int .i64 2, .fn 150 [.ptr 0 0]), (.int .i64 3, .fn 150 [.ptr 0 0]), (.int .i64 96, .fn 150 [.ptr 0 0]), (.int .i64 97, .fn 150 [.ptr 0 0]),
 (.int .i64 100, .fn 151 [.ptr 0 0]), (.int .i64 116, .fn 151 [.ptr 0 0])]
def waysL (x : In4) (at' : Nat) : List Int := if isEnd x.op then [] else if x.op = 5 then [((at' + 1 + x.k : Nat) : Int)] else if isBr x.op then [(at' : Int) + 1 + min x.jt x.jf, (at' : Int) + 1 + max x.jt x.jf] else [((at' + 1 : Nat) : Int)]
def In4.brOk (x : In4) : Prop := isBr x.op = true → 0 ≤ x.jt ∧ x.jt ≤ 255 ∧ 0 ≤ x.jf ∧ x.jf ≤ 255
theorem right_br {x : In4} (h : rightI x = true) : x.brOk := by
 intro hb
 unfold rightI at h
 split at h
 ·rename_i r hr
  have key : ∀ r ∈ shapeRows, isBr r.1 = r.2.2.2 := by decide
  obtain ⟨h1, h2⟩ := shape_some hr
  have := key r h2
  rw [h1, hb] at this
  simp only [← this, if_true, Bool.and_eq_true, decide_eq_true_eq] at h
  exact h.2
 ·cases h
theorem convI64 (n : Nat) (h : n < 4294967296) : convI .i64 (n : Int) = (n : Int) := by unfold convI; exact IntWalk.i64_in _ ⟨by omega, by omega⟩
theorem ways_ok [HasIns G] [HasCheck G] (x : In4) (at' : Nat) (hx : x.k < 4294967296) (hb : x.brOk) (ha : at' ≤ 5000) : FP G 155 [IV x, .int .i64 at'] (.vs (ints .i64 (waysL x at')) .no) := by
 refine FP_of HasCheck.h_check_ways (Nat.le_of_ble_eq_true rfl) ?_
 have he := Ends_ok (G := G) x
 have hbr := Branch_ok (G := G) x
 have a1 : addI .i64 (at' : Int) 1 = ((at' + 1 : Nat) : Int) := add1' (by omega)
 simp [IV, In4.cs, a1, -Int.natCast_add] at he hbr ⊢
 refine callP_of he ?_
 cases h1 : isEnd x.op
 ·have n6 : isEnd x.op = false := h1
  simp
  by_cases h5 : x.op = 5
  ·have a2 : addI .i64 ((at' + 1 : Nat) : Int) (x.k : Int) = ((at' + 1 + x.k : Nat) : Int) := addN (by omega)
   have a2' : addI .i64 ((at' : Int) + 1) (x.k : Int) = ((at' + 1 + x.k : Nat) : Int) := by rw [← addN (a := at' + 1) (b := x.k) (by omega)]; rfl
   have h15 : isEnd 5 = false := by decide
   simp [h5, h15, convI64 x.k hx, a2, a2', waysL, ints, -Int.natCast_add]
  ·simp [h5, beqF]
   refine callP_of hbr ?_
   cases h2 : isBr x.op
   ·simp [waysL, h1, h5, h2, ints]
   ·obtain ⟨b1, b2, b3, b4⟩ := hb h2
    have mn : (if x.jf < x.jt then x.jf else x.jt) = min x.jt x.jf := by omega
    have mx : (if x.jf > x.jt then x.jf else x.jt) = max x.jt x.jf := by omega
    have a3 : addI .i64 ((at' + 1 : Nat) : Int) (min x.jt x.jf) = (at' : Int) + 1 + min x.jt x.jf := by rw [addI64] <;> omega
    have a4 : addI .i64 ((at' + 1 : Nat) : Int) (max x.jt x.jf) = (at' : Int) + 1 + max x.jt x.jf := by rw [addI64] <;> omega
    have mx' : (if x.jt < x.jf then x.jf else x.jt) = max x.jt x.jf := by omega
    have mn' : (if x.jt > x.jf then x.jf else x.jt) = min x.jt x.jf := by omega
    have mn2 : (if x.jt ≤ x.jf then x.jt else x.jf) = min x.jt x.jf := by omega
    have a5 : addI .i64 ((at' : Int) + 1) (min x.jt x.jf) = (at' : Int) + 1 + min x.jt x.jf := by rw [addI64] <;> omega
    have a6 : addI .i64 ((at' : Int) + 1) (max x.jt x.jf) = (at' : Int) + 1 + max x.jt x.jf := by rw [addI64] <;> omega
    simp [mn, mx, mx', mn', a3, a4, a5, a6, waysL, h1, h5, h2, ints, -Int.natCast_add]
 ·simp [waysL, h1]
end Go.Ev
/- Which filters are sound: check.Check. -/
namespace Go.Ev
open Go Go.RowKit
variable {G : Tbl}
set_option maxRecDepth 10000
set_option maxHeartbeats 2000000
set_option linter.unusedSimpArgs false
set_option linter.unusedVariables false
theorem okAll_drop {f : List In4} {i : Nat} (h : i < f.length) : okAll (f.drop i) = (oneB f[i] (f.length - 1 - i) && okAll (f.drop (i + 1))) := by
 rw [List.drop_eq_getElem_cons h]
 simp only [okAll, List.length_drop]
 congr 2; omega
theorem FL_get {f : List In4} {i : Nat} (h : i < f.length) : (IL f)[i]? = some f[i].cs := by simp [List.getElem?_eq_getElem h]
def Rch (f : List In4) (v : V) : Prop := ∃ i e : Int, v = .tup [.int .i64 i, .int .i64 e] ∧ (e = 0 ↔ soundF f = true)
theorem sound_of {f : List In4} (h0 : f ≠ []) (h1 : f.length ≤ 4096) (h2 : okAll f = true) (h3 : isEnd (f[f.length - 1]'(by have := List.length_pos_iff.2 h0; omega)).op = true) : soundF f = true := by
 have : f.getLast? = some (f[f.length - 1]'(by have := List.length_pos_iff.2 h0; omega)) := by rw [List.getLast?_eq_getElem?]; exact List.getElem?_eq_getElem _
 simp [soundF, endB, h1, h2, this, h3]
theorem unsound_end {f : List In4} (h0 : f ≠ []) (h3 : isEnd (f[f.length - 1]'(by have := List.length_pos_iff.2 h0; omega)).op = false) : soundF f = false := by
 have : f.getLast? = some (f[f.length - 1]'(by have := List.length_pos_iff.2 h0; omega)) := by rw [List.getLast?_eq_getElem?]; exact List.getElem?_eq_getElem _
 simp [soundF, endB, this, h3]
theorem unsound_ok {f : List In4} (h : okAll f = false) : soundF f = false := by simp [soundF, h]
def H2 : Heap := [some (.cells [.fn 149 []]), some (.map rents)]
end Go.Ev
/- Which filters are sound, by hurdleref05. -/
namespace Go.Ev
open Go Go.RowKit
variable {G : Tbl}
set_option maxRecDepth 10000
set_option maxHeartbeats 2000000
set_option linter.unusedSimpArgs false
set_option linter.unusedVariables false
theorem convU64 (n : Nat) (h : n < 18446744073709551616) : convI .u64 (n : Int) = (n : Int) := by unfold convI; exact IntWalk.u64_in _ ⟨by omega, by omega⟩
theorem One_ok [HasR2 G] [HasR5o G] (x : In4) (at' n : Nat) (hx : x.k < 4294967296) (ha : at' < n) (hn : n ≤ maxLen) : ∃ v, FP G 186 [IV x, .int .i64 at', .int .i64 n] v ∧ ∃ e : Int, v = .int .i64 e ∧ (e = 0 ↔ oneB x (n - 1 - at') = true) := by
 refine FPx_of HasR5o.h_hurdleref05_One (Nat.le_of_ble_eq_true rfl) ?_
 have hr := RightR2_ok (G := G) x
 have hbr := BranchR_ok (G := G) x
 have hm : maxLen ≤ 9223372036854775807 := by decide
 have s1 : subI .i64 (n : Int) 1 = ((n - 1 : Nat) : Int) := sub1' (by omega)
 have s2 : subI .i64 ((n - 1 : Nat) : Int) (at' : Int) = ((n - 1 - at' : Nat) : Int) := by rw [subI64] <;> omega
 have hl : n - 1 - at' < 9223372036854775808 := by omega
 generalize n - 1 - at' = left at s2 hl
 obtain ⟨op, jt, jf, k⟩ := x
 have hx : k < 4294967296 := hx
 have r4 : remI (k : Int) 4 = ((k % 4 : Nat) : Int) := rem64 (b := 4)
 have h4 : (((k % 4 : Nat) : Int) = 0) = (k % 4 = 0) := propext (by omega)
 have h60 : (60 < (k : Int)) = (60 < k) := propext (by omega)
 have h15 : (15 < (k : Int)) = (15 < k) := propext (by omega)
 have h31 : (31 < (k : Int)) = (31 < k) := propext (by omega)
 have c1 : convI .u64 (k : Int) = (k : Int) := convU64 k (by omega)
 have c2 : convI .u64 (left : Int) = (left : Int) := convU64 left (by omega)
 have hle : ((left : Int) ≤ (k : Int)) = (left ≤ k) := propext (by omega)
 simp [IV, In4.cs] at hr hbr ⊢
 refine callP_of hr ?_
 cases h1 : rightI ⟨op, jt, jf, k⟩
 ·simp [oneB, h1]
 clear hr
 simp
 by_cases o32 : op = 32
 ·subst o32
  have e1 : isBr 32 = false := by decide
  rw [e1] at hbr
  by_cases hk4 : k % 4 = 0
  ·by_cases hk : 60 < k
   ·simp [r4, h4, hk4, h60, hk, beqI, -Int.natCast_emod, oneB, ruleB]
    intro _ h; omega
   ·have : k < 64 := by omega
    simp [r4, h4, hk4, h60, hk, beqI, s1, s2, -Int.natCast_emod]
    refine callP_of hbr ?_
    simp [oneB, ruleB, h1, hk4, this, e1]
  ·have h40 : (((k % 4 : Nat) : Int) != 0) = true := by simp [-Int.natCast_emod, h4, hk4]
   simp [r4, h40, hk4, h60, beqI, -Int.natCast_emod, oneB, ruleB]
 by_cases o52 : op = 52
 ·subst o52
  have e1 : isBr 52 = false := by decide
  rw [e1] at hbr
  by_cases hk4 : k = 0
  ·simp [hk4, beqI, oneB, ruleB]
  ·have : ((k : Int) = 0) = False := eq_false (by omega)
   simp [this, hk4, beqI, s1, s2]
   refine callP_of hbr ?_
   simp [oneB, ruleB, h1, hk4, e1]
 by_cases oa : op = 2 ∨ op = 3 ∨ op = 96 ∨ op = 97
 ·have e1 : isBr op = false := by rcases oa with rfl | rfl | rfl | rfl <;> decide
  have hru : ruleB ⟨op, jt, jf, k⟩ = decide (k < 16) := by rcases oa with rfl | rfl | rfl | rfl <;> rfl
  have n5 : ¬ op = 5 := by omega
  rw [e1] at hbr
  by_cases hk : 15 < k
  ·have : oneB ⟨op, jt, jf, k⟩ left = false := by simp [oneB, hru]; intro _ h; omega
   rcases oa with rfl | rfl | rfl | rfl <;> simp [h15, hk, beqI, this]
  ·have : oneB ⟨op, jt, jf, k⟩ left = true := by simp [oneB, hru, h1, e1, n5]; omega
   rcases oa with rfl | rfl | rfl | rfl <;> simp [h15, hk, beqI, s1, s2] <;> refine callP_of hbr ?_ <;> simp [this]
 by_cases ob : op = 100 ∨ op = 116
 ·have e1 : isBr op = false := by rcases ob with rfl | rfl <;> decide
  have hru : ruleB ⟨op, jt, jf, k⟩ = decide (k < 32) := by rcases ob with rfl | rfl <;> rfl
  have n5 : ¬ op = 5 := by omega
  rw [e1] at hbr
  by_cases hk : 31 < k
  ·have : oneB ⟨op, jt, jf, k⟩ left = false := by simp [oneB, hru]; intro _ h; omega
   rcases ob with rfl | rfl <;> simp [h31, hk, beqI, this]
  ·have : oneB ⟨op, jt, jf, k⟩ left = true := by simp [oneB, hru, h1, e1, n5]; omega
   rcases ob with rfl | rfl <;> simp [h31, hk, beqI, s1, s2] <;> refine callP_of hbr ?_ <;> simp [this]
 have hru : ruleB ⟨op, jt, jf, k⟩ = true := by simp [ruleB, o32, o52, oa, ob]
 by_cases o5 : op = 5
 ·subst o5
  have e1 : isBr 5 = false := by decide
  rw [e1] at hbr
  by_cases hk : left ≤ k
  ·have : oneB ⟨5, jt, jf, k⟩ left = false := by simp [oneB, hru]; intro _ h; omega
   simp [s1, s2, c1, c2, hle, hk, this]
  ·have : oneB ⟨5, jt, jf, k⟩ left = true := by simp [oneB, hru, h1, e1]; omega
   simp [s1, s2, c1, c2, hle, hk]
   refine callP_of hbr ?_
   simp [this]
 have ne : ∀ o : Int, op ≠ o → (op == o) = false := fun o h => beqF h
 have n2 := ne 2 (by omega)
 have n3 := ne 3 (by omega)
 have n96 := ne 96 (by omega)
 have n97 := ne 97 (by omega)
 have n100 := ne 100 (by omega)
 have n116 := ne 116 (by omega)
 simp [ne 32 o32, ne 52 o52, ne 5 o5, n2, n3, n96, n97, n100, n116, s1, s2]
 refine callP_of hbr ?_
 cases hb : isBr op
 ·simp [oneB, h1, hru, hb, o5]
 ·simp
  by_cases ht : (left : Int) ≤ jt
  ·have : oneB ⟨op, jt, jf, k⟩ left = false := by simp [oneB, hb]; intros; omega
   simp [ht, this]
  ·by_cases hf : (left : Int) ≤ jf
   ·have : oneB ⟨op, jt, jf, k⟩ left = false := by simp [oneB, hb]; intros; omega
    simp [ht, hf, this]
   ·have : oneB ⟨op, jt, jf, k⟩ left = true := by simp [oneB, hb, h1, hru, o5]; omega
    simp [ht, hf, this]
theorem CheckR_ok [HasR2 G] [HasR5 G] (f : List In4) (hf : f.length ≤ maxLen) (hk : ∀ x ∈ f, x.k < 4294967296) : ∃ v, FP G 187 [FL f] v ∧ Rch f v := by
 refine FPx_of HasR5.h_hurdleref05_Check (Nat.le_of_ble_eq_true rfl) ?_
 by_cases h0 : f = []
 ·subst h0
  simp [FL]
  exact ⟨0, 5, rfl, by decide⟩
 have hne : 0 < f.length := List.length_pos_iff.2 h0
 by_cases hbig : f.length > 4096
 ·have hb : ((4096 : Int) < (f.length : Int)) = True := eq_true (by omega)
  have : soundF f = false := by simp [soundF, show ¬ f.length ≤ 4096 by omega]
  simp [FL, h0, hb, beqI]
  exact ⟨0, 3, rfl, by simp [this]⟩
 have hb : ((4096 : Int) < (f.length : Int)) = False := eq_false (by omega)
 simp [FL, h0, hb, beqI]
 refine W_up f.length (fun i => [(0, FL f), (4, .int .i64 i)]) (fun _ => []) (fun i => okAll f = okAll (f.drop i)) ?_ ?_
 ·simp [keep_cl, trunc, FL]
 intro i hi hn
 by_cases hlt : i < f.length
 ·have hx := FL_get hlt
  have hg : f[i] ∈ f := List.getElem_mem hlt
  have hkk := hk _ hg
  have hdr := okAll_drop hlt
  obtain ⟨v, ho, e, rfl, he⟩ := One_ok (G := G) f[i] i f.length hkk hlt hf
  generalize f[i] = x at hx hkk hdr hg ho he
  simp [IV, In4.cs] at ho
  simp (disch := omega) [ltT, FL, hx, In4.cs, hlt, -Int.natCast_add]
  refine callP_of ho ?_
  by_cases h0e : e = 0
  ·have := he.1 h0e
   rw [this, Bool.true_and] at hdr
   have hn2 := hn.trans hdr
   simp (disch := omega) [h0e, hlt, add1', keep_cl, trunc, FL, hn2, -Int.natCast_add]
  ·have hrb : oneB x (f.length - 1 - i) = false := by rw [← Bool.not_eq_true]; exact fun h => h0e (he.2 h)
   rw [hrb] at hdr
   simp [bneT, h0e]
   exact ⟨_, _, rfl, by simp [h0e, unsound_ok (hn.trans hdr)]⟩
 ·have hin : i = f.length := by omega
  subst hin
  have hlt : f.length - 1 < f.length := by omega
  have hx := FL_get hlt
  rw [List.drop_length] at hn
  have hs1 := sound_of h0 (by omega) hn
  have hs2 := unsound_end h0
  generalize f[f.length - 1] = x at hx hs1 hs2
  have he := EndsR_ok (G := G) x
  simp [IV, In4.cs] at he
  have hsub : subI .i64 (f.length : Int) 1 = ((f.length - 1 : Nat) : Int) := sub1' (by have : maxLen ≤ 9223372036854775807 := by decide
                                                                                       omega)
  simp [FL, hsub, hx, In4.cs]
  refine callP_of he ?_
  cases hen : isEnd x.op
  ·simp
   exact ⟨_, 5, rfl, by simp [hs2 hen]⟩
  ·simp
   exact ⟨_, 0, rfl, by simp [hs1 hen]⟩
theorem SoundR_ok [HasR2 G] [HasR5 G] (f : List In4) (hf : f.length ≤ maxLen) (hk : ∀ x ∈ f, x.k < 4294967296) : FP G 188 [FL f] (.bool (soundF f)) := by
 refine FP_of HasR5.h_hurdleref05_Sound (Nat.le_of_ble_eq_true rfl) ?_
 obtain ⟨v, hv, i, e, rfl, he⟩ := CheckR_ok (G := G) f hf hk
 simp
 refine callP_of hv ?_
 have : (e == 0) = soundF f := by rw [Bool.eq_iff_iff, beq_iff_eq]; exact he
 simp [this]
end Go.Ev
/- The words of a record, by hurdleref04. -/
namespace Go.Ev
open Go Go.RowKit
variable {G : Tbl}
set_option maxRecDepth 10000
set_option maxHeartbeats 2000000
set_option linter.unusedSimpArgs false
set_option linter.unusedVariables false
theorem quoU64' {a b : Nat} (ha : a < 18446744073709551616) : quoI .u64 (a : Int) (b : Int) = ((a / b : Nat) : Int) := by
 have h : a / b ≤ a := Nat.div_le_self _ _
 unfold quoI
 have h2 : ((a : Int).tdiv (b : Int)) = ((a / b : Nat) : Int) := rfl
 rw [h2]
 exact IntWalk.u64_in _ ⟨Int.natCast_nonneg _, by rw [Int.ofNat_le.symm] at h; omega⟩
theorem convU8 {a : Nat} (ha : a < 256) : convI .u8 (a : Int) = (a : Int) := by
 unfold convI; exact IntWalk.u8_in _ ⟨by omega, by omega⟩
def lowL (v n : Nat) : List Nat := (List.range n).map fun j => v / 256 ^ j % 256
theorem lowL_succ (v n : Nat) : lowL v (n + 1) = lowL v n ++ [v / 256 ^ n % 256] := by simp [lowL, List.range_succ]
theorem lowL_len (v n : Nat) : (lowL v n).length = n := by simp [lowL]
theorem low_ok [HasR4 G] (v n : Nat) (hv : v < 18446744073709551616) (hn : n ≤ 8) {H : Heap} (hH : HShut H) : Big G (.F 182 [.int .u64 v, .int .i64 n] H (.vs (nats .u8 (lowL v n)) (.own H.length)) (H ++ [some (.zone n)])) := by
 refine F_of HasR4.h_hurdleref04_low (Nat.le_of_ble_eq_true rfl) ?_
 have ht := shut_trunc hH
 simp
 refine W_up n (fun i => [(0, .int .u64 (v / 256 ^ i : Nat)), (1, .int .i64 n), (5, .vs (nats .u8 (lowL v i)) (.own H.length)), (6, .int .i64 i)]) (fun i => H ++ [some (.zone i)]) (fun _ => True) ?_ ?_
 ·simp [keep_cl, lowL, ht]
 intro i hi _
 by_cases hlt : i < n
 ·have hd : v / 256 ^ i < 18446744073709551616 := Nat.lt_of_le_of_lt (Nat.div_le_self _ _) hv
  have hr : remI ((v / 256 ^ i : Nat) : Int) 256 = ((v / 256 ^ i % 256 : Nat) : Int) := rem64 (b := 256)
  have hq : quoI .u64 ((v / 256 ^ i : Nat) : Int) 256 = ((v / 256 ^ (i + 1) : Nat) : Int) := by
   rw [Nat.pow_succ, ← Nat.div_div_eq_div_mul]; exact quoU64' (b := 256) hd
  have hc : convI .u8 ((v / 256 ^ i % 256 : Nat) : Int) = ((v / 256 ^ i % 256 : Nat) : Int) := convU8 (Nat.mod_lt _ (by decide))
  have hll := lowL_len v i
  have hls := lowL_succ v i
  simp (disch := omega) [ltT, hr, hq, hc, hll, hls, leTn, add1', hlt, keep_cl, ht, List.getElem?_append_right, List.set_append_right, -Int.natCast_add, -Int.natCast_ediv, -Int.natCast_emod, -Int.natCast_pow]
 ·have hne : i = n := by omega
  subst hne
  simp [-Int.natCast_ediv]
theorem low_P [HasR4 G] (v n : Nat) (hv : v < 18446744073709551616) (hn : n ≤ 8) : FP G 182 [.int .u64 v, .int .i64 n] (.vs (nats .u8 (lowL v n)) .no) :=
 ⟨_, _, low_ok v n hv hn (H := []) (fun _ _ => rfl), by simp⟩
def num : List Nat → Nat
 | [] => 0
 | b :: l => b + 256 * num l
theorem num_lt : ∀ l : List Nat, (∀ b ∈ l, b < 256) → num l < 256 ^ l.length
 | [], _ => by decide
 | b :: l, h => by
  have h1 := num_lt l fun c hc => h c (by simp [hc])
  have h2 := h b (by simp)
  rw [num, List.length_cons, Nat.pow_succ]; omega
theorem number_ok [HasR4 G] (l : List Nat) (hl : l.length ≤ 7) (hb : ∀ b ∈ l, b < 256) : FP G 183 [.vs (nats .u8 l) .no] (.int .u64 (num l : Nat)) := by
 refine FP_of HasR4.h_hurdleref04_number (Nat.le_of_ble_eq_true rfl) ?_
 have s1 : subI .i64 (l.length : Int) 1 = (l.length : Int) - 1 := by rw [subI64] <;> omega
 simp [s1]
 refine W_up l.length (fun i => [(0, .vs (nats .u8 l) .no), (3, .int .u64 (num (l.drop (l.length - i)) : Nat)), (4, .int .i64 ((l.length : Int) - 1 - i))]) (fun _ => []) (fun _ => True) ?_ ?_
 ·simp [keep_cl, trunc, num]
 intro i hi _
 by_cases hlt : i < l.length
 ·have ht : ∃ t, t = l.length - 1 - i := ⟨_, rfl⟩
  obtain ⟨t, ht⟩ := ht
  have e1 : (l.length : Int) - 1 - i = (t : Int) := by omega
  have e2 : l.length - i = t + 1 := by omega
  have e3 : l.length - (i + 1) = t := by omega
  have htl : t < l.length := by omega
  have hg : l[t]? = some l[t] := List.getElem?_eq_getElem htl
  have hbt := hb l[t] (List.getElem_mem htl)
  have hdr := List.drop_eq_getElem_cons htl
  have h1 := num_lt (l.drop (t + 1)) fun c hc => hb c (List.mem_of_mem_drop hc)
  have h2 : 256 ^ (l.drop (t + 1)).length ≤ 256 ^ 6 := Nat.pow_le_pow_right (by decide) (by rw [List.length_drop]; omega)
  have h2' : (256 : Nat) ^ 6 = 281474976710656 := by decide
  have hs : subI .i64 (t : Int) 1 = (l.length : Int) - 1 - ((i + 1 : Nat) : Int) := by rw [subI64] <;> omega
  generalize l[t] = b at hg hbt hdr
  have hn : num (l.drop t) = b + 256 * num (l.drop (t + 1)) := by rw [hdr]; rfl
  obtain ⟨q, hqq⟩ : ∃ q, q = num (l.drop (t + 1)) := ⟨_, rfl⟩
  rw [← hqq] at h1 hn
  have hm : mulI .u64 (q : Int) 256 = ((q * 256 : Nat) : Int) := by unfold mulI; rw [show (q : Int) * 256 = ((q * 256 : Nat) : Int) by omega]; exact IntWalk.u64_in _ ⟨by omega, by omega⟩
  have ha : addI .u64 ((q * 256 : Nat) : Int) (b : Int) = ((num (l.drop t) : Nat) : Int) := by unfold addI; rw [hn, show ((q * 256 : Nat) : Int) + (b : Int) = ((b + 256 * q : Nat) : Int) by omega]; exact IntWalk.u64_in _ ⟨by omega, by omega⟩
  have hc : convI .u64 (b : Int) = (b : Int) := convU64 b (by omega)
  obtain ⟨_, hgv⟩ := List.getElem?_eq_some_iff.1 hg
  rw [e2, ← hqq]
  simp (disch := omega) [e1, e3, leT, hg, hgv, hc, hm, ha, hs, hlt, keep_cl, trunc, -Int.natCast_add, -Int.natCast_mul]
 ·have hne : i = l.length := by omega
  subst hne
  have hF : ((l.length : Int) ≤ (l.length : Int) - 1) = False := eq_false (by omega)
  simp [hF]
def bytesD (d : Da) (n : Nat) : List Nat := lowL d.nr 4 ++ lowL d.arch 4 ++ lowL d.ip 8 ++ (d.args.take n).flatMap fun a => lowL a 8
theorem low8 (v : Nat) : lowL v 8 = lowL (lo v) 4 ++ lowL (hi v) 4 := by
 simp only [lowL, List.range_succ, List.range_zero, List.nil_append, List.map_append, List.map_cons, List.map_nil, List.cons_append, lo, hi]
 simp only [Nat.reducePow, List.cons.injEq, and_true]
 and_intros <;> omega
theorem low_num (v : Nat) (h : v < 4294967296) : num (lowL v 4) = v := by
 simp only [lowL, List.range_succ, List.range_zero, List.nil_append, List.map_append, List.map_cons, List.map_nil, List.cons_append, num]
 omega
theorem low_lt (v n : Nat) : ∀ b ∈ lowL v n, b < 256 := by
 intro b hb
 simp only [lowL, List.mem_map] at hb
 obtain ⟨j, _, rfl⟩ := hb
 exact Nat.mod_lt _ (by decide)
theorem bytes_len (d : Da) (n : Nat) : (bytesD d n).length = 16 + 8 * (d.args.take n).length := by
 have : ∀ l : List Nat, (l.flatMap fun a => lowL a 8).length = 8 * l.length := by
  intro l
  induction l with
  | nil => rfl
  | cons a l ih => rw [List.flatMap_cons, List.length_append, ih, lowL_len, List.length_cons]; omega
 simp only [bytesD, List.length_append, lowL_len, this]
theorem bytes_words (d : Da) (h1 : d.nr < 4294967296) (h2 : d.arch < 4294967296) (h6 : d.args.length = 6) : bytesD d 6 = ((wordsD d).map fun w => lowL w 4).flatten := by
 have h : ∀ l : List Nat, (l.flatMap fun a => lowL a 8) = ((l.flatMap fun a => [lo a, hi a]).map fun w => lowL w 4).flatten := by
  intro l
  induction l with
  | nil => rfl
  | cons a l ih => simp only [List.flatMap_cons, List.map_append, List.flatten_append, ih, ← low8]; simp [low8, ih]
 rw [bytesD, List.take_of_length_le (by omega), h, low8]
 simp [wordsD]
theorem Bytes_ok [HasR4 G] (d : Da) (hd : d.ok) : FP G 184 [DV d] (.vs (nats .u8 (bytesD d 6)) .no) := by
 refine FP_of HasR4.h_hurdleref04_Bytes (Nat.le_of_ble_eq_true rfl) ?_
 obtain ⟨d1, d2, d3, d4, d5⟩ := hd
 have ht6 := take_full (k := .u64) d4
 have c1 := convU64 d.nr (by omega)
 have c2 := convU64 d.arch (by omega)
 have n1 : ∀ v n : Nat, n ≠ 0 → (nats .u8 (lowL v n) = []) = False := fun v n h => eq_false (by rw [nats_eq_nil]; intro h2; have := lowL_len v n; rw [h2] at this; exact h this.symm)
 simp [DV, Da.cs, c1, c2, d4, ht6]
 refine callK_of (low_ok d.nr 4 (by omega) (by decide) (by intro m _; simp)) (by simp) ?_
 simp [c2]
 refine callP_of (low_P d.arch 4 (by omega) (by decide)) ?_
 simp [lowL_len, n1]
 refine callP_of (low_P d.ip 8 d3 (by decide)) ?_
 simp [lowL_len, n1, nats_append]
 refine W_up 6 (fun i => [(1, .ptr 0 0), (3, .vs (nats .u8 (bytesD d i)) (.own 2)), (4, .int .i64 i)])
  (fun i => [some (.cells (.int .u32 (d.nr : Int) :: .int .u32 (d.arch : Int) :: .int .u64 (d.ip : Int) :: cnats .u64 d.args)), none, some (.zone (16 + 8 * i)), none]) (fun _ => True) ?_ ?_
 ·simp [keep_cl, trunc, bytesD]
 intro i hi _
 by_cases hlt : i < 6
 ·have hg : d.args[i]? = some d.args[i] := List.getElem?_eq_getElem (by omega)
  have hv := d5 _ (List.getElem_mem (show i < d.args.length by omega))
  have hc := cnats_get .u64 d.args i (by omega)
  have hb := bytes_len d i
  have hbs : bytesD d (i + 1) = bytesD d i ++ lowL d.args[i] 8 := by
   unfold bytesD
   rw [List.take_add_one, hg, Option.toList_some, List.flatMap_append, ← List.append_assoc]; simp
  have htl : (d.args.take i).length = i := by rw [List.length_take]; omega
  rw [htl] at hb
  have drop3 : ∀ (a b c : V) (l : List V) (n : Nat), (a :: b :: c :: l).drop (3 + n) = l.drop n := fun a b c l n => by rw [Nat.add_comm]; rfl
  generalize d.args[i] = w at hg hv hc hbs
  simp (disch := omega) [ltT, leTn, drop3, hc, d4, -Int.natCast_add]
  refine callP_of (low_P w 8 hv (by decide)) ?_
  simp (disch := omega) [lowL_len, n1, nats_append, hb, ← hbs, leTn, add1', hlt, keep_cl, trunc, -Int.natCast_add]
  omega
 ·have hne : i = 6 := by omega
  subst hne
  simp
theorem bytes_at {d : Da} (hd : d.ok) {j : Nat} (h : j < 16) : (((bytesD d 6).drop (4 * j)).take 4) = lowL ((wordsD d).getD j 0) 4 := by
 rw [bytes_words d hd.1 hd.2.1 hd.2.2.2.1, Nat.mul_comm]
 have hl := wordsD_len hd.2.2.2.1
 refine flat_at (fun w => lowL w 4) 4 (fun w => lowL_len w 4) (wordsD d) j _ ?_
 rw [List.getD, List.getElem?_eq_getElem (show j < (wordsD d).length by omega)]; rfl
theorem WordR_ok [HasR4 G] (d : Da) (n : Nat) (hd : d.ok) (hn : n < 4294967296) : FP G 185 [DV d, .int .u32 n] (.tup [.int .u32 ((wordS d n).1 : Nat), .bool (wordS d n).2]) := by
 refine FP_of HasR4.h_hurdleref04_Word (Nat.le_of_ble_eq_true rfl) ?_
 have hB := Bytes_ok (G := G) d hd
 have hd' := hd
 obtain ⟨d1, d2, d3, d4, d5⟩ := hd
 have ht6 := take_full (k := .u64) d4
 have r4 : remI (n : Int) 4 = ((n % 4 : Nat) : Int) := rem64 (b := 4)
 have hz : (((n % 4 : Nat) : Int) == 0) = decide (n % 4 = 0) := by rw [Bool.eq_iff_iff]; simp [-Int.natCast_emod]
 have hzn : (((n % 4 : Nat) : Int) != 0) = decide (n % 4 ≠ 0) := by rw [Bool.eq_iff_iff]; simp [-Int.natCast_emod]
 have hc := convI64 n hn
 simp [DV, Da.cs] at hB ⊢
 by_cases h4 : n % 4 = 0
 ·by_cases h64 : n < 64
  ·have hlt : ((64 : Int) ≤ (n : Int)) = False := leF (by omega)
   have hj : 4 * (n / 4) = n := by omega
   have hat := bytes_at hd' (show n / 4 < 16 by omega)
   rw [hj] at hat
   have hlen := bytes_len d 6
   rw [List.take_of_length_le (by omega), d4] at hlen
   have hw : wordS d n = ((wordsD d).getD (n / 4) 0, true) := by simp [wordS, h4, h64]
   have hlt2 := wordS_lt hd' n
   rw [hw] at hlt2 ⊢
   simp only at hlt2
   have hnum := low_num _ hlt2
   have hno := number_ok (G := G) (lowL ((wordsD d).getD (n / 4) 0) 4) (by rw [lowL_len]; decide) (low_lt _ _)
   have ha4 : addI .i64 (n : Int) 4 = ((n + 4 : Nat) : Int) := by rw [addI64] <;> omega
   simp only at hnum hno ⊢
   generalize (wordsD d).getD (n / 4) 0 = w at hat hnum hno hlt2
   have hcv : convI .u32 (w : Int) = (w : Int) := by unfold convI; exact wrap_nat32 hlt2
   simp [r4, hzn, h4, hlt, hc, ht6, d4, -Int.natCast_emod]
   refine callP_of hB ?_
   have hb2 : 0 ≤ (n : Int) ∧ n ≤ n + 4 ∧ n + 4 ≤ (bytesD d 6).length := by omega
   have hF : (((n + 4 : Nat) : Int) ≤ 64) = True := eq_true (by omega)
   simp (disch := omega) [ha4, hlen, hF, leTn, nats_drop, nats_take, hat, -Int.natCast_add]
   refine callP_of hno ?_
   simp [hnum, hcv]
  ·have hlt : ((64 : Int) ≤ (n : Int)) = True := leT (by omega)
   have hw : wordS d n = (0, false) := by simp [wordS, h64]
   rw [hw]
   simp [r4, hzn, h4, hlt, -Int.natCast_emod]
 ·have hw : wordS d n = (0, false) := by simp [wordS, h4]
  rw [hw]
  simp [r4, hzn, h4, -Int.natCast_emod]
end Go.Ev
/- What an instruction makes of a state, by hurdleref06. -/
namespace Go.Ev
open Go Go.RowKit
variable {G : Tbl}
set_option maxRecDepth 10000
set_option maxHeartbeats 2000000
set_option linter.unusedSimpArgs false
set_option linter.unusedVariables false
def stAt (s : St) (x : In4) (i : Nat) : St := if x.k < i ∧ x.k < 16 then (if x.op = 2 then { s with m := s.m.set x.k s.a } else if x.op = 3 then { s with m := s.m.set x.k s.x } else s) else s
def valAt (s : St) (x : In4) (i : Nat) : Nat := if x.k < i ∧ x.k < 16 then s.m.getD x.k 0 else 0
theorem Step6_ok [HasR2 G] [hR1 : HasR1 G] [HasR1n G] [HasR4 G] [HasR6s G] (s : St) (x : In4) (d : Da) (hs : s.ok) (hk : x.k < 4294967296) (hd : d.ok) :
  FP G 190 [SV s, IV x, DV d] (.tup [SV (stepS s x d).1, .bool (stepS s x d).2]) := by
 refine FP_of HasR6s.h_hurdleref06_Step (Nat.le_of_ble_eq_true rfl) ?_
 have hl := hs.2.2.1
 have ht := take_full (k := .u32) hl
 have h6 := hd.2.2.2.1
 have ht6 := take_full (k := .u64) h6
 have ha := AluR_ok (G := G) x
 have hD := DoR_ok hR1 (aluT x.op).1 s.a (aluB s x) hs.1 (aluB_lt hs hk)
 have hW := WordR_ok (G := G) d x.k hd hk
 have hN := NegR_ok (G := G) s.a hs.1
 simp [SV, IV, DV, In4.cs, St.cs, Da.cs] at ha hW ⊢
 refine callP_of ha ?_
 cases hal : (aluT x.op).2.2
 case true =>
  have hst : stepS s x d = (if (aluR s x).2 then { s with a := (aluR s x).1 } else s, (aluR s x).2) := by simp [stepS, hal]
  cases hx : (aluT x.op).2.1
  ·have : aluB s x = x.k := by simp [aluB, hx]
   rw [this] at hD
   simp [hx]
   refine callP_of hD ?_
   cases hg : (doW (aluT x.op).1 s.a x.k).2 <;> simp [hg, hst, aluR, this, hl, ht]
  ·have : aluB s x = s.x := by simp [aluB, hx]
   rw [this] at hD
   simp [hx]
   refine callP_of hD ?_
   cases hg : (doW (aluT x.op).1 s.a s.x).2 <;> simp [hg, hst, aluR, this, hl, ht]
 simp
 refine W_up 16 (fun i => [(3, .ptr 0 0), (4, .ptr 1 0), (5, .ptr 2 0), (6, .ptr 3 0), (14, .int .u32 (valAt s x i : Nat)), (15, .int .i64 i)])
  (fun i => [some (.cells (stAt s x i).cs), some (.cells x.cs), some (.cells d.cs), some (.cells (cnats .u32 (zeros 18)))]) (fun _ => True) ?_ ?_
 ·simp [keep_cl, trunc, stAt, valAt, St.cs, In4.cs, Da.cs]
 intro i hi _
 have hsl : (stAt s x i).m.length = 16 := by unfold stAt; split <;> (try split) <;> (try split) <;> simp [hl]
 by_cases hlt : i < 16
 ·have hcv : convI .u32 (i : Int) = (i : Int) := by unfold convI; exact wrap_nat32 (by omega)
  have i3 : (2 + i + 1 ≤ 16 + 1 + 1) = True := leTn (by omega)
  by_cases hik : i = x.k
  ·have hk16 : x.k < 16 := by omega
   have he : ((i : Int) == (x.k : Int)) = true := by simp [hik]
   have hst0 : stAt s x i = s := by unfold stAt; rw [if_neg (by omega)]
   have hval : valAt s x (i + 1) = s.m[i]'(by omega) := by
    unfold valAt; rw [if_pos (by omega), ← hik, List.getD, List.getElem?_eq_getElem (by omega)]; rfl
   have c := cnats_get .u32 s.m i (by omega)
   have cs1 := cnats_set .u32 s.m i s.a (by omega)
   have cs2 := cnats_set .u32 s.m i s.x (by omega)
   rw [hst0]
   by_cases h2 : x.op = 2
   ·have hst1 : stAt s x (i + 1) = { s with m := s.m.set i s.a } := by unfold stAt; rw [if_pos (by omega), if_pos h2, hik]
    simp (disch := omega) [ltT, hcv, he, St.cs, In4.cs, Da.cs, h2, hlt, hl, drop2, drop1, drop21, take2, c, cs1, i3, leTn, hval, hst1, add1', keep_cl, trunc, show 2 + i ≤ 17 from by omega, -Int.natCast_add]
   ·have n2 : (x.op == 2) = false := beqF h2
    by_cases h3 : x.op = 3
    ·have hst1 : stAt s x (i + 1) = { s with m := s.m.set i s.x } := by unfold stAt; rw [if_pos (by omega), if_neg h2, if_pos h3, hik]
     simp (disch := omega) [ltT, hcv, he, St.cs, In4.cs, Da.cs, h3, hlt, hl, drop2, drop1, drop21, take2, c, cs2, i3, leTn, hval, hst1, add1', keep_cl, trunc, show 2 + i ≤ 17 from by omega, -Int.natCast_add]
    ·have n3 : (x.op == 3) = false := beqF h3
     have hst1 : stAt s x (i + 1) = s := by unfold stAt; rw [if_pos (by omega), if_neg h2, if_neg h3]
     simp (disch := omega) [ltT, hcv, he, St.cs, In4.cs, Da.cs, n2, n3, hlt, hl, drop2, drop1, drop21, take2, c, i3, leTn, hval, hst1, add1', keep_cl, trunc, show 2 + i ≤ 17 from by omega, -Int.natCast_add]
  ·have he : ((i : Int) == (x.k : Int)) = false := beqF (by omega)
   have hst1 : stAt s x (i + 1) = stAt s x i := by
    unfold stAt
    by_cases h : x.k < i ∧ x.k < 16
    ·rw [if_pos h, if_pos (by omega)]
    ·rw [if_neg h, if_neg (by omega)]
   have hval : valAt s x (i + 1) = valAt s x i := by
    unfold valAt
    by_cases h : x.k < i ∧ x.k < 16
    ·rw [if_pos h, if_pos (by omega)]
    ·rw [if_neg h, if_neg (by omega)]
   simp (disch := omega) [ltT, hcv, he, St.cs, In4.cs, Da.cs, hlt, hst1, hval, add1', keep_cl, trunc, -Int.natCast_add]
 ·have hne : i = 16 := by omega
  subst hne
  have hst : stepS s x d = (stepO s x d, true) := by simp [stepS, hal]
  rw [hst]
  have hv : valAt s x 16 = cellS s x.k := by
   unfold valAt cellS
   by_cases h : x.k < 16
   ·rw [if_pos ⟨h, h⟩, if_pos h]
   ·rw [if_neg (by omega), if_neg h]
  have h2 : x.op = 2 → stAt s x 16 = stepO s x d := by
   intro h
   simp only [stAt, stepO, storeS, h]
   by_cases hk : x.k < 16 <;> simp [hk]
  have h3 : x.op = 3 → stAt s x 16 = stepO s x d := by
   intro h
   simp only [stAt, stepO, storeS, h]
   by_cases hk : x.k < 16 <;> simp [hk]
  have h0 : x.op ≠ 2 → x.op ≠ 3 → stAt s x 16 = s := by
   intro a b
   unfold stAt
   simp [a, b]
  have hsl2 := take_full (k := .u32) hsl
  rw [hv]
  simp only [St.cs, In4.cs, Da.cs]
  by_cases e5 : x.op = 2
  ·rw [h2 e5] at hsl hsl2 ⊢
   simp [e5, beqF, hsl, hsl2, -Int.natCast_add]
  by_cases e6 : x.op = 3
  ·rw [h3 e6] at hsl hsl2 ⊢
   simp [e6, beqF, hsl, hsl2, -Int.natCast_add]
  rw [h0 e5 e6]
  clear h0 h2 h3 hsl hsl2
  by_cases e0 : x.op = 0
  ·simp [e0, stepO, hl, ht]
  by_cases e1 : x.op = 1
  ·simp [e1, beqF, stepO, hl, ht]
  by_cases e2 : x.op = 32
  ·simp [e2, beqF, stepO, h6, ht6]
   refine callP_of hW ?_
   simp [hl, ht]
  by_cases e3 : x.op = 96
  ·simp [e3, beqF, stepO, hl, ht]
  by_cases e4 : x.op = 97
  ·simp [e4, beqF, stepO, hl, ht]
  by_cases e7 : x.op = 7
  ·simp [e7, beqF, stepO, hl, ht]
  by_cases e8 : x.op = 135
  ·simp [e8, beqF, stepO, hl, ht]
  by_cases e9 : x.op = 132
  ·simp [e9, beqF, stepO]
   refine callP_of hN ?_
   simp [hl, ht]
  simp [e0, e1, e2, e3, e4, e5, e6, e7, e8, e9, beqF, stepO, hl, ht]
end Go.Ev
/- An instruction changes nothing but what it sets, and hangs on what it needs. -/
namespace Go.Ev
open Go Go.RowKit
variable {G : Tbl}
set_option maxRecDepth 10000
set_option maxHeartbeats 2000000
set_option linter.unusedSimpArgs false
set_option linter.unusedVariables false
def part (s : St) : Nat → Nat
 | 0 => s.a
 | 1 => s.x
 | i + 2 => s.m.getD i 0
end Go.Ev
/- What is needed at each place: live.nexts, live.At, live.Behind. -/
namespace Go.Ev
open Go Go.RowKit
variable {G : Tbl}
set_option maxRecDepth 10000
set_option maxHeartbeats 2000000
set_option linter.unusedSimpArgs false
set_option linter.unusedVariables false
def offs (x : In4) : List Nat := if isEnd x.op then [] else if x.op = 5 then [x.k] else if isBr x.op then [x.jt.toNat, x.jf.toNat] else [0]
theorem okAll_at : ∀ {f : List In4} {i : Nat} {x : In4}, okAll f = true → f[i]? = some x → oneB x (f.length - 1 - i) = true
 | y :: f, 0, x, h, hg => by
  simp only [List.getElem?_cons_zero, Option.some.injEq] at hg
  subst hg
  simp only [okAll, Bool.and_eq_true] at h
  simpa using h.1
 | y :: f, i + 1, x, h, hg => by
  simp only [okAll, Bool.and_eq_true] at h
  have := okAll_at h.2 (by simpa using hg)
  rw [← this]
  congr 1
  simp only [List.length_cons]; omega
theorem sound_at {f : List In4} {i : Nat} {x : In4} (h : soundF f = true) (hg : f[i]? = some x) : oneB x (f.length - 1 - i) = true ∧ (isEnd x.op = false → i + 1 < f.length) ∧ f.length ≤ 4096 := by
 simp only [soundF, Bool.and_eq_true, decide_eq_true_eq] at h
 refine ⟨okAll_at h.1.2 hg, fun he => ?_, h.1.1⟩
 obtain ⟨hi, hx⟩ := List.getElem?_eq_some_iff.1 hg
 by_cases hl : i + 1 < f.length
 ·exact hl
 ·have : i = f.length - 1 := by omega
  have h2 := h.2
  have : f.getLast? = some x := by rw [List.getLast?_eq_getElem?, ← this]; exact hg
  simp only [endB, this] at h2
  rw [h2] at he; cases he
theorem sound_offs {f : List In4} {i : Nat} {x : In4} (h : soundF f = true) (hg : f[i]? = some x) {o : Nat} (ho : o ∈ offs x) : i + 1 + o < f.length := by
 obtain ⟨h1, h2, h3⟩ := sound_at h hg
 simp only [oneB, Bool.and_eq_true] at h1
 unfold offs at ho
 split at ho
 ·cases ho
 rename_i he
 have h2 := h2 (by simpa using he)
 split at ho
 ·rename_i h5
  simp only [List.mem_singleton] at ho
  subst ho
  have := h1.1.2
  rw [if_pos h5, decide_eq_true_eq] at this
  omega
 split at ho
 ·rename_i hb
  have hbr := right_br h1.1.1.1 hb
  have := h1.2
  rw [if_pos hb, decide_eq_true_eq] at this
  simp only [List.mem_cons, List.not_mem_nil, or_false] at ho
  rcases ho with rfl | rfl <;> omega
 ·simp only [List.mem_singleton] at ho
  omega
end Go.Ev
/- The law LiveLast. -/
namespace Go.Ev
open Go Go.RowKit
variable {G : Tbl}
set_option maxRecDepth 10000
set_option maxHeartbeats 2000000
set_option linter.unusedSimpArgs false
set_option linter.unusedVariables false
theorem sound_ne {f : List In4} (h : soundF f = true) : f ≠ [] := by
 rintro rfl; simp [soundF, endB] at h
end Go.Ev
/- What hurdleref07 says is needed. -/
namespace Go.Ev
open Go Go.RowKit
variable {G : Tbl}
set_option maxRecDepth 10000
set_option maxHeartbeats 2000000
set_option linter.unusedSimpArgs false
set_option linter.unusedVariables false
def cb (l : List Bool) : List V := l.map V.bool
@[simp] theorem cb_length (l : List Bool) : (cb l).length = l.length := by simp [cb]
@[simp] theorem cb_cl (n : Nat) (l : List Bool) : clL n (cb l) = cb l := by
 rw [clL_eq_map]; simp [cb, Function.comp_def]
@[simp] theorem cb_pure (l : List Bool) : (cb l).all V.pure = true := by simp [cb]
@[simp high] theorem ev1_mkslb (base : Nat) (e : Env) (H : Heap) (s bytes : Nat) (n : X) : ev1 base e H (.mksl s bytes [.bool false] n) = (match n.ev e with
  | .int _ m => if isFree H (base + s) = true ∧ 0 ≤ m ∧ m.toNat * bytes ≤ 140737488355328 then some (.rs (base + s) 0 m.toNat 1, H.set (base + s) (some (.cells (cb (List.replicate m.toNat false))))) else none
  | _ => none) := by
 have h : ∀ m : Nat, (List.replicate m [V.bool false]).flatten = cb (List.replicate m false) := fun m => by
  induction m with
  | zero => rfl
  | succ m ih => rw [List.replicate_succ, List.flatten_cons, ih]; simp [cb, List.replicate_succ]
 rw [ev1.eq_27]
 cases n.ev e <;> simp only [h, List.length_singleton]
theorem sound_br {f : List In4} {i : Nat} {x : In4} (h : soundF f = true) (hg : f[i]? = some x) : x.brOk := by
 have := (sound_at h hg).1
 simp only [oneB, Bool.and_eq_true] at this
 exact right_br this.1.1.1
end Go.Ev
/- Runs, by hurdleref06; and the law LiveRuns. -/
namespace Go.Ev
open Go Go.RowKit
variable {G : Tbl}
set_option maxRecDepth 10000
set_option maxHeartbeats 2000000
set_option linter.unusedSimpArgs false
set_option linter.unusedVariables false
def goes (s : St) (x : In4) : Nat := if x.op = 5 then x.k else if isBr x.op then (if takesB s x then x.jt.toNat else x.jf.toNat) else 0
def run (d : Da) (g : List In4) (s : St) : Nat × Nat :=
 match g with
 | [] => (0, 0)
 | x :: g => if x.op = 6 then (x.k, 1) else if x.op = 22 then (s.a, 1) else if (stepS s x d).2 then ((run d (g.drop (goes s x)) (stepS s x d).1).1, (run d (g.drop (goes s x)) (stepS s x d).1).2 + 1) else (0, 1)
termination_by g.length
decreasing_by all_goals (simp only [List.length_drop, List.length_cons]; omega)
theorem run_cons (d : Da) (x : In4) (g : List In4) (s : St) : run d (x :: g) s = if x.op = 6 then (x.k, 1) else if x.op = 22 then (s.a, 1) else if (stepS s x d).2 then ((run d (g.drop (goes s x)) (stepS s x d).1).1, (run d (g.drop (goes s x)) (stepS s x d).1).2 + 1) else (0, 1) := by
 rw [run]
theorem goes_offs {x : In4} (h : isEnd x.op = false) (s : St) : goes s x ∈ offs x := by
 unfold goes offs
 rw [h]
 simp only [Bool.false_eq_true, if_false]
 by_cases h5 : x.op = 5
 ·simp [h5]
 ·rw [if_neg h5, if_neg h5]
  split
  ·split <;> simp
  ·simp
theorem run_le (d : Da) : ∀ (n : Nat) (g : List In4) (s : St), g.length ≤ n → (run d g s).2 ≤ g.length
 | _, [], s, _ => by rw [run]; simp
 | 0, x :: g, s, h => by simp at h
 | n + 1, x :: g, s, h => by
  rw [run_cons]
  have := run_le d n (g.drop (goes s x)) (stepS s x d).1 (by simp at h ⊢; omega)
  rw [List.length_drop] at this
  rw [List.length_cons]
  split
  ·simp
  split
  ·simp
  split
  ·simp only; omega
  ·simp
theorem From_ok [HasR2 G] [hR1 : HasR1 G] [HasR1n G] [HasR4 G] [HasR6s G] [HasR6 G] (f : List In4) (d : Da) (hk : ∀ x ∈ f, x.k < 4294967296) (hs : soundF f = true) (hd : d.ok) :
  ∀ (n t : Nat) (s : St), f.length - t ≤ n → t < f.length → s.ok → FP G 192 [FL f, SV s, .int .i64 t, DV d] (.tup [.int .u32 ((run d (f.drop t) s).1 : Nat), .int .i64 ((run d (f.drop t) s).2 : Nat)])
 | 0, t, s, h, ht, _ => by omega
 | n + 1, t, s, h, ht, hso => by
  refine FP_of HasR6.h_hurdleref06_From (Nat.le_of_ble_eq_true rfl) ?_
  have hg : f[t]? = some f[t] := List.getElem?_eq_getElem ht
  have hgg := FL_get ht
  have hxm : f[t] ∈ f := List.getElem_mem ht
  have hdr := List.drop_eq_getElem_cons ht
  obtain ⟨x, hfx⟩ : ∃ x, x = f[t] := ⟨_, rfl⟩
  rw [← hfx] at hg hgg hxm hdr
  have hfx := hfx.symm
  have hkk := hk x hxm
  obtain ⟨o1, o2, hlen⟩ := sound_at hs hg
  have hbo := sound_br hs hg
  have hcs : x.cs = [.int .i64 x.op, .int .i64 x.jt, .int .i64 x.jf, .int .u32 (x.k : Int)] := rfl
  have hbr := BranchR_ok (G := G) x
  have hta := TakesR_ok (G := G) s x hso hkk
  have hst := Step6_ok (G := G) s x d hso hkk hd
  have hl := hso.2.2.1
  have htk := take_full (k := .u32) hl
  have h6 := hd.2.2.2.1
  have ht6 := take_full (k := .u64) h6
  have a1 : addI .i64 (t : Int) 1 = ((t + 1 : Nat) : Int) := add1' (by omega)
  have hc := convI64 x.k hkk
  have hso2 := stepS_ok' hso hkk hd
  have hl2 := hso2.2.2.1
  have htk2 := take_full (k := .u32) hl2
  rw [hdr, run_cons]
  simp [SV, IV, DV, FL, hcs, St.cs, Da.cs] at hbr hta hst ⊢
  by_cases e6 : x.op = 6
  ·simp (disch := omega) [ltT, hgg, hfx, hcs, e6]
  have b6 : (x.op == 6) = false := beqF e6
  by_cases e22 : x.op = 22
  ·simp (disch := omega) [ltT, hgg, hfx, hcs, b6, e6, e22]
  have b22 : (x.op == 22) = false := beqF e22
  have he : isEnd x.op = false := by simp [isEnd, e6, e22]
  have hgo := sound_offs hs hg (goes_offs he s)
  have hrec := From_ok f d hk hs hd n (t + 1 + goes s x) (stepS s x d).1 (by omega) hgo hso2
  have hrl := run_le d _ (f.drop (t + 1 + goes s x)) (stepS s x d).1 (Nat.le_refl _)
  rw [List.length_drop] at hrl
  simp [SV, IV, DV, FL, hcs, St.cs, Da.cs, -Int.natCast_add] at hrec
  rw [show f.drop (t + 1 + goes s x) = (f.drop (t + 1)).drop (goes s x) by rw [List.drop_drop]] at hrec hrl
  have a2 : addI .i64 ((run d ((f.drop (t + 1)).drop (goes s x)) (stepS s x d).1).2 : Int) 1 = (((run d ((f.drop (t + 1)).drop (goes s x)) (stepS s x d).1).2 + 1 : Nat) : Int) := add1' (by omega)
  simp (disch := omega) [ltT, hgg, hfx, hcs, b6, b22, e6, e22, a1, -Int.natCast_add]
  have c1 : ∀ n : Nat, (V.int .u32 (n : Int)).cl 0 = .int .u32 n := fun _ => rfl
  by_cases h5 : x.op = 5
  ·have b5 : (x.op == 5) = true := by simp [h5]
   have hnb : isBr x.op = false := by rw [h5]; decide
   have hgg5 : goes s x = x.k := by simp [goes, h5]
   have a3 : addI .i64 ((t + 1 : Nat) : Int) (x.k : Int) = ((t + 1 + x.k : Nat) : Int) := addN (by omega)
   rw [hnb] at hbr
   rw [hgg5] at hrec a2 ⊢
   simp (disch := omega) [b5, hc, a3, -Int.natCast_add]
   refine callP_of hbr ?_
   simp (disch := omega) [hl, htk, h6, ht6, -Int.natCast_add]
   refine callP_of hst ?_
   cases hok : (stepS s x d).2
   ·simp [hl2, htk2]
   ·simp (disch := omega) [hl2, htk2, h6, ht6, -Int.natCast_add]
    refine callP_of hrec ?_
    rw [List.drop_drop] at a2
    simp [a2, -Int.natCast_add]
  have b5 : (x.op == 5) = false := beqF h5
  simp (disch := omega) [b5, -Int.natCast_add]
  refine callP_of hbr ?_
  cases hb : isBr x.op
  ·have hgg5 : goes s x = 0 := by simp [goes, h5, hb]
   rw [hgg5] at hrec a2 ⊢
   simp (disch := omega) [hl, htk, h6, ht6, -Int.natCast_add]
   refine callP_of hst ?_
   cases hok : (stepS s x d).2
   ·simp [hl2, htk2]
   ·simp (disch := omega) [hl2, htk2, h6, ht6, -Int.natCast_add]
    refine callP_of hrec ?_
    simp at a2 ⊢
    simp [a2]
  obtain ⟨b1, b2, b3, b4⟩ := hbo hb
  simp (disch := omega) [hl, htk, -Int.natCast_add]
  refine callP_of hta ?_
  cases htb : takesB s x
  ·have hgg5 : goes s x = x.jf.toNat := by simp [goes, h5, hb, htb]
   have a3 : addI .i64 ((t + 1 : Nat) : Int) x.jf = ((t + 1 + x.jf.toNat : Nat) : Int) := by rw [addI64] <;> omega
   rw [hgg5] at hrec a2 ⊢
   simp (disch := omega) [hl, htk, h6, ht6, a3, -Int.natCast_add]
   refine callP_of hst ?_
   cases hok : (stepS s x d).2
   ·simp [hl2, htk2]
   ·simp (disch := omega) [hl2, htk2, h6, ht6, -Int.natCast_add]
    refine callP_of hrec ?_
    rw [List.drop_drop] at a2
    simp [a2, -Int.natCast_add]
  ·have hgg5 : goes s x = x.jt.toNat := by simp [goes, h5, hb, htb]
   have a3 : addI .i64 ((t + 1 : Nat) : Int) x.jt = ((t + 1 + x.jt.toNat : Nat) : Int) := by rw [addI64] <;> omega
   rw [hgg5] at hrec a2 ⊢
   simp (disch := omega) [hl, htk, h6, ht6, a3, -Int.natCast_add]
   refine callP_of hst ?_
   cases hok : (stepS s x d).2
   ·simp [hl2, htk2]
   ·simp (disch := omega) [hl2, htk2, h6, ht6, -Int.natCast_add]
    refine callP_of hrec ?_
    rw [List.drop_drop] at a2
    simp [a2, -Int.natCast_add]
end Go.Ev
/- Code put together from behind: labels, branches, a condition's test: plain. -/
namespace Go.Ev
open Go Go.RowKit
set_option maxRecDepth 10000
set_option maxHeartbeats 2000000
set_option linter.unusedSimpArgs false
set_option linter.unusedVariables false
structure Cd where
 arg : Int
 cmp : Int
 mask : Nat
 val : Nat
 deriving DecidableEq
def Cd.ok (c : Cd) : Prop := c.mask < 18446744073709551616 ∧ c.val < 18446744073709551616
def Cd.right (c : Cd) : Bool := decide (0 ≤ c.arg ∧ c.arg ≤ 5 ∧ 0 ≤ c.cmp ∧ c.cmp ≤ 5)
def cmpB (cmp : Int) (a b : Nat) : Bool :=
 if cmp = 0 then decide (a = b) else if cmp = 1 then decide (a ≠ b) else if cmp = 2 then decide (a < b) else if cmp = 3 then decide (a ≤ b) else if cmp = 4 then decide (b < a) else decide (b ≤ a)
def argD (d : Da) (c : Cd) : Nat := d.args.getD c.arg.toNat 0 &&& c.mask
def Cd.holds (c : Cd) (d : Da) : Bool := c.right && cmpB c.cmp (argD d c) c.val
def sfx (c : List In4) (l : Nat) : List In4 := c.drop (c.length - l)
theorem sfx_app {a c : List In4} {l : Nat} (h : l ≤ c.length) : sfx (a ++ c) l = sfx c l := by
 unfold sfx
 rw [List.length_append, show a.length + c.length - l = a.length + (c.length - l) by omega, List.drop_length_add_append]
theorem sfx_all (c : List In4) : sfx c c.length = c := by simp [sfx]
def Grown (c c' : List In4) (n : Nat) : Prop := ∃ a, c' = a ++ c ∧ a.length ≤ n
theorem Grown.refl (c : List In4) : Grown c c 0 := ⟨[], rfl, Nat.le_refl _⟩
theorem Grown.trans {a b c : List In4} {n m : Nat} (h : Grown a b n) (k : Grown b c m) : Grown a c (n + m) := by
 obtain ⟨x, rfl, hx⟩ := h
 obtain ⟨y, rfl, hy⟩ := k
 exact ⟨y ++ x, by rw [List.append_assoc], by rw [List.length_append]; omega⟩
theorem Grown.mono {a b : List In4} {n m : Nat} (h : Grown a b n) (hm : n ≤ m) : Grown a b m := by
 obtain ⟨x, rfl, hx⟩ := h
 exact ⟨x, rfl, by omega⟩
theorem Grown.len {a b : List In4} {n : Nat} (h : Grown a b n) : a.length ≤ b.length ∧ b.length ≤ a.length + n := by
 obtain ⟨x, rfl, hx⟩ := h
 rw [List.length_append]; omega
theorem Grown.sfx {a b : List In4} {n l : Nat} (h : Grown a b n) (hl : l ≤ a.length) : sfx b l = sfx a l := by
 obtain ⟨x, rfl, hx⟩ := h
 exact sfx_app hl
def nearL (c : List In4) (t : Nat) : List In4 := if c.length - t ≤ 254 then c else ⟨5, 0, 0, c.length - t⟩ :: c
def nearT (c : List In4) (t : Nat) : Nat := if c.length - t ≤ 254 then t else c.length + 1
def branchL (c : List In4) (op : Int) (k t f : Nat) : List In4 :=
 ⟨op, ((nearL (nearL c t) f).length - nearT c t : Nat), ((nearL (nearL c t) f).length - nearT (nearL c t) f : Nat), k⟩ :: nearL (nearL c t) f
def putF (c : List In4) (op : Int) (k : Nat) : List In4 := ⟨op, 0, 0, k⟩ :: c
theorem near_grown (c : List In4) (t : Nat) : Grown c (nearL c t) 1 := by
 unfold nearL
 split
 ·exact (Grown.refl c).mono (by omega)
 ·exact ⟨[_], rfl, Nat.le_refl _⟩
theorem near_lab {c : List In4} {t : Nat} (h : 1 ≤ t ∧ t ≤ c.length) : 1 ≤ nearT c t ∧ nearT c t ≤ (nearL c t).length ∧ (nearL c t).length - nearT c t ≤ 254 := by
 unfold nearT nearL
 split
 ·exact ⟨h.1, h.2, by omega⟩
 ·simp only [List.length_cons]; omega
theorem add_grown (c : List In4) (op : Int) (k : Nat) : Grown c (putF c op k) 1 := ⟨[_], rfl, Nat.le_refl _⟩
theorem branch_grown (c : List In4) (op : Int) (k t f : Nat) : Grown c (branchL c op k t f) 3 :=
 ((near_grown c t).trans (near_grown _ f)).trans ⟨[_], rfl, Nat.le_refl _⟩
theorem branch_pos (c : List In4) (op : Int) (k t f : Nat) : c.length < (branchL c op k t f).length := by
 have := ((near_grown c t).trans (near_grown _ f)).len
 simp only [branchL, List.length_cons]; omega
def goOp (op : Int) : Prop := op = 5 ∨ op = 21 ∨ op = 37 ∨ op = 53
theorem step_go {x : In4} (h : goOp x.op) (s : St) (d : Da) : stepS s x d = (s, true) := by
 have e1 : ∀ op : Int, goOp op → aluT op = (0, false, false) := by
  rintro op (rfl | rfl | rfl | rfl) <;> decide
 simp only [stepS, e1 _ h, Bool.false_eq_true, if_false, stepO]
 rcases h with h | h | h | h <;> simp [h]
theorem near_run {d : Da} {c : List In4} {t : Nat} (h : 1 ≤ t ∧ t ≤ c.length) (s : St) : (run d (sfx (nearL c t) (nearT c t)) s).1 = (run d (sfx c t) s).1 := by
 unfold nearL nearT
 split
 ·rfl
 ·have e : sfx (⟨5, 0, 0, c.length - t⟩ :: c) (c.length + 1) = ⟨5, 0, 0, c.length - t⟩ :: c := sfx_all _
  rw [e, run_cons, if_neg (show ¬ (5 : Int) = 6 by decide), if_neg (show ¬ (5 : Int) = 22 by decide), step_go (.inl rfl)]
  simp [goes, sfx]
def brOp (op : Int) : Prop := op = 21 ∨ op = 37 ∨ op = 53
def takeN (op : Int) (a k : Nat) : Bool := if op = 21 then decide (a = k) else if op = 37 then decide (k < a) else decide (k ≤ a)
theorem branch_run {d : Da} {c : List In4} {op : Int} {k t f : Nat} (ho : brOp op) (ht : 1 ≤ t ∧ t ≤ c.length) (hf : 1 ≤ f ∧ f ≤ c.length) (s : St) :
  (run d (branchL c op k t f) s).1 = (run d (sfx c (if takeN op s.a k then t else f)) s).1 := by
 have g1 := near_grown c t
 have g2 := near_grown (nearL c t) f
 have l1 := near_lab ht
 have hf1 : 1 ≤ f ∧ f ≤ (nearL c t).length := ⟨hf.1, by have := g1.len; omega⟩
 have l2 := near_lab hf1
 have r1 := near_run (d := d) ht s
 have r2 := near_run (d := d) hf1 s
 rw [g1.sfx hf.2] at r2
 rw [← g2.sfx l1.2.1] at r1
 have hb : isBr op = true := by rcases ho with rfl | rfl | rfl <;> decide
 have h5 : op ≠ 5 := by rcases ho with rfl | rfl | rfl <;> decide
 have h6 : op ≠ 6 := by rcases ho with rfl | rfl | rfl <;> decide
 have h22 : op ≠ 22 := by rcases ho with rfl | rfl | rfl <;> decide
 unfold branchL
 generalize nearL (nearL c t) f = c2 at *
 generalize nearT c t = t1 at *
 generalize nearT (nearL c t) f = f1 at *
 rw [run_cons, if_neg h6, if_neg h22, step_go (.inr (by rcases ho with rfl | rfl | rfl <;> simp))]
 have ht2 : takesB s ⟨op, ((c2.length - t1 : Nat) : Int), ((c2.length - f1 : Nat) : Int), k⟩ = takeN op s.a k := by
  rcases ho with rfl | rfl | rfl <;> simp [takesB, takeN]
 simp only [if_true, goes, if_neg h5, hb, ht2]
 cases takeN op s.a k
 ·simp only [Bool.false_eq_true, if_false, Int.toNat_natCast]; exact r2
 ·simp only [if_true, Int.toNat_natCast]; exact r1
theorem sound_cons {c : List In4} {x : In4} (h : soundF c = true) (hx : oneB x c.length = true) (hl : c.length < 4096) : soundF (x :: c) = true := by
 simp only [soundF, Bool.and_eq_true, decide_eq_true_eq] at h ⊢
 obtain ⟨⟨h1, h2⟩, h3⟩ := h
 refine ⟨⟨by simp only [List.length_cons]; omega, by simp only [okAll, Bool.and_eq_true]; exact ⟨hx, h2⟩⟩, ?_⟩
 cases c with
 | nil => simp [endB] at h3
 | cons y c => simpa [endB, List.getLast?_cons_cons] using h3
theorem near_sound {c : List In4} {t : Nat} (h : soundF c = true) (ht : 1 ≤ t ∧ t ≤ c.length) (hl : c.length < 4096) : soundF (nearL c t) = true := by
 unfold nearL
 split
 ·exact h
 ·refine sound_cons h ?_ hl
  have hs : shapeOf 5 = some (5, [106, 97], true, false) := by decide
  have hb : isBr 5 = false := by decide
  simp [oneB, rightI, hs, ruleB, hb]; omega
theorem branch_sound {c : List In4} {op : Int} {k t f : Nat} (ho : brOp op) (h : soundF c = true) (ht : 1 ≤ t ∧ t ≤ c.length) (hf : 1 ≤ f ∧ f ≤ c.length) (hl : c.length + 3 ≤ 4096) : soundF (branchL c op k t f) = true := by
 have g1 := (near_grown c t).len
 have g2 := (near_grown (nearL c t) f).len
 have l1 := near_lab ht
 have hf1 : 1 ≤ f ∧ f ≤ (nearL c t).length := ⟨hf.1, by omega⟩
 have l2 := near_lab hf1
 have s1 := near_sound h ht (by omega)
 have s2 := near_sound s1 hf1 (by omega)
 unfold branchL
 generalize nearL (nearL c t) f = c2 at *
 generalize nearT c t = t1 at *
 generalize nearT (nearL c t) f = f1 at *
 refine sound_cons s2 ?_ (by omega)
 have key : ∀ op : Int, brOp op → (shapeOf op).map (fun r => (r.2.2.1, r.2.2.2)) = some (true, true) ∧ isBr op = true ∧ op ≠ 5 ∧ ∀ k, ruleB ⟨op, ((c2.length - t1 : Nat) : Int), ((c2.length - f1 : Nat) : Int), k⟩ = true := by
  rintro op (rfl | rfl | rfl) <;> exact ⟨by decide, by decide, by decide, fun k => by simp [ruleB]⟩
 obtain ⟨k1, k2, k3, k4⟩ := key op ho
 rw [Option.map_eq_some_iff] at k1
 obtain ⟨r, k5, k6⟩ := k1
 simp only [Prod.mk.injEq] at k6
 simp only [oneB, rightI, k5, k6.1, k6.2, k4, k3, k2, if_true, if_false, Bool.true_or, Bool.true_and, Bool.and_true, Bool.and_eq_true, decide_eq_true_eq]
 omega
def addOk (op : Int) (k : Nat) : Prop := op = 84 ∨ op = 6 ∨ op = 32 ∧ k % 4 = 0 ∧ k < 64
theorem add_right {op : Int} {k : Nat} (ho : addOk op k) : rightI ⟨op, 0, 0, k⟩ = true ∧ ruleB ⟨op, 0, 0, k⟩ = true ∧ isBr op = false ∧ op ≠ 5 := by
 rcases ho with rfl | rfl | ⟨rfl, h1, h2⟩
 ·refine ⟨?_, by simp [ruleB], by decide, by decide⟩
  have hs : (shapeOf 84).map (fun r => (r.2.2.1, r.2.2.2)) = some (true, false) := by decide
  rw [Option.map_eq_some_iff] at hs
  obtain ⟨r, k5, k6⟩ := hs
  simp only [Prod.mk.injEq] at k6
  simp [rightI, k5, k6.1, k6.2]
 ·refine ⟨?_, by simp [ruleB], by decide, by decide⟩
  have hs : (shapeOf 6).map (fun r => (r.2.2.1, r.2.2.2)) = some (true, false) := by decide
  rw [Option.map_eq_some_iff] at hs
  obtain ⟨r, k5, k6⟩ := hs
  simp only [Prod.mk.injEq] at k6
  simp [rightI, k5, k6.1, k6.2]
 ·refine ⟨?_, by simp [ruleB, h1, h2], by decide, by decide⟩
  have hs : (shapeOf 32).map (fun r => (r.2.2.1, r.2.2.2)) = some (true, false) := by decide
  rw [Option.map_eq_some_iff] at hs
  obtain ⟨r, k5, k6⟩ := hs
  simp only [Prod.mk.injEq] at k6
  simp [rightI, k5, k6.1, k6.2]
theorem add_sound {c : List In4} {op : Int} {k : Nat} (ho : addOk op k) (h : soundF c = true) (hl : c.length < 4096) : soundF (putF c op k) = true := by
 refine sound_cons h ?_ hl
 obtain ⟨h1, h2, h3, h4⟩ := add_right ho
 simp [oneB, h1, h2, h3, h4]
theorem and_run (d : Da) (c : List In4) (k : Nat) (s : St) : (run d (putF c 84 k) s).1 = (run d c { s with a := s.a &&& k }).1 := by
 have e1 : aluT (84 : Int) = (84, false, true) := by decide
 have e2 : isBr 84 = false := by decide
 have e3 : stepS s ⟨84, 0, 0, k⟩ d = ({ s with a := s.a &&& k }, true) := by simp [stepS, e1, aluR, aluB, doW]
 rw [putF, run_cons, if_neg (show ¬ (84 : Int) = 6 by decide), if_neg (show ¬ (84 : Int) = 22 by decide), e3]
 simp [goes, e2]
theorem ld_run (d : Da) (c : List In4) (k : Nat) (s : St) : (run d (putF c 32 k) s).1 = (run d c { s with a := (wordS d k).1 }).1 := by
 have e1 : aluT (32 : Int) = (0, false, false) := by decide
 have e2 : isBr 32 = false := by decide
 have e3 : stepS s ⟨32, 0, 0, k⟩ d = ({ s with a := (wordS d k).1 }, true) := by simp [stepS, e1, stepO]
 rw [putF, run_cons, if_neg (show ¬ (32 : Int) = 6 by decide), if_neg (show ¬ (32 : Int) = 22 by decide), e3]
 simp [goes, e2]
theorem ret_run (d : Da) (c : List In4) (k : Nat) (s : St) : (run d (putF c 6 k) s).1 = k := by
 rw [putF, run_cons, if_pos rfl]
def Ind (d : Da) (c : List In4) (l v : Nat) : Prop := ∀ s : St, s.ok → (run d (sfx c l) s).1 = v
theorem Ind.grown {d : Da} {a b : List In4} {n l v : Nat} (h : Ind d a l v) (g : Grown a b n) (hl : l ≤ a.length) : Ind d b l v := fun s hs => by rw [g.sfx hl]; exact h s hs
def Dep (d : Da) (c : List In4) (l a v : Nat) : Prop := ∀ s : St, s.ok → s.a = a → (run d (sfx c l) s).1 = v
theorem Dep.grown {d : Da} {a b : List In4} {n l w v : Nat} (h : Dep d a l w v) (g : Grown a b n) (hl : l ≤ a.length) : Dep d b l w v := fun s hs ha => by rw [g.sfx hl]; exact h s hs ha
theorem Ind.dep {d : Da} {c : List In4} {l v : Nat} (h : Ind d c l v) (w : Nat) : Dep d c l w v := fun s hs _ => h s hs
theorem St.ok_a {s : St} (h : s.ok) {a : Nat} (ha : a < 4294967296) : ({ s with a := a } : St).ok := ⟨ha, h.2⟩
def notCmp (n : Int) : Int := if n = 0 then 1 else if n = 1 then 0 else if n = 2 then 5 else if n = 3 then 4 else if n = 4 then 3 else 2
def opCmp (n : Int) : Int := if n = 4 then 37 else if n = 5 then 53 else 21
def test1 (c : List In4) (x : Cd) (t f : Nat) : List In4 := putF (putF (branchL c (opCmp x.cmp) (lo x.val) t f) 84 (lo x.mask)) 32 (16 + 8 * x.arg.toNat)
def test2 (c : List In4) (x : Cd) (t f : Nat) : List In4 := if opCmp x.cmp = 21 then test1 c x t f else branchL (test1 c x t f) 37 (hi x.val) t f
def test0 (c : List In4) (x : Cd) (t f : Nat) : List In4 :=
 putF (putF (branchL (test2 c x t f) 21 (hi x.val) (test1 c x t f).length (if opCmp x.cmp = 21 then f else (test2 c x t f).length)) 84 (hi x.mask)) 32 (20 + 8 * x.arg.toNat)
def flipC (x : Cd) : Bool := decide (x.cmp = 1 ∨ x.cmp = 2 ∨ x.cmp = 3)
def testL (c : List In4) (x : Cd) (t f : Nat) : List In4 := if flipC x then test0 c { x with cmp := notCmp x.cmp } f t else test0 c x t f
theorem op_br (n : Int) : brOp (opCmp n) := by
 unfold opCmp brOp
 split
 ·exact .inr (.inl rfl)
 ·split
  ·exact .inr (.inr rfl)
  ·exact .inl rfl
theorem test1_grown (c : List In4) (x : Cd) (t f : Nat) : Grown c (test1 c x t f) 5 := ((branch_grown c _ _ t f).trans (add_grown _ _ _)).trans (add_grown _ _ _)
theorem test2_grown (c : List In4) (x : Cd) (t f : Nat) : Grown (test1 c x t f) (test2 c x t f) 3 := by
 unfold test2
 split
 ·exact (Grown.refl _).mono (by omega)
 ·exact branch_grown _ _ _ _ _
theorem test0_grown (c : List In4) (x : Cd) (t f : Nat) : Grown c (test0 c x t f) 13 :=
 (((test1_grown c x t f).trans (test2_grown c x t f)).trans (branch_grown _ _ _ _ _)).trans ((add_grown _ _ _).trans (add_grown _ _ _)) |>.mono (by omega)
theorem test_grown (c : List In4) (x : Cd) (t f : Nat) : Grown c (testL c x t f) 13 := by
 unfold testL
 split <;> exact test0_grown _ _ _ _
theorem addr_ok {x : Cd} (h : x.right = true) (b : Nat) (hb : b = 16 ∨ b = 20) : addOk 32 (b + 8 * x.arg.toNat) := by
 simp only [Cd.right, decide_eq_true_eq] at h
 refine .inr (.inr ⟨rfl, ?_, ?_⟩) <;> omega
theorem test0_sound {c : List In4} {x : Cd} {t f : Nat} (h : soundF c = true) (hx : x.right = true) (ht : 1 ≤ t ∧ t ≤ c.length) (hf : 1 ≤ f ∧ f ≤ c.length) (hl : c.length + 13 ≤ 4096) : soundF (test0 c x t f) = true := by
 have g1 := (test1_grown c x t f).len
 have g2 := (test2_grown c x t f).len
 have gb := (branch_grown c (opCmp x.cmp) (lo x.val) t f).len
 have s1 : soundF (test1 c x t f) = true := by
  refine add_sound (addr_ok hx 16 (.inl rfl)) (add_sound (.inl rfl) (branch_sound (op_br _) h ht hf (by omega)) (by omega)) ?_
  simp only [putF, List.length_cons]; omega
 have p1 : 1 ≤ (test1 c x t f).length := by omega
 have s2 : soundF (test2 c x t f) = true := by
  unfold test2
  split
  ·exact s1
  ·exact branch_sound (.inr (.inl rfl)) s1 (by omega) (by omega) (by omega)
 have hf2 : 1 ≤ (if opCmp x.cmp = 21 then f else (test2 c x t f).length) ∧ (if opCmp x.cmp = 21 then f else (test2 c x t f).length) ≤ (test2 c x t f).length := by
  split <;> omega
 have g3 := (branch_grown (test2 c x t f) 21 (hi x.val) (test1 c x t f).length (if opCmp x.cmp = 21 then f else (test2 c x t f).length)).len
 refine add_sound (addr_ok hx 20 (.inr rfl)) (add_sound (.inl rfl) (branch_sound (.inl rfl) s2 (by omega) hf2 (by omega)) (by omega)) ?_
 simp only [putF, List.length_cons]; omega
theorem not_right {x : Cd} (h : x.right = true) : ({ x with cmp := notCmp x.cmp } : Cd).right = true := by
 simp only [Cd.right, decide_eq_true_eq] at h ⊢
 refine ⟨h.1, h.2.1, ?_⟩
 simp only [notCmp]
 repeat' split
 all_goals omega
theorem test_sound {c : List In4} {x : Cd} {t f : Nat} (h : soundF c = true) (hx : x.right = true) (ht : 1 ≤ t ∧ t ≤ c.length) (hf : 1 ≤ f ∧ f ≤ c.length) (hl : c.length + 13 ≤ 4096) : soundF (testL c x t f) = true := by
 unfold testL
 split
 ·exact test0_sound h (not_right hx) hf ht hl
 ·exact test0_sound h hx ht hf hl
theorem word_arg {d : Da} {i : Nat} (hd : d.ok) (h : i ≤ 5) : (wordS d (16 + 8 * i)).1 = lo (d.args.getD i 0) ∧ (wordS d (20 + 8 * i)).1 = hi (d.args.getD i 0) := by
 obtain ⟨_, _, _, hl, _⟩ := hd
 match hda : d.args, hl with
 | [a0, a1, a2, a3, a4, a5], _ =>
  have : i = 0 ∨ i = 1 ∨ i = 2 ∨ i = 3 ∨ i = 4 ∨ i = 5 := by omega
  rcases this with rfl | rfl | rfl | rfl | rfl | rfl <;> simp [wordS, wordsD, hda]
theorem lo_and (a b : Nat) : lo a &&& lo b = (a &&& b) % 4294967296 := by
 unfold lo
 have h := Nat.and_mod_two_pow (a := a) (b := b) (n := 32)
 simpa using h.symm
theorem hi_and {a b : Nat} (ha : a < 18446744073709551616) (hb : b < 18446744073709551616) : hi a &&& hi b = (a &&& b) / 4294967296 := by
 have h := Nat.and_div_two_pow (a := a) (b := b) (n := 32)
 have e1 : hi a = a / 4294967296 := Nat.mod_eq_of_lt (by omega)
 have e2 : hi b = b / 4294967296 := Nat.mod_eq_of_lt (by omega)
 rw [e1, e2]
 simpa using h.symm
theorem cmp_parts {op : Int} {v k : Nat} (hk : k < 18446744073709551616) :
  (op = 21 → decide (v = k) = (decide (v / 4294967296 = hi k) && decide (v % 4294967296 = lo k))) ∧
  (op = 37 → decide (k < v) = (if v / 4294967296 = hi k then decide (lo k < v % 4294967296) else decide (hi k < v / 4294967296))) ∧
  (op = 53 → decide (k ≤ v) = (if v / 4294967296 = hi k then decide (lo k ≤ v % 4294967296) else decide (hi k < v / 4294967296))) := by
 have e2 : hi k = k / 4294967296 := Nat.mod_eq_of_lt (by omega)
 have e1 : lo k = k % 4294967296 := rfl
 rw [e1, e2]
 refine ⟨fun _ => ?_, fun _ => ?_, fun _ => ?_⟩
 ·rw [Bool.eq_iff_iff]; simp only [Bool.and_eq_true, decide_eq_true_eq]; omega
 ·split <;> rw [Bool.eq_iff_iff] <;> simp only [decide_eq_true_eq] <;> omega
 ·split <;> rw [Bool.eq_iff_iff] <;> simp only [decide_eq_true_eq] <;> omega
theorem test0_goes {d : Da} {c : List In4} {x : Cd} {t f : Nat} (hd : d.ok) (hx : x.right = true) (hxo : x.ok) (hc : opCmp x.cmp = 21 → x.cmp = 0) (ht : 1 ≤ t ∧ t ≤ c.length) (hf : 1 ≤ f ∧ f ≤ c.length)
  (s : St) (hs : s.ok) : ∃ s' : St, s'.ok ∧ (run d (test0 c x t f) s).1 = (run d (sfx c (if x.holds d then t else f)) s').1 := by
 have hxr := hx
 simp only [Cd.right, decide_eq_true_eq] at hx
 obtain ⟨w1, w2⟩ := word_arg (i := x.arg.toNat) hd (by omega)
 have hal : d.args.getD x.arg.toNat 0 < 18446744073709551616 := by
  obtain ⟨_, _, _, hl, hw⟩ := hd
  rw [List.getD, List.getElem?_eq_getElem (by omega)]
  exact hw _ (List.getElem_mem _)
 have m1 := lo_and (d.args.getD x.arg.toNat 0) x.mask
 have m2 := hi_and hal hxo.1
 have hv : argD d x < 18446744073709551616 := Nat.lt_of_le_of_lt Nat.and_le_left hal
 rw [show d.args.getD x.arg.toNat 0 &&& x.mask = argD d x from rfl] at m1 m2
 have g1 := (test1_grown c x t f)
 have g2 := (test2_grown c x t f)
 have p1 := g1.len
 have p2 := g2.len
 have q1 : 1 ≤ (test1 c x t f).length := by omega
 -- behind the high word
 have low : ∀ s : St, s.ok → ∃ s' : St, s'.ok ∧ (run d (test1 c x t f) s).1 = (run d (sfx c (if takeN (opCmp x.cmp) (argD d x % 4294967296) (lo x.val) then t else f)) s').1 := by
  intro s hs
  have o1 := lo_lt (d.args.getD x.arg.toNat 0)
  have o2 : argD d x % 4294967296 < 4294967296 := Nat.mod_lt _ (by decide)
  rw [test1, ld_run, and_run, w1]
  simp only [m1]
  rw [branch_run (op_br _) ht hf]
  simp only
  have ok := St.ok_a hs o2
  exact ⟨_, ok, rfl⟩
 have o3 : argD d x / 4294967296 < 4294967296 := by omega
 have ok := St.ok_a hs o3
 have hf2 : 1 ≤ (if opCmp x.cmp = 21 then f else (test2 c x t f).length) ∧ (if opCmp x.cmp = 21 then f else (test2 c x t f).length) ≤ (test2 c x t f).length := by
  split <;> omega
 rw [test0, ld_run, and_run, w2]
 simp only [m2]
 rw [branch_run (.inl rfl) (by omega) hf2]
 simp only [takeN, if_true]
 obtain ⟨c1, c2, c3⟩ := cmp_parts (op := opCmp x.cmp) (v := argD d x) hxo.2
 by_cases he : argD d x / 4294967296 = hi x.val
 ·obtain ⟨s1, ok1, e1⟩ := low _ ok
  rw [if_pos (by simpa using he), g2.sfx (Nat.le_refl _), sfx_all, e1]
  refine ⟨s1, ok1, ?_⟩
  suffices hb : takeN (opCmp x.cmp) (argD d x % 4294967296) (lo x.val) = x.holds d by rw [hb]
  simp only [Cd.holds, hxr, Bool.true_and, takeN]
  by_cases k4 : x.cmp = 4
  ·have e : opCmp x.cmp = 37 := by rw [k4]; rfl
   have := c2 e
   rw [if_pos he] at this
   simp only [e, k4, cmpB]
   rw [this]; simp [opCmp]
  ·by_cases k5 : x.cmp = 5
   ·have e : opCmp x.cmp = 53 := by rw [k5]; rfl
    have := c3 e
    rw [if_pos he] at this
    simp only [e, k5, cmpB]
    rw [this]; simp [opCmp]
   ·have e : opCmp x.cmp = 21 := by simp [opCmp, k4, k5]
    have k0 := hc e
    have := c1 e
    simp only [e, k0, cmpB]
    rw [this]; simp [he, opCmp]
 ·rw [if_neg (by simpa using he)]
  by_cases e : opCmp x.cmp = 21
  ·have k0 := hc e
   have := c1 e
   have hh : x.holds d = false := by
    simp only [Cd.holds, hxr, Bool.true_and, k0, cmpB, if_true]
    rw [this]; simp [he]
   rw [if_pos e, hh, g2.sfx (by omega), g1.sfx hf.2]
   exact ⟨_, ok, rfl⟩
  ·have t2 : test2 c x t f = branchL (test1 c x t f) 37 (hi x.val) t f := by rw [test2, if_neg e]
   rw [if_neg e, sfx_all, t2, branch_run (.inr (.inl rfl)) (by omega) (by omega)]
   have hh : x.holds d = decide (hi x.val < argD d x / 4294967296) := by
    simp only [Cd.holds, hxr, Bool.true_and]
    by_cases k4 : x.cmp = 4
    ·have := c2 (by rw [k4]; rfl)
     rw [if_neg he] at this
     simp only [k4, cmpB]
     rw [← this]; simp
    ·have k5 : x.cmp = 5 := by
      apply Classical.byContradiction
      intro k5
      exact e (by simp [opCmp, k4, k5])
     have := c3 (by rw [k5]; rfl)
     rw [if_neg he] at this
     simp only [k5, cmpB]
     rw [← this]; simp
   rw [hh]
   simp only [takeN, show ((37 : Int) = 21) = False by simp, if_false, if_true]
   cases decide (hi x.val < argD d x / 4294967296)
   ·simp only [Bool.false_eq_true, if_false]; rw [g1.sfx hf.2]; exact ⟨_, ok, rfl⟩
   ·simp only [if_true]; rw [g1.sfx ht.2]; exact ⟨_, ok, rfl⟩
theorem test_goes {d : Da} {c : List In4} {x : Cd} {t f : Nat} (hd : d.ok) (hx : x.right = true) (hxo : x.ok) (ht : 1 ≤ t ∧ t ≤ c.length) (hf : 1 ≤ f ∧ f ≤ c.length)
  (s : St) (hs : s.ok) : ∃ s' : St, s'.ok ∧ (run d (testL c x t f) s).1 = (run d (sfx c (if x.holds d then t else f)) s').1 := by
 have hx' := hx
 simp only [Cd.right, decide_eq_true_eq] at hx'
 by_cases hfl : flipC x = true
 ·rw [testL, if_pos hfl]
  have hfl' := hfl
  simp only [flipC, decide_eq_true_eq] at hfl'
  have := test0_goes (x := { x with cmp := notCmp x.cmp }) hd (not_right hx) hxo (fun h => by
   rcases hfl' with h' | h' | h' <;> simp only [h', notCmp, opCmp] at h ⊢ <;> simp at h ⊢) hf ht s hs
  have hh : ({ x with cmp := notCmp x.cmp } : Cd).holds d = !x.holds d := by
   have hn := not_right hx
   simp only [Cd.holds, hx, hn, Bool.true_and]
   have ha : argD d { x with cmp := notCmp x.cmp } = argD d x := rfl
   rw [ha]
   rcases hfl' with h' | h' | h' <;> simp [h', notCmp, cmpB]
   ·rw [Bool.eq_iff_iff]; simp
   ·rw [Bool.eq_iff_iff]; simp
  rw [hh] at this
  cases hb : x.holds d <;> rw [hb] at this <;> simpa using this
 ·rw [testL, if_neg hfl]
  have hfl' := hfl
  simp only [flipC, decide_eq_true_eq] at hfl'
  refine test0_goes hd hx hxo (fun h => ?_) ht hf s hs
  have : x.cmp = 0 ∨ x.cmp = 4 ∨ x.cmp = 5 := by omega
  rcases this with h' | h' | h'
  ·exact h'
  ·rw [h'] at h; simp [opCmp] at h
  ·rw [h'] at h; simp [opCmp] at h
theorem test_ind {d : Da} {c : List In4} {x : Cd} {t f vt vf : Nat} (hd : d.ok) (hx : x.right = true) (hxo : x.ok) (ht : 1 ≤ t ∧ t ≤ c.length) (hf : 1 ≤ f ∧ f ≤ c.length)
  (h1 : Ind d c t vt) (h2 : Ind d c f vf) : Ind d (testL c x t f) (testL c x t f).length (if x.holds d then vt else vf) := by
 intro s hs
 rw [sfx_all]
 obtain ⟨s', ok, e⟩ := test_goes (f := f) hd hx hxo ht hf s hs
 rw [e]
 cases x.holds d
 ·exact h2 _ ok
 ·exact h1 _ ok
end Go.Ev
/- A nil book: the law SymNil. -/
namespace Go.Ev
open Go Go.RowKit
variable {G : Tbl}
set_option maxRecDepth 10000
set_option maxHeartbeats 4000000
set_option linter.unusedSimpArgs false
set_option linter.unusedVariables false
theorem HShut.self {H : Heap} (h : HShut H) : trunc H.length H = H := by
 have := shut_trunc h [] 0
 simpa using this
theorem HShut.back {H : Heap} (h : HShut H) (r : Heap) : trunc H.length (H ++ r) = H := by
 have := shut_trunc h r 0
 simpa using this
theorem HShut.app {H : Heap} (h : HShut H) {r : Heap} (hr : ∀ n, r.map (Option.map (Blk.cl n)) = r) : HShut (H ++ r) := by
 intro m hm
 rw [List.map_append, hr, h m (by rw [List.length_append] at hm; omega)]
theorem HShut.nil : HShut [] := fun _ _ => rfl
structure Nd where
 kind : Nat
 f : List Nat
 n : Nat
 vars : List Nat
 tab : List Nat
 op : Int
 x : Nat
 y : Nat
 deriving DecidableEq
def Nd.cs (a : Nd) : List V := .int .i64 (a.kind : Int) :: (cnats .u32 a.f ++ .int .i64 (a.n : Int) :: (cnats .i64 a.vars ++ (cnats .u32 a.tab ++ [.int .i64 a.op, .int .i64 (a.x : Int), .int .i64 (a.y : Int)])))
def Nd0 : Nd := ⟨0, zeros 35, 0, zeros 4, zeros 16, 0, 0, 0⟩
theorem nz : (V.int .i64 0 :: (cnats .u32 (zeros 35) ++ V.int .i64 0 :: V.int .i64 0 :: V.int .i64 0 :: V.int .i64 0 :: V.int .i64 0 :: (cnats .u32 (zeros 16) ++ [V.int .i64 0, V.int .i64 0, V.int .i64 0]))) = Nd0.cs := rfl
def Nd.ok (a : Nd) : Prop := a.f.length = 35 ∧ a.vars.length = 4 ∧ a.tab.length = 16
theorem Nd.len {a : Nd} (h : a.ok) : a.cs.length = 60 := by simp [Nd.cs, h.1, h.2.1, h.2.2]
end Go.Ev
