/- What the functions of ins, and those of hurdleref02, compute. -/
import Derived.Test.YtdomogpjchpbnaaEvInsC
import Derived.Test.YtdomogpjchpbnaaEvRefC
import Derived.Test.YtdomogpjchpbnaaEvT
import Derived.Test.YtdomogpjchpbnaaEvX
namespace Go.Ev
open Go Go.RowKit
variable {G : Tbl}
set_option maxRecDepth 10000
set_option maxHeartbeats 2000000
set_option linter.unusedSimpArgs false
set_option linter.unusedVariables false

/-- An instruction. -/
structure In4 where
  op : Int
  jt : Int
  jf : Int
  k : Nat
  deriving DecidableEq
/-- Its cells. -/
def In4.cs (x : In4) : List V := [.int .i64 x.op, .int .i64 x.jt, .int .i64 x.jf, .int .u32 (x.k : Int)]
def IV (x : In4) : V := .agg x.cs
/-- Those of many. -/
def IL (l : List In4) : List (List V) := l.map In4.cs
def FL (l : List In4) : V := .vs (IL l) .no
@[simp] theorem IL_length (l : List In4) : (IL l).length = l.length := by simp [IL]
@[simp] theorem IL_get (l : List In4) (i : Nat) : (IL l)[i]? = (l[i]?).map In4.cs := by simp [IL]
@[simp] theorem IL_nil : IL [] = [] := rfl
theorem IL_eq_nil (l : List In4) : IL l = [] ↔ l = [] := by simp [IL]
theorem IL_append (l m : List In4) : IL l ++ IL m = IL (l ++ m) := by simp [IL]
@[simp] theorem IL_snoc (l : List In4) (x : In4) : IL l ++ [x.cs] = IL (l ++ [x]) := by simp [IL]
@[simp] theorem IL_sz (l : List In4) : (∀ f ∈ IL l, f.length = 4) = True := by
  simp only [eq_iff_iff, iff_true]
  intro f hf
  simp only [IL, List.mem_map] at hf
  obtain ⟨x, _, rfl⟩ := hf
  rfl
@[simp] theorem cs_length (x : In4) : x.cs.length = 4 := rfl

abbrev Row4 := Int × List UInt8 × Bool × Bool
def rowCs (r : Row4) : List V := [.int .i64 r.1, .str r.2.1, .bool r.2.2.1, .bool r.2.2.2]
def shapeOf (op : Int) : Option Row4 := shapeRows.find? fun r => r.1 == op
theorem flat_at {α β : Type} (g : α → List β) (k : Nat) (hk : ∀ a, (g a).length = k) : ∀ (l : List α) (n : Nat) (a : α), l[n]? = some a → (((l.map g).flatten).drop (n * k)).take k = g a
  | [], n, a, h => by simp at h
  | b :: l, 0, a, h => by
    simp at h; subst h
    simp [List.take_append_of_le_length, hk]
  | b :: l, n + 1, a, h => by
    simp only [List.getElem?_cons_succ] at h
    rw [List.map_cons, List.flatten_cons, Nat.add_mul, Nat.one_mul, Nat.add_comm, ← hk b, List.drop_length_add_append]
    have := flat_at g k hk l n a h
    rw [hk b]
    exact this
theorem shapes_at {n : Nat} {r : Row4} (h : shapeRows[n]? = some r) : (g_ins_shapes.drop (n * 4)).take 4 = rowCs r := flat_at (fun r : Row4 => rowCs r) 4 (fun _ => rfl) shapeRows n r h
theorem shapes_len : g_ins_shapes.length = 156 := by decide
theorem shapes_take : g_ins_shapes.take 156 = g_ins_shapes := by rw [List.take_of_length_le]; rw [shapes_len]; exact Nat.le_refl _
theorem shapes_cl (n : Nat) : clL n g_ins_shapes = g_ins_shapes := by
  rw [clL_eq_map]
  simp [g_ins_shapes, List.map_flatten, Function.comp_def, V.cl]

def ofV (op : Int) : V := match shapeOf op with
  | some r => .tup [.agg (rowCs r), .bool true]
  | none => .tup [.agg [.int .i64 0, .str [], .bool false, .bool false], .bool false]
theorem find_none {α : Type} {p : α → Bool} {l : List α} (h : ∀ (n : Nat) (a : α), l[n]? = some a → p a = false) : l.find? p = none := by
  rw [List.find?_eq_none]
  intro a ha
  obtain ⟨n, hn⟩ := List.getElem?_of_mem ha
  simp [h n a hn]
theorem find_at {α : Type} {p : α → Bool} : ∀ {l : List α} {n : Nat} {a : α}, l[n]? = some a → p a = true → (∀ (m : Nat) (b : α), m < n → l[m]? = some b → p b = false) → l.find? p = some a
  | [], n, a, h, _, _ => by simp at h
  | b :: l, 0, a, h, hp, _ => by simp at h; subst h; simp [hp]
  | b :: l, n + 1, a, h, hp, hn => by
    rw [List.find?_cons]
    rw [hn 0 b (by omega) rfl]
    exact find_at (by simpa using h) hp fun m c hm hc => hn (m + 1) c (by omega) (by simpa using hc)

def NoRow (op : Int) (n : Nat) : Prop := ∀ (m : Nat) (b : Row4), m < n → shapeRows[m]? = some b → (b.1 == op) = false
theorem of_ok [HasIns G] (op : Int) : FP G 139 [.int .i64 op] (ofV op) := by
  refine FP_of HasIns.h_ins_of (Nat.le_of_ble_eq_true rfl) ?_
  simp [shapes_len, shapes_take]
  refine W_up 39 (fun n => [(0, .int .i64 op), (2, .ptr 0 0), (6, .agg g_ins_shapes), (7, .int .i64 n)]) (fun _ => [some (.cells [.int .i64 0, .str [], .bool false, .bool false])])
    (fun n => NoRow op n) ?_ ?_
  · simp [keep_cl, trunc, shapes_cl]
    intro m b hm; omega
  intro n hn hall
  by_cases hlt : n < 39
  · obtain ⟨r, hr⟩ : ∃ r, shapeRows[n]? = some r := ⟨_, List.getElem?_eq_getElem (show n < shapeRows.length from hlt)⟩
    have hs := shapes_at hr
    by_cases he : r.1 = op
    · have : shapeOf op = some r := find_at hr (by simpa using he) hall
      simp (disch := omega) [ltT, leTn, shapes_len, hs, rowCs, he, this, ofV, -Int.natCast_add]
    · have hall' : NoRow op (n + 1) := fun m b hm hb => by
        by_cases hmn : m = n
        · subst hmn; rw [hr] at hb; cases hb; simpa using he
        · exact hall m b (by omega) hb
      simp (disch := omega) [ltT, leTn, shapes_len, hs, rowCs, beqF, he, add1', hlt, keep_cl, trunc, shapes_cl, hall', -Int.natCast_add]
  · have hne : n = 39 := by omega
    subst hne
    have : shapeOf op = none := find_none fun m b hb => hall m b (by have := (List.getElem?_eq_some_iff.1 hb).1; exact this) hb
    simp [this, ofV]

theorem shape_some {op : Int} {r : Row4} (h : shapeOf op = some r) : r.1 = op ∧ r ∈ shapeRows := by
  have h1 := List.find?_some h
  exact ⟨by simpa using h1, List.mem_of_find?_eq_some h⟩
theorem shape_row {r : Row4} (h : r ∈ shapeRows) : shapeOf r.1 = some r := by
  revert r
  decide
theorem shape_none {op : Int} (h : shapeOf op = none) : ∀ r ∈ shapeRows, r.1 ≠ op := fun r hr => by
  have := List.find?_eq_none.1 h r hr
  simpa using this

/-- What arithmetic an operation is: its kind; is it by X; is it one? -/
def aluT (op : Int) : Int × Bool × Bool :=
  if op ∈ [4, 20, 36, 52, 68, 84, 100, 116, 164] then (op, false, true) else if op ∈ [12, 28, 44, 60, 76, 92, 108, 124, 172] then (op - 8, true, true) else (0, false, false)
def isBr (op : Int) : Bool := decide (op ∈ [21, 37, 53, 69, 29, 45, 61, 77])
def isEnd (op : Int) : Bool := decide (op = 6 ∨ op = 22)
theorem alu_none {op : Int} (h : shapeOf op = none) : aluT op = (0, false, false) := by
  have h1 : ∀ p ∈ [4, 20, 36, 52, 68, 84, 100, 116, 164, 12, 28, 44, 60, 76, 92, 108, 124, 172], ∃ r ∈ shapeRows, r.1 = p := by decide
  unfold aluT
  rw [if_neg, if_neg]
  · intro hm
    obtain ⟨r, hr, he⟩ := h1 op (by simp only [List.mem_cons, List.not_mem_nil, or_false] at hm ⊢; omega)
    exact shape_none h r hr he
  · intro hm
    obtain ⟨r, hr, he⟩ := h1 op (by simp only [List.mem_cons, List.not_mem_nil, or_false] at hm ⊢; omega)
    exact shape_none h r hr he
theorem br_none {op : Int} (h : shapeOf op = none) : isBr op = false := by
  have h1 : ∀ p ∈ [21, 37, 53, 69, 29, 45, 61, 77], ∃ r ∈ shapeRows, r.1 = p := by decide
  simp only [isBr, decide_eq_false_iff_not]
  intro hm
  obtain ⟨r, hr, he⟩ := h1 op hm
  exact shape_none h r hr he

theorem Ends_ok [HasIns G] (x : In4) : FP G 143 [IV x] (.bool (isEnd x.op)) := by
  refine FP_of HasIns.h_ins_Ends (Nat.le_of_ble_eq_true rfl) ?_
  simp [IV, In4.cs]
  by_cases h : x.op = 6
  · simp [h, isEnd]
  · by_cases h2 : x.op = 22 <;> simp [h, h2, beqF, isEnd]
theorem Branch_ok [HasIns G] (x : In4) : FP G 142 [IV x] (.bool (isBr x.op)) := by
  refine FP_of HasIns.h_ins_Branch (Nat.le_of_ble_eq_true rfl) ?_
  simp [IV, In4.cs]
  refine callP_of (of_ok x.op) ?_
  unfold ofV
  cases h : shapeOf x.op with
  | none => simp [br_none h]
  | some r =>
    obtain ⟨he, hr⟩ := shape_some h
    have key : ∀ r ∈ shapeRows, (decide (andI .i64 r.1 7 = 5) && decide (r.1 ≠ 5)) = isBr r.1 := by decide
    have key := key r hr
    rw [he] at key
    by_cases h1 : andI .i64 x.op 7 = 5
    · by_cases h2 : x.op = 5
      · simp [h1, h2] at key; simp [rowCs, h1, h2]; rw [h2] at h1; simp [h1]; exact key
      · simp [h1, h2] at key; simp [rowCs, h1, h2, bneT, key]
    · simp [h1] at key; simp [rowCs, h1, beqF, key]

theorem Alu_ok [HasIns G] (x : In4) : FP G 141 [IV x] (.tup [.int .i64 (aluT x.op).1, .bool (aluT x.op).2.1, .bool (aluT x.op).2.2]) := by
  refine FP_of HasIns.h_ins_Alu (Nat.le_of_ble_eq_true rfl) ?_
  simp [IV, In4.cs]
  refine callP_of (of_ok x.op) ?_
  unfold ofV
  cases h : shapeOf x.op with
  | none => simp [alu_none h]
  | some r =>
    obtain ⟨he, hr⟩ := shape_some h
    have key : ∀ r ∈ shapeRows, aluT r.1 = if andI .i64 r.1 7 ≠ 4 ∨ r.1 = 132 then (0, false, false) else (andnI .i64 r.1 8, decide (andI .i64 r.1 8 > 0), true) := by decide
    have key := key r hr
    rw [he] at key
    by_cases h1 : andI .i64 x.op 7 = 4
    · by_cases h2 : x.op = 132
      · have h3 : andI .i64 132 7 = 4 := by decide
        rw [if_pos (.inr h2)] at key; simp [rowCs, h2, h3, bneF, beqT, h2 ▸ key]
      · rw [if_neg (by simp [h1, h2])] at key; simp [rowCs, h1, h2, bneF, beqF, key]
    · rw [if_pos (.inl h1)] at key; simp [rowCs, h1, bneT, key]

/-- Is an instruction right? -/
def rightI (x : In4) : Bool := match shapeOf x.op with
  | some r => (r.2.2.1 || decide (x.k = 0)) && (if r.2.2.2 then decide (0 ≤ x.jt ∧ x.jt ≤ 255 ∧ 0 ≤ x.jf ∧ x.jf ≤ 255) else decide (x.jt = 0 ∧ x.jf = 0))
  | none => false
theorem RightI_ok [HasIns G] (x : In4) : FP G 140 [IV x] (.bool (rightI x)) := by
  refine FP_of HasIns.h_ins_Right (Nat.le_of_ble_eq_true rfl) ?_
  simp [IV, In4.cs]
  refine callP_of (of_ok x.op) ?_
  unfold ofV rightI
  cases h : shapeOf x.op with
  | none => simp
  | some r =>
    obtain ⟨op, w, has, ways⟩ := r
    have ways_ok : ∀ {H : Heap}, True := trivial
    cases has
    · by_cases hk : x.k = 0
      · cases ways
        · by_cases h1 : x.jt = 0
          · by_cases h2 : x.jf = 0 <;> simp [rowCs, hk, h1, h2, beqF]
          · simp [rowCs, hk, h1, beqF]
        · by_cases h1 : 0 ≤ x.jt
          · by_cases h2 : x.jt ≤ 255
            · by_cases h3 : 0 ≤ x.jf
              · by_cases h4 : x.jf ≤ 255 <;> simp [rowCs, hk, h1, h2, h3, h4]
              · simp [rowCs, hk, h1, h2, h3]
            · simp [rowCs, hk, h1, h2]
          · simp [rowCs, hk, h1]
      · have hk' : ((x.k : Int) != 0) = true := bneT (by omega)
        simp [rowCs, hk, hk']
    · cases ways
      · by_cases h1 : x.jt = 0
        · by_cases h2 : x.jf = 0 <;> simp [rowCs, h1, h2, beqF]
        · simp [rowCs, h1, beqF]
      · by_cases h1 : 0 ≤ x.jt
        · by_cases h2 : x.jt ≤ 255
          · by_cases h3 : 0 ≤ x.jf
            · by_cases h4 : x.jf ≤ 255 <;> simp [rowCs, h1, h2, h3, h4]
            · simp [rowCs, h1, h2, h3]
          · simp [rowCs, h1, h2]
        · simp [rowCs, h1]

/- hurdleref02. -/
def ops39 : List Int := shapeRows.map (·.1)
theorem Ops_ok [HasR2 G] : FP G 177 [] (.vs (ints .i64 ops39) .no) := by
  refine FP_of HasR2.h_hurdleref02_Ops (Nat.le_of_ble_eq_true rfl) ?_
  simp [ints, ops39, shapeRows]
theorem place_ok [HasR2 G] (op : Int) : ∃ p : Int, FP G 176 [.int .i64 op] (.int .i64 p) ∧
    ((∃ (n : Nat) (r : Row4), p = n ∧ shapeRows[n]? = some r ∧ shapeOf op = some r) ∨ p = -1 ∧ shapeOf op = none) := by
  have main : ∀ p : Int, ((∃ (n : Nat) (r : Row4), p = n ∧ shapeRows[n]? = some r ∧ shapeOf op = some r) ∨ p = -1 ∧ shapeOf op = none) → FP G 176 [.int .i64 op] (.int .i64 p) := by
    intro p hp
    refine FP_of HasR2.h_hurdleref02_place (Nat.le_of_ble_eq_true rfl) ?_
    simp
    refine callP_of Ops_ok ?_
    simp
    refine W_up 39 (fun n => [(0, .int .i64 op), (3, .vs (ints .i64 ops39) .no), (4, .int .i64 n)]) (fun _ => []) (fun n => NoRow op n) ?_ ?_
    · simp [keep_cl, trunc]
      intro m b hm; omega
    intro n hn hall
    have hl : ops39.length = 39 := rfl
    by_cases hlt : n < 39
    · obtain ⟨r, hr⟩ : ∃ r, shapeRows[n]? = some r := ⟨_, List.getElem?_eq_getElem (show n < shapeRows.length from hlt)⟩
      have ho : ops39[n]? = some r.1 := by simp [ops39, hr]
      obtain ⟨_, hg⟩ := List.getElem?_eq_some_iff.1 ho
      by_cases he : r.1 = op
      · have hs : shapeOf op = some r := find_at hr (by simpa using he) hall
        have : p = n := by
          rcases hp with ⟨n', r', rfl, h1, h2⟩ | ⟨_, h2⟩
          · rw [hs] at h2; cases h2
            have h3 : shapeRows.length = 39 := rfl
            have h4 : ∀ i j : Fin 39, shapeRows[i.1]? = shapeRows[j.1]? → i = j := by decide
            have hn' : n' < 39 := by have := (List.getElem?_eq_some_iff.1 h1).1; omega
            have := h4 ⟨n', hn'⟩ ⟨n, hlt⟩ (by rw [h1, hr])
            simp at this; rw [this]
          · rw [hs] at h2; cases h2
        simp (disch := omega) [ltT, ho, hg, he, hl, this, -Int.natCast_add]
      · have hall' : NoRow op (n + 1) := fun m b hm hb => by
          by_cases hmn : m = n
          · subst hmn; rw [hr] at hb; cases hb; simpa using he
          · exact hall m b (by omega) hb
        simp (disch := omega) [ltT, ho, hg, beqF, he, hl, add1', hlt, keep_cl, trunc, hall', -Int.natCast_add]
    · have hne : n = 39 := by omega
      subst hne
      have hs : shapeOf op = none := find_none fun m b hb => hall m b (by have := (List.getElem?_eq_some_iff.1 hb).1; exact this) hb
      have : p = -1 := by
        rcases hp with ⟨n', r', rfl, h1, h2⟩ | ⟨h1, _⟩
        · rw [hs] at h2; cases h2
        · exact h1
      simp [hl, this]
  cases h : shapeOf op with
  | none => exact ⟨-1, main _ (.inr ⟨rfl, h⟩), .inr ⟨rfl, rfl⟩⟩
  | some r =>
    obtain ⟨he, hr⟩ := shape_some h
    obtain ⟨n, hn⟩ := List.getElem?_of_mem hr
    exact ⟨n, main _ (.inl ⟨n, r, rfl, hn, h⟩), .inl ⟨n, r, rfl, hn, rfl⟩⟩

def plainB (i : Int) : Bool := decide (13 ≤ i ∧ i ≤ 24 ∨ i = 30 ∨ 35 ≤ i)
theorem plain_okR [HasR2 G] (i : Int) : FP G 175 [.int .i64 i] (.bool (plainB i)) := by
  refine FP_of HasR2.h_hurdleref02_plain (Nat.le_of_ble_eq_true rfl) ?_
  unfold plainB
  by_cases h1 : 13 ≤ i
  · by_cases h2 : i ≤ 24
    · simp [h1, h2]
    · by_cases h3 : i = 30
      · simp [h1, h2, h3]
      · by_cases h4 : 35 ≤ i <;> simp [h1, h2, h3, h4, beqF]
  · simp [h1, show ¬ 35 ≤ i from by omega, show ¬ i = 30 from by omega, beqF]
theorem branch_okR [HasR2 G] (i : Int) : FP G 174 [.int .i64 i] (.bool (decide (31 ≤ i))) := by
  refine FP_of HasR2.h_hurdleref02_branch (Nat.le_of_ble_eq_true rfl) ?_
  simp
theorem BranchR_ok [HasR2 G] (x : In4) : FP G 180 [IV x] (.bool (isBr x.op)) := by
  obtain ⟨p, hp, hc⟩ := place_ok (G := G) x.op
  refine FP_of HasR2.h_hurdleref02_Branch (Nat.le_of_ble_eq_true rfl) ?_
  simp [IV, In4.cs]
  refine callP_of hp ?_
  simp
  refine callP_of (branch_okR p) ?_
  have : decide (31 ≤ p) = isBr x.op := by
    rcases hc with ⟨n, r, rfl, h1, h2⟩ | ⟨rfl, h2⟩
    · have key : ∀ i : Fin 39, ∀ r, shapeRows[i.1]? = some r → decide (31 ≤ (i.1 : Int)) = isBr r.1 := by decide
      have hn : n < 39 := by have := (List.getElem?_eq_some_iff.1 h1).1; exact this
      have := key ⟨n, hn⟩ r h1
      rw [(shape_some h2).1] at this
      exact this
    · rw [br_none h2]; rfl
  simp [this]
theorem AluR_ok [HasR2 G] (x : In4) : FP G 179 [IV x] (.tup [.int .i64 (aluT x.op).1, .bool (aluT x.op).2.1, .bool (aluT x.op).2.2]) := by
  obtain ⟨p, hp, hc⟩ := place_ok (G := G) x.op
  refine FP_of HasR2.h_hurdleref02_Alu (Nat.le_of_ble_eq_true rfl) ?_
  simp [IV, In4.cs]
  refine callP_of hp ?_
  have key : aluT x.op = if 4 ≤ p ∧ p ≤ 12 then (x.op, false, true) else if 13 ≤ p ∧ p ≤ 21 then (subI .i64 x.op 8, true, true) else (0, false, false) := by
    rcases hc with ⟨n, r, rfl, h1, h2⟩ | ⟨rfl, h2⟩
    · have key : ∀ i : Fin 39, ∀ r, shapeRows[i.1]? = some r → aluT r.1 = if 4 ≤ (i.1 : Int) ∧ (i.1 : Int) ≤ 12 then (r.1, false, true) else if 13 ≤ (i.1 : Int) ∧ (i.1 : Int) ≤ 21 then (subI .i64 r.1 8, true, true) else (0, false, false) := by decide
      have hn : n < 39 := by have := (List.getElem?_eq_some_iff.1 h1).1; exact this
      have := key ⟨n, hn⟩ r h1
      rw [(shape_some h2).1] at this
      exact this
    · rw [alu_none h2]; rfl
  by_cases a1 : 4 ≤ p
  · by_cases a2 : p ≤ 12
    · rw [if_pos ⟨a1, a2⟩] at key
      simp [a1, a2, key]
    · rw [if_neg (by omega)] at key
      by_cases a3 : 13 ≤ p
      · by_cases a4 : p ≤ 21
        · rw [if_pos ⟨a3, a4⟩] at key
          simp [a1, a2, a3, a4, key]
        · rw [if_neg (by omega)] at key
          simp [a1, a2, a3, a4, key]
      · omega
  · rw [if_neg (by omega), if_neg (by omega)] at key
    simp [a1, show ¬ 13 ≤ p from by omega, key]
theorem EndsR_ok [HasR2 G] (x : In4) : FP G 181 [IV x] (.bool (isEnd x.op)) := by
  refine FP_of HasR2.h_hurdleref02_Ends (Nat.le_of_ble_eq_true rfl) ?_
  simp [IV, In4.cs]
  by_cases h : x.op = 6
  · simp [h, isEnd]
  · by_cases h2 : x.op = 22 <;> simp [h, h2, beqF, isEnd]
theorem RightR2_ok [HasR2 G] (x : In4) : FP G 178 [IV x] (.bool (rightI x)) := by
  obtain ⟨p, hp, hc⟩ := place_ok (G := G) x.op
  refine FP_of HasR2.h_hurdleref02_Right (Nat.le_of_ble_eq_true rfl) ?_
  simp [IV, In4.cs]
  refine callP_of hp ?_
  rcases hc with ⟨n, r, rfl, h1, h2⟩ | ⟨rfl, h2⟩
  case inr => simp [rightI, h2]
  have key : ∀ i : Fin 39, ∀ r, shapeRows[i.1]? = some r → plainB (i.1 : Int) = !r.2.2.1 ∧ decide (31 ≤ (i.1 : Int)) = r.2.2.2 := by decide
  have hn : n < 39 := by have := (List.getElem?_eq_some_iff.1 h1).1; exact this
  obtain ⟨k1, k2⟩ := key ⟨n, hn⟩ r h1
  simp only at k1 k2
  simp (disch := omega) [ltF]
  refine callP_of (plain_okR n) ?_
  unfold rightI
  rw [h2, k1]
  obtain ⟨op, w, has, ways⟩ := r
  simp only at k2 ⊢
  have lt256 : ∀ j : Int, (j < 256) = (j ≤ 255) := fun j => propext (by omega)
  have tail : ∀ b : Bool, b = true → True := fun _ _ => trivial
  cases has
  · by_cases hk : x.k = 0
    · simp [hk]
      refine callP_of (branch_okR n) ?_
      rw [k2]
      cases ways
      · by_cases h1 : x.jt = 0
        · by_cases h2 : x.jf = 0 <;> simp [h1, h2, beqF]
        · simp [h1, beqF]
      · by_cases h1 : 0 ≤ x.jt
        · by_cases h2 : x.jt ≤ 255
          · by_cases h3 : 0 ≤ x.jf
            · by_cases h4 : x.jf ≤ 255 <;> simp [lt256, h1, h2, h3, h4]
            · simp [lt256, h1, h2, h3]
          · simp [lt256, h1, h2]
        · simp [lt256, h1]
    · have hk' : ((x.k : Int) != 0) = true := bneT (by omega)
      simp [hk, hk']
  · simp
    refine callP_of (branch_okR n) ?_
    rw [k2]
    cases ways
    · by_cases h1 : x.jt = 0
      · by_cases h2 : x.jf = 0 <;> simp [h1, h2, beqF]
      · simp [h1, beqF]
    · by_cases h1 : 0 ≤ x.jt
      · by_cases h2 : x.jt ≤ 255
        · by_cases h3 : 0 ≤ x.jf
          · by_cases h4 : x.jf ≤ 255 <;> simp [lt256, h1, h2, h3, h4]
          · simp [lt256, h1, h2, h3]
        · simp [lt256, h1, h2]
      · simp [lt256, h1]

end Go.Ev
