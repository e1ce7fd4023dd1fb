/- What the functions of ins, and those of hurdleref02, compute. -/
import Derived.Test.YtnkcdbffakcekaaDoorEvNW
import Derived.Test.YtnkcdbffakcekaaDoorEvLowCW
import Derived.Test.YtnkcdbffakcekaaDoorEvX
import Derived.Test.YtnkcdbffakcekaaDoorEvQW
set_option linter.unusedVariables false
set_option linter.unusedSimpArgs false
namespace Go.Ev
open Go Go.RowKit
variable {G : Tbl}
set_option maxRecDepth 10000
set_option maxHeartbeats 2000000
set_option linter.unusedSimpArgs false
set_option linter.unusedVariables false
structure In4 where
 op : Int
 jt : Int
 jf : Int
 k : Nat
 deriving DecidableEq
def In4.cs (x : In4) : List V := [.int .i64 x.op, .int .i64 x.jt, .int .i64 x.jf, .int .u32 (x.k : Int)]
def IV (x : In4) : V := .agg x.cs
def IL (l : List In4) : List (List V) := l.map In4.cs
def FL (l : List In4) : V := .vs (IL l) .no
@[simp] theorem IL_length (l : List In4) : (IL l).length = l.length := by simp [IL]
@[simp] theorem IL_get (l : List In4) (i : Nat) : (IL l)[i]? = (l[i]?).map In4.cs := by simp [IL]
@[simp] theorem IL_nil : IL [] = [] := rfl
theorem IL_eq_nil (l : List In4) : IL l = [] ↔ l = [] := by simp [IL]
theorem IL_append (l m : List In4) : IL l ++ IL m = IL (l ++ m) := by simp [IL]
@[simp] theorem IL_snoc (l : List In4) (x : In4) : IL l ++ [x.cs] = IL (l ++ [x]) := by simp [IL]
@[simp] theorem IL_sz (l : List In4) : (∀ f ∈ IL l, f.length = 4) = True := by
 simp only [eq_iff_iff, iff_true]
 intro f hf
 simp only [IL, List.mem_map] at hf
 obtain ⟨x, _, rfl⟩ := hf
 rfl
@[simp] theorem cs_length (x : In4) : x.cs.length = 4 := rfl
abbrev Row4 := Int × List UInt8 × Bool × Bool
def rowCs (r : Row4) : List V := [.int .i64 r.1, .str r.2.1, .bool r.2.2.1, .bool r.2.2.2]
def shapeOf (op : Int) : Option Row4 := shapeRows.find? fun r => r.1 == op
theorem flat_at {α β : Type} (g : α → List β) (k : Nat) (hk : ∀ a, (g a).length = k) : ∀ (l : List α) (n : Nat) (a : α), l[n]? = some a → (((l.map g).flatten).drop (n * k)).take k = g a
 | [], n, a, h => by simp at h
 | b :: l, 0, a, h => by
  simp at h; subst h
  simp [List.take_append_of_le_length, hk]
 | b :: l, n + 1, a, h => by
  simp only [List.getElem?_cons_succ] at h
  rw [List.map_cons, List.flatten_cons, Nat.add_mul, Nat.one_mul, Nat.add_comm, ← hk b, List.drop_length_add_append]
  have := flat_at g k hk l n a h
  rw [hk b]
  exact this
theorem shapes_at {n : Nat} {r : Row4} (h : shapeRows[n]? = some r) : (g_ins_shapes.drop (n * 4)).take 4 = rowCs r := flat_at (fun r : Row4 => rowCs r) 4 (fun _ => rfl) shapeRows n r h
theorem shapes_len : g_ins_shapes.length = 156 := by decide
theorem shapes_take : g_ins_shapes.take 156 = g_ins_shapes := by rw [List.take_of_length_le]; rw [shapes_len]; exact Nat.le_refl _
theorem shapes_cl (n : Nat) : clL n g_ins_shapes = g_ins_shapes := by
 rw [clL_eq_map]
 simp [g_ins_shapes, List.map_flatten, Function.comp_def, V.cl]
def ofV (op : Int) : V := match shapeOf op with
 | some r => .tup [.agg (rowCs r), .bool true]
 | none => .tup [.agg [.int .i64 0, .str [], .bool false, .bool false], .bool false]
theorem find_none {α : Type} {p : α → Bool} {l : List α} (h : ∀ (n : Nat) (a : α), l[n]? = some a → p a = false) : l.find? p = none := by
 rw [List.find?_eq_none]
 intro a ha
 obtain ⟨n, hn⟩ := List.getElem?_of_mem ha
 simp [h n a hn]
theorem find_at {α : Type} {p : α → Bool} : ∀ {l : List α} {n : Nat} {a : α}, l[n]? = some a → p a = true → (∀ (m : Nat) (b : α), m < n → l[m]? = some b → p b = false) → l.find? p = some a
 | [], n, a, h, _, _ => by simp at h
 | b :: l, 0, a, h, hp, _ => by simp at h; subst h; simp [hp]
 | b :: l, n + 1, a, h, hp, hn => by
  rw [List.find?_cons]
  rw [hn 0 b (by omega) rfl]
  exact find_at (by simpa using h) hp fun m c hm hc => hn (m + 1) c (by omega) (by simpa using hc)
def NoRow (op : Int) (n : Nat) : Prop := ∀ (m : Nat) (b : Row4), m < n → shapeRows[m]? = some b → (b.1 == op) = false
theorem of_ok [HasIns G] (op : Int) : FP G 139 [.int .i64 op] (ofV op) := by
 refine FP_of HasIns.h_ins_of (Nat.le_of_ble_eq_true rfl) ?_
 simp [shapes_len, shapes_take]
 refine W_up 39 (fun n => [(0, .int .i64 op), (2, .ptr 0 0), (6, .agg g_ins_shapes), (7, .int .i64 n)]) (fun _ => [some (.cells [.int .i64 0, .str [], .bool false, .bool false])])
  (fun n => NoRow op n) ?_ ?_
 ·simp [keep_cl, trunc, shapes_cl]
  intro m b hm; omega
 intro n hn hall
 by_cases hlt : n < 39
 ·obtain ⟨r, hr⟩ : ∃ r, shapeRows[n]? = some r := ⟨_, List.getElem?_eq_getElem (show n < shapeRows.length from hlt)⟩
  have hs := shapes_at hr
  by_cases he : r.1 = op
  ·have : shapeOf op = some r := find_at hr (by simpa using he) hall
   simp (disch := omega) [ltT, leTn, shapes_len, hs, rowCs, he, this, ofV, -Int.natCast_add]
  ·have hall' : NoRow op (n + 1) := fun m b hm hb => by
    by_cases hmn : m = n
    ·subst hmn; rw [hr] at hb; cases hb; simpa using he
    ·exact hall m b (by omega) hb
   simp (disch := omega) [ltT, leTn, shapes_len, hs, rowCs, beqF, he, add1', hlt, keep_cl, trunc, shapes_cl, hall', -Int.natCast_add]
 ·have hne : n = 39 := by omega
  subst hne
  have : shapeOf op = none := find_none fun m b hb => hall m b (by have := (List.getElem?_eq_some_iff.1 hb).1; exact this) hb
  simp [this, ofV]
theorem shape_some {op : Int} {r : Row4} (h : shapeOf op = some r) : r.1 = op ∧ r ∈ shapeRows := by
 have h1 := List.find?_some h
 exact ⟨by simpa using h1, List.mem_of_find?_eq_some h⟩
theorem shape_none {op : Int} (h : shapeOf op = none) : ∀ r ∈ shapeRows, r.1 ≠ op := fun r hr => by
 have := List.find?_eq_none.1 h r hr
 simpa using this
def aluT (op : Int) : Int × Bool × Bool :=
 if op ∈ [4, 20, 36, 52, 68, 84, 100, 116, 164] then (op, false, true) else if op ∈ [12, 28, 44, 60, 76, 92, 108, 124, 172] then (op - 8, true, true) else (0, false, false)
def isBr (op : Int) : Bool := decide (op ∈ [21, 37, 53, 69, 29, 45, 61, 77])
def isEnd (op : Int) : Bool := decide (op = 6 ∨ op = 22)
theorem br_none {op : Int} (h : shapeOf op = none) : isBr op = false := by
 have h1 : ∀ p ∈ [21, 37, 53, 69, 29, 45, 61, 77], ∃ r ∈ shapeRows, r.1 = p := by decide
 simp only [isBr, decide_eq_false_iff_not]
 intro hm
 obtain ⟨r, hr, he⟩ := h1 op hm
 exact shape_none h r hr he
theorem Ends_ok [HasIns G] (x : In4) : FP G 143 [IV x] (.bool (isEnd x.op)) := by
 refine FP_of HasIns.h_ins_Ends (Nat.le_of_ble_eq_true rfl) ?_
 simp [IV, In4.cs]
 by_cases h : x.op = 6
 ·simp [h, isEnd]
 ·by_cases h2 : x.op = 22 <;> simp [h, h2, beqF, isEnd]
theorem Branch_ok [HasIns G] (x : In4) : FP G 142 [IV x] (.bool (isBr x.op)) := by
 refine FP_of HasIns.h_ins_Branch (Nat.le_of_ble_eq_true rfl) ?_
 simp [IV, In4.cs]
 refine callP_of (of_ok x.op) ?_
 unfold ofV
 cases h : shapeOf x.op with
 | none => simp [br_none h]
 | some r =>
  obtain ⟨he, hr⟩ := shape_some h
  have key : ∀ r ∈ shapeRows, (decide (andI .i64 r.1 7 = 5) && decide (r.1 ≠ 5)) = isBr r.1 := by decide
  have key := key r hr
  rw [he] at key
  by_cases h1 : andI .i64 x.op 7 = 5
  ·by_cases h2 : x.op = 5
   ·simp [h1, h2] at key; simp [rowCs, h1, h2]; rw [h2] at h1; simp [h1]; exact key
   ·simp [h1, h2] at key; simp [rowCs, h1, h2, bneT, key]
  ·simp [h1] at key; simp [rowCs, h1, beqF, key]
def rightI (x : In4) : Bool := match shapeOf x.op with
 | some r => (r.2.2.1 || decide (x.k = 0)) && (if r.2.2.2 then decide (0 ≤ x.jt ∧ x.jt ≤ 255 ∧ 0 ≤ x.jf ∧ x.jf ≤ 255) else decide (x.jt = 0 ∧ x.jf = 0))
 | none => false
theorem RightI_ok [HasIns G] (x : In4) : FP G 140 [IV x] (.bool (rightI x)) := by
 refine FP_of HasIns.h_ins_Right (Nat.le_of_ble_eq_true rfl) ?_
 simp [IV, In4.cs]
 refine callP_of (of_ok x.op) ?_
 unfold ofV rightI
 cases h : shapeOf x.op with
 | none => simp
 | some r =>
  obtain ⟨op, w, has, ways⟩ := r
  have ways_ok : ∀ {H : Heap}, True := trivial
  cases has
  ·by_cases hk : x.k = 0
   ·cases ways
    ·by_cases h1 : x.jt = 0
     ·by_cases h2 : x.jf = 0 <;> simp [rowCs, hk, h1, h2, beqF]
     ·simp [rowCs, hk, h1, beqF]
    ·by_cases h1 : 0 ≤ x.jt
     ·by_cases h2 : x.jt ≤ 255
      ·by_cases h3 : 0 ≤ x.jf
       ·by_cases h4 : x.jf ≤ 255 <;> simp [rowCs, hk, h1, h2, h3, h4]
       ·simp [rowCs, hk, h1, h2, h3]
      ·simp [rowCs, hk, h1, h2]
     ·simp [rowCs, hk, h1]
   ·have hk' : ((x.k : Int) != 0) = true := bneT (by omega)
    simp [rowCs, hk, hk']
  ·cases ways
   ·by_cases h1 : x.jt = 0
    ·by_cases h2 : x.jf = 0 <;> simp [rowCs, h1, h2, beqF]
    ·simp [rowCs, h1, beqF]
   ·by_cases h1 : 0 ≤ x.jt
    ·by_cases h2 : x.jt ≤ 255
     ·by_cases h3 : 0 ≤ x.jf
      ·by_cases h4 : x.jf ≤ 255 <;> simp [rowCs, h1, h2, h3, h4]
      ·simp [rowCs, h1, h2, h3]
     ·simp [rowCs, h1, h2]
    ·simp [rowCs, h1]
end Go.Ev
/- Forms of a few variables and a table: plain mathematics, with no program in sight. -/
namespace Go.Ev
set_option linter.unusedSimpArgs false
set_option linter.unusedVariables false
def cnt (tab : List Nat) (j : Nat) : Bool := (List.range tab.length).any fun n => tab[n]? != tab[n ^^^ 2 ^ j]?
def okAt (vars : List Int) (tab : List Nat) (j : Nat) : Prop :=
 ∃ v, vars[j]? = some v ∧ 0 ≤ v ∧ v < 34 ∧ (∀ u, 0 < j → vars[j - 1]? = some u → u < v) ∧ cnt tab j = true
def Right (vars : List Int) (tab : List Nat) : Prop := vars.length ≤ 4 ∧ tab.length = 2 ^ vars.length ∧ ∀ j, j < vars.length → okAt vars tab j
abbrev Up (l : List Int) : Prop := l.Pairwise (· < ·)
theorem Up.nodup {l : List Int} (h : Up l) : l.Nodup := h.imp (fun h e => by omega)
theorem nodup_inj {l : List Int} (h : l.Nodup) {i j : Nat} {hi : i < l.length} {hj : j < l.length} (e : l[i] = l[j]) : i = j := by
 rcases Nat.lt_trichotomy i j with hl | hl | hl
 ·exact absurd e (List.pairwise_iff_getElem.1 h _ _ _ _ hl)
 ·exact hl
 ·exact absurd e.symm (List.pairwise_iff_getElem.1 h _ _ _ _ hl)
def idx : List Int → (Int → Bool) → Nat
 | [], _ => 0
 | v :: vs, p => (p v).toNat + 2 * idx vs p
theorem idx_lt : ∀ (vs : List Int) (p : Int → Bool), idx vs p < 2 ^ vs.length
 | [], _ => by simp [idx]
 | v :: vs, p => by
  have := idx_lt vs p
  have h2 : (p v).toNat ≤ 1 := by cases p v <;> simp
  simp only [idx, List.length_cons, Nat.pow_succ]; omega
theorem idx_bit (p : Int → Bool) : ∀ (vs : List Int) (j : Nat), (idx vs p).testBit j = (vs[j]?.map p).getD false
 | [], j => by simp [idx]
 | v :: vs, 0 => by
  simp only [idx, Nat.testBit_zero, List.getElem?_cons_zero, Option.map_some, Option.getD_some]
  cases p v <;> simp <;> omega
 | v :: vs, j + 1 => by
  simp only [List.getElem?_cons_succ, ← idx_bit p vs j, idx, Nat.testBit_succ]
  congr 1
  cases p v <;> simp <;> omega
def say (vs : List Int) (n : Nat) : Int → Bool := fun v => n.testBit (vs.idxOf v)
theorem idx_say {vs : List Int} (h : vs.Nodup) {n : Nat} (hn : n < 2 ^ vs.length) : idx vs (say vs n) = n := by
 refine Nat.eq_of_testBit_eq fun j => ?_
 rw [idx_bit]
 by_cases hj : j < vs.length
 ·rw [List.getElem?_eq_getElem hj]
  simp only [Option.map_some, Option.getD_some, say]
  rw [List.Nodup.idxOf_getElem h]
 ·rw [List.getElem?_eq_none (by omega)]
  simp only [Option.map_none, Option.getD_none]
  rw [Nat.testBit_lt_two_pow (Nat.lt_of_lt_of_le hn (Nat.pow_le_pow_right (by decide) (by omega)))]
def flip (p : Int → Bool) (v : Int) : Int → Bool := fun u => if u = v then !p u else p u
theorem idx_flip {vs : List Int} (h : vs.Nodup) (p : Int → Bool) {j : Nat} {v : Int} (hv : vs[j]? = some v) : idx vs (flip p v) = idx vs p ^^^ 2 ^ j := by
 have hj : j < vs.length := by
  rcases Nat.lt_or_ge j vs.length with h | h
  ·exact h
  ·rw [List.getElem?_eq_none h] at hv; cases hv
 refine Nat.eq_of_testBit_eq fun i => ?_
 rw [Nat.testBit_xor, idx_bit, idx_bit, Nat.testBit_two_pow]
 by_cases hi : i < vs.length
 ·rw [List.getElem?_eq_getElem hi]
  simp only [Option.map_some, Option.getD_some, flip]
  rw [List.getElem?_eq_getElem hj] at hv; cases hv
  by_cases hij : i = j
  ·subst hij; simp
  ·have : vs[i] ≠ vs[j] := fun e => hij (nodup_inj h e)
   have hji : j ≠ i := fun e => hij e.symm
   simp [this, hji]
 ·rw [List.getElem?_eq_none (by omega)]
  have hji : j ≠ i := by omega
  simp [hji]
def sem (vs : List Int) (tab : List Nat) (p : Int → Bool) : Nat := tab.getD (idx vs p) 0
def dep (f : (Int → Bool) → Nat) (v : Int) : Prop := ∃ p, f p ≠ f (flip p v)
theorem cnt_iff {vs : List Int} {tab : List Nat} (h : vs.Nodup) (hl : tab.length = 2 ^ vs.length) {j : Nat} {v : Int} (hv : vs[j]? = some v) : cnt tab j = true ↔ dep (sem vs tab) v := by
 have get (n : Nat) (hn : n < tab.length) : tab[n]? = some (tab.getD n 0) := by rw [List.getElem?_eq_getElem hn, List.getD_eq_getElem?_getD, List.getElem?_eq_getElem hn]; rfl
 have hj : j < vs.length := by
  rcases Nat.lt_or_ge j vs.length with h | h
  ·exact h
  ·rw [List.getElem?_eq_none h] at hv; cases hv
 simp only [cnt, List.any_eq_true, List.mem_range, bne_iff_ne, ne_eq, dep, sem]
 constructor
 ·rintro ⟨n, hn, hne⟩
  refine ⟨say vs n, fun e => hne ?_⟩
  rw [idx_flip h _ hv, idx_say h (by omega)] at e
  rw [get n hn, get _ (by rw [hl] at hn ⊢; exact Nat.xor_lt_two_pow hn (Nat.pow_lt_pow_right (by decide) hj)), e]
 ·rintro ⟨p, hp⟩
  have h1 : idx vs p < tab.length := by rw [hl]; exact idx_lt vs p
  refine ⟨idx vs p, h1, fun e => hp ?_⟩
  rw [idx_flip h _ hv]
  rw [get _ h1, get _ (by rw [hl] at h1 ⊢; exact Nat.xor_lt_two_pow h1 (Nat.pow_lt_pow_right (by decide) hj))] at e
  exact Option.some.inj e
theorem Right.of {vs : List Int} {tab : List Nat} (h4 : vs.length ≤ 4) (hl : tab.length = 2 ^ vs.length) (hu : Up vs) (hm : ∀ v ∈ vs, 0 ≤ v ∧ v < 34) (hd : ∀ v ∈ vs, dep (sem vs tab) v) : Right vs tab := by
 refine ⟨h4, hl, fun j hj => ⟨vs[j], List.getElem?_eq_getElem hj, (hm _ (List.getElem_mem hj)).1, (hm _ (List.getElem_mem hj)).2, ?_, (cnt_iff hu.nodup hl (List.getElem?_eq_getElem hj)).2 (hd _ (List.getElem_mem hj))⟩⟩
 intro u h0 hu'
 rw [List.getElem?_eq_getElem (by omega)] at hu'; cases hu'
 exact List.pairwise_iff_getElem.1 hu _ _ _ _ (by omega)
def ins (j m : Nat) : Nat := 2 ^ (j + 1) * (m / 2 ^ j) + m % 2 ^ j
def wordOf (f : Nat → Bool) : Nat → Nat
 | 0 => 0
 | k + 1 => wordOf f k + 2 ^ k * (f k).toNat
def val (vs : List Int) (tab : List Nat) (r : Int → Nat) : Nat := wordOf (fun i => (sem vs tab fun v => (r v).testBit i).testBit i) 32
end Go.Ev
/- What the functions of bits compute: the smaller ones. -/
namespace Go.Ev
open Go Go.RowKit
variable {G : Tbl}
set_option maxRecDepth 10000
set_option linter.unusedSimpArgs false
set_option linter.unusedVariables false
def doW (kind : Int) (a b : Nat) : Nat × Bool :=
 if kind = 4 then ((a + b) % 4294967296, true) else if kind = 20 then ((a + 4294967296 - b) % 4294967296, true) else if kind = 36 then (a * b % 4294967296, true)
 else if kind = 52 then (if b = 0 then (0, false) else (a / b, true)) else if kind = 68 then (a ||| b, true) else if kind = 84 then (a &&& b, true)
 else if kind = 100 then (a * 2 ^ (b % 32) % 4294967296, true) else if kind = 116 then (a / 2 ^ (b % 32), true) else if kind = 164 then (a ^^^ b, true) else (0, false)
end Go.Ev
/- Lemmas that many texts use. -/
namespace Go.Ev
open Go Go.RowKit
variable {G : Tbl}
set_option maxRecDepth 10000
set_option linter.unusedSimpArgs false
set_option linter.unusedVariables false
def HShut (H : Heap) : Prop := ∀ m, H.length ≤ m → H.map (Option.map (Blk.cl m)) = H
theorem shut_trunc {H : Heap} (h : HShut H) (r : Heap) (n : Nat) : trunc (H.length + n) (H ++ r) = H ++ (r.take n).map (Option.map (Blk.cl (H.length + n))) := by
 unfold trunc
 rw [List.take_append, List.map_append]
 congr 1
 ·rw [List.take_of_length_le (by omega)]; exact h _ (by omega)
 ·congr 2; omega
theorem callK_of {ro : Bool} {f : Nat} {args : List V} {r : V} {H H1 : Heap} {K : List Kt} {e : Env} {Q : Ex → Env → Heap → Prop} {base : Nat} {d : Option Nat} {os : List SOper} (h : Big G (.F f args H r H1)) (hro : ro = true → base ≤ H.length ∧ H1.take H.length = H)
  (hr : WO G base os K (e.put d r) H1 Q) : callK G ro f args base d os K e H Q := ⟨r, H1, h, hro, hr⟩
def negW (a : Nat) : Nat := (4294967296 - a) % 4294967296
def bools (l : List Bool) : List (List V) := l.map fun b => [.bool b]
@[simp] theorem bools_length (l : List Bool) : (bools l).length = l.length := by simp [bools]
@[simp] theorem bools_get (l : List Bool) (i : Nat) : (bools l)[i]? = (l[i]?).map fun b => [.bool b] := by simp [bools]
@[simp] theorem bools_nil : bools [] = [] := rfl
@[simp] theorem bools_snoc (l : List Bool) (x : Bool) : bools l ++ [[.bool x]] = bools (l ++ [x]) := by simp [bools]
@[simp] theorem bools_sz (l : List Bool) : (∀ f ∈ bools l, f.length = 1) = True := by
 simp only [eq_iff_iff, iff_true]
 intro f hf
 simp only [bools, List.mem_map] at hf
 obtain ⟨x, _, rfl⟩ := hf
 rfl
end Go.Ev
/- States and records; which way a branch goes; the parts of two states. -/
namespace Go.Ev
open Go Go.RowKit
variable {G : Tbl}
set_option maxRecDepth 10000
set_option maxHeartbeats 2000000
set_option linter.unusedSimpArgs false
set_option linter.unusedVariables false
structure St where
 a : Nat
 x : Nat
 m : List Nat
 deriving DecidableEq
def St.cs (s : St) : List V := .int .u32 (s.a : Int) :: .int .u32 (s.x : Int) :: cnats .u32 s.m
def St.ok (s : St) : Prop := s.a < 4294967296 ∧ s.x < 4294967296 ∧ s.m.length = 16 ∧ ∀ w ∈ s.m, w < 4294967296
structure Da where
 nr : Nat
 arch : Nat
 ip : Nat
 args : List Nat
def Da.cs (d : Da) : List V := .int .u32 (d.nr : Int) :: .int .u32 (d.arch : Int) :: .int .u64 (d.ip : Int) :: cnats .u64 d.args
def Da.ok (d : Da) : Prop := d.nr < 4294967296 ∧ d.arch < 4294967296 ∧ d.ip < 18446744073709551616 ∧ d.args.length = 6 ∧ ∀ w ∈ d.args, w < 18446744073709551616
def takesB (s : St) (x : In4) : Bool :=
 let b := if x.op ∈ [29, 45, 61, 77] then s.x else x.k
 if x.op = 21 ∨ x.op = 29 then decide (s.a = b) else if x.op = 37 ∨ x.op = 45 then decide (b < s.a) else if x.op = 53 ∨ x.op = 61 then decide (b ≤ s.a) else if x.op = 69 ∨ x.op = 77 then decide (s.a &&& b ≠ 0) else false
end Go.Ev
/- A record's words, by data. -/
namespace Go.Ev
open Go Go.RowKit
variable {G : Tbl}
set_option maxRecDepth 10000
set_option maxHeartbeats 2000000
set_option linter.unusedSimpArgs false
set_option linter.unusedVariables false
def lo (v : Nat) : Nat := v % 4294967296
def hi (v : Nat) : Nat := v / 4294967296 % 4294967296
def wordsD (d : Da) : List Nat := [d.nr, d.arch, lo d.ip, hi d.ip] ++ d.args.flatMap fun a => [lo a, hi a]
theorem lo_lt (v : Nat) : lo v < 4294967296 := Nat.mod_lt _ (by decide)
theorem hi_lt (v : Nat) : hi v < 4294967296 := Nat.mod_lt _ (by decide)
theorem shr_hi (v : Nat) (h : v < 18446744073709551616) : shrI .u64 (v : Int) 32 = ((v / 4294967296 : Nat) : Int) := by
 unfold shrI
 have : (min (32 : Int).toNat IntKind.u64.bits) = 32 := by decide
 rw [this]
 change (v : Int).fdiv 4294967296 = _
 rw [Int.fdiv_eq_ediv_of_nonneg _ (by decide)]
 rfl
def wordS (d : Da) (at' : Nat) : Nat × Bool := if at' % 4 = 0 ∧ at' < 64 then ((wordsD d).getD (at' / 4) 0, true) else (0, false)
end Go.Ev
/- Arguments of the statements: instructions, states, records. -/
namespace Go.Ev
open Go Go.RowKit
set_option linter.unusedSimpArgs false
set_option linter.unusedVariables false
def i64R (n : Int) : Prop := -9223372036854775808 ≤ n ∧ n ≤ 9223372036854775807
def In4.ok (x : In4) : Prop := (i64R x.op ∧ i64R x.jt ∧ i64R x.jf) ∧ x.k < 4294967296
theorem hasty_int {k : IntKind} {cs : List V} (h : HasTy (.int k) cs) : ∃ n, cs = [.int k n] ∧ (Lit.int k n).wf = true := by simpa only [HasTy] using h
theorem u64_wf {n : Int} (h : (Lit.int .u64 n).wf = true) : 0 ≤ n ∧ n < 18446744073709551616 := by
 simp [Lit.wf, IntKind.min, IntKind.max, IntKind.signed, IntKind.bits] at h
 omega
theorem u32_cell {cs : List V} (h : HasTy (.int .u32) cs) : ∃ n : Nat, cs = [.int .u32 (n : Int)] ∧ n < 4294967296 := by
 obtain ⟨n, rfl, hw⟩ := hasty_int h
 have := u32_wf hw
 exact ⟨n.toNat, by rw [Int.toNat_of_nonneg this.1], by omega⟩
theorem u64_cell {cs : List V} (h : HasTy (.int .u64) cs) : ∃ n : Nat, cs = [.int .u64 (n : Int)] ∧ n < 18446744073709551616 := by
 obtain ⟨n, rfl, hw⟩ := hasty_int h
 have := u64_wf hw
 exact ⟨n.toNat, by rw [Int.toNat_of_nonneg this.1], by omega⟩
end Go.Ev
/- What an instruction makes of a state: run.Step. -/
namespace Go.Ev
open Go Go.RowKit
variable {G : Tbl}
set_option maxRecDepth 10000
set_option maxHeartbeats 2000000
set_option linter.unusedSimpArgs false
set_option linter.unusedVariables false
def cellS (s : St) (k : Nat) : Nat := if k < 16 then s.m.getD k 0 else 0
def storeS (s : St) (k v : Nat) : St := if k < 16 then { s with m := s.m.set k v } else s
def stepO (s : St) (x : In4) (d : Da) : St :=
 if x.op = 0 then { s with a := x.k } else if x.op = 1 then { s with x := x.k } else if x.op = 32 then { s with a := (wordS d x.k).1 }
 else if x.op = 96 then { s with a := cellS s x.k } else if x.op = 97 then { s with x := cellS s x.k } else if x.op = 2 then storeS s x.k s.a else if x.op = 3 then storeS s x.k s.x
 else if x.op = 7 then { s with x := s.a } else if x.op = 135 then { s with a := s.x } else if x.op = 132 then { s with a := negW s.a } else s
def aluB (s : St) (x : In4) : Nat := if (aluT x.op).2.1 then s.x else x.k
def aluR (s : St) (x : In4) : Nat × Bool := doW (aluT x.op).1 s.a (aluB s x)
def stepS (s : St) (x : In4) (d : Da) : St × Bool :=
 if (aluT x.op).2.2 then (if (aluR s x).2 then { s with a := (aluR s x).1 } else s, (aluR s x).2) else (stepO s x d, true)
end Go.Ev
/- Which filters are sound: check. -/
namespace Go.Ev
open Go Go.RowKit
variable {G : Tbl}
set_option maxRecDepth 10000
set_option maxHeartbeats 2000000
set_option linter.unusedSimpArgs false
set_option linter.unusedVariables false
def ruleB (x : In4) : Bool :=
 if x.op = 32 then decide (x.k % 4 = 0 ∧ x.k < 64) else if x.op = 52 then decide (x.k ≠ 0) else if x.op = 2 ∨ x.op = 3 ∨ x.op = 96 ∨ x.op = 97 then decide (x.k < 16) else if x.op = 100 ∨ x.op = 116 then decide (x.k < 32) else true
def oneB (x : In4) (left : Nat) : Bool := rightI x && ruleB x && (if x.op = 5 then decide (x.k < left) else true) && (if isBr x.op then decide (x.jt < left ∧ x.jf < left) else true)
def okAll : List In4 → Bool
 | [] => true
 | x :: f => oneB x f.length && okAll f
def endB (f : List In4) : Bool := match f.getLast? with | some x => isEnd x.op | none => false
def soundF (f : List In4) : Bool := decide (f.length ≤ 4096) && okAll f && endB f
def rents : List (V × V) := [(.int .i64 32, .fn 152 [.ptr 0 0]), (.int .i64 52, .fn 153 [.ptr 0 0]), (.int .i64 2, .fn 150 [.ptr 0 0]), (.int .i64 3, .fn 150 [.ptr 0 0]), (.int .i64 96, .fn 150 [.ptr 0 0]), (.int .i64 97, .fn 150 [.ptr 0 0]),
 (.int .i64 100, .fn 151 [.ptr 0 0]), (.int .i64 116, .fn 151 [.ptr 0 0])]
def waysL (x : In4) (at' : Nat) : List Int := if isEnd x.op then [] else if x.op = 5 then [((at' + 1 + x.k : Nat) : Int)] else if isBr x.op then [(at' : Int) + 1 + min x.jt x.jf, (at' : Int) + 1 + max x.jt x.jf] else [((at' + 1 : Nat) : Int)]
def In4.brOk (x : In4) : Prop := isBr x.op = true → 0 ≤ x.jt ∧ x.jt ≤ 255 ∧ 0 ≤ x.jf ∧ x.jf ≤ 255
theorem convI64 (n : Nat) (h : n < 4294967296) : convI .i64 (n : Int) = (n : Int) := by unfold convI; exact IntWalk.i64_in _ ⟨by omega, by omega⟩
theorem ways_ok [HasIns G] [HasCheck G] (x : In4) (at' : Nat) (hx : x.k < 4294967296) (hb : x.brOk) (ha : at' ≤ 5000) : FP G 155 [IV x, .int .i64 at'] (.vs (ints .i64 (waysL x at')) .no) := by
 refine FP_of HasCheck.h_check_ways (Nat.le_of_ble_eq_true rfl) ?_
 have he := Ends_ok (G := G) x
 have hbr := Branch_ok (G := G) x
 have a1 : addI .i64 (at' : Int) 1 = ((at' + 1 : Nat) : Int) := add1' (by omega)
 simp [IV, In4.cs, a1, -Int.natCast_add] at he hbr ⊢
 refine callP_of he ?_
 cases h1 : isEnd x.op
 ·have n6 : isEnd x.op = false := h1
  simp
  by_cases h5 : x.op = 5
  ·have a2 : addI .i64 ((at' + 1 : Nat) : Int) (x.k : Int) = ((at' + 1 + x.k : Nat) : Int) := addN (by omega)
   have a2' : addI .i64 ((at' : Int) + 1) (x.k : Int) = ((at' + 1 + x.k : Nat) : Int) := by rw [← addN (a := at' + 1) (b := x.k) (by omega)]; rfl
   have h15 : isEnd 5 = false := by decide
   simp [h5, h15, convI64 x.k hx, a2, a2', waysL, ints, -Int.natCast_add]
  ·simp [h5, beqF]
   refine callP_of hbr ?_
   cases h2 : isBr x.op
   ·simp [waysL, h1, h5, h2, ints]
   ·obtain ⟨b1, b2, b3, b4⟩ := hb h2
    have mn : (if x.jf < x.jt then x.jf else x.jt) = min x.jt x.jf := by omega
    have mx : (if x.jf > x.jt then x.jf else x.jt) = max x.jt x.jf := by omega
    have a3 : addI .i64 ((at' + 1 : Nat) : Int) (min x.jt x.jf) = (at' : Int) + 1 + min x.jt x.jf := by rw [addI64] <;> omega
    have a4 : addI .i64 ((at' + 1 : Nat) : Int) (max x.jt x.jf) = (at' : Int) + 1 + max x.jt x.jf := by rw [addI64] <;> omega
    have mx' : (if x.jt < x.jf then x.jf else x.jt) = max x.jt x.jf := by omega
    have mn' : (if x.jt > x.jf then x.jf else x.jt) = min x.jt x.jf := by omega
    have mn2 : (if x.jt ≤ x.jf then x.jt else x.jf) = min x.jt x.jf := by omega
    have a5 : addI .i64 ((at' : Int) + 1) (min x.jt x.jf) = (at' : Int) + 1 + min x.jt x.jf := by rw [addI64] <;> omega
    have a6 : addI .i64 ((at' : Int) + 1) (max x.jt x.jf) = (at' : Int) + 1 + max x.jt x.jf := by rw [addI64] <;> omega
    simp [mn, mx, mx', mn', a3, a4, a5, a6, waysL, h1, h5, h2, ints, -Int.natCast_add]
 ·simp [waysL, h1]
end Go.Ev
/- Which filters are sound: check.Check. -/
namespace Go.Ev
open Go Go.RowKit
variable {G : Tbl}
set_option maxRecDepth 10000
set_option maxHeartbeats 2000000
set_option linter.unusedSimpArgs false
set_option linter.unusedVariables false
theorem FL_get {f : List In4} {i : Nat} (h : i < f.length) : (IL f)[i]? = some f[i].cs := by simp [List.getElem?_eq_getElem h]
def H2 : Heap := [some (.cells [.fn 149 []]), some (.map rents)]
end Go.Ev
/- An instruction changes nothing but what it sets, and hangs on what it needs. -/
namespace Go.Ev
open Go Go.RowKit
variable {G : Tbl}
set_option maxRecDepth 10000
set_option maxHeartbeats 2000000
set_option linter.unusedSimpArgs false
set_option linter.unusedVariables false
def part (s : St) : Nat → Nat
 | 0 => s.a
 | 1 => s.x
 | i + 2 => s.m.getD i 0
end Go.Ev
/- What hurdleref07 says is needed. -/
namespace Go.Ev
open Go Go.RowKit
variable {G : Tbl}
set_option maxRecDepth 10000
set_option maxHeartbeats 2000000
set_option linter.unusedSimpArgs false
set_option linter.unusedVariables false
def cb (l : List Bool) : List V := l.map V.bool
@[simp] theorem cb_length (l : List Bool) : (cb l).length = l.length := by simp [cb]
@[simp] theorem cb_cl (n : Nat) (l : List Bool) : clL n (cb l) = cb l := by
 rw [clL_eq_map]; simp [cb, Function.comp_def]
@[simp] theorem cb_pure (l : List Bool) : (cb l).all V.pure = true := by simp [cb]
@[simp high] theorem ev1_mkslb (base : Nat) (e : Env) (H : Heap) (s bytes : Nat) (n : X) : ev1 base e H (.mksl s bytes [.bool false] n) = (match n.ev e with
  | .int _ m => if isFree H (base + s) = true ∧ 0 ≤ m ∧ m.toNat * bytes ≤ 140737488355328 then some (.rs (base + s) 0 m.toNat 1, H.set (base + s) (some (.cells (cb (List.replicate m.toNat false))))) else none
  | _ => none) := by
 have h : ∀ m : Nat, (List.replicate m [V.bool false]).flatten = cb (List.replicate m false) := fun m => by
  induction m with
  | zero => rfl
  | succ m ih => rw [List.replicate_succ, List.flatten_cons, ih]; simp [cb, List.replicate_succ]
 rw [ev1.eq_27]
 cases n.ev e <;> simp only [h, List.length_singleton]
end Go.Ev
/- Runs, by hurdleref06; and the law LiveRuns. -/
namespace Go.Ev
open Go Go.RowKit
variable {G : Tbl}
set_option maxRecDepth 10000
set_option maxHeartbeats 2000000
set_option linter.unusedSimpArgs false
set_option linter.unusedVariables false
def goes (s : St) (x : In4) : Nat := if x.op = 5 then x.k else if isBr x.op then (if takesB s x then x.jt.toNat else x.jf.toNat) else 0
def run (d : Da) (g : List In4) (s : St) : Nat × Nat :=
 match g with
 | [] => (0, 0)
 | x :: g => if x.op = 6 then (x.k, 1) else if x.op = 22 then (s.a, 1) else if (stepS s x d).2 then ((run d (g.drop (goes s x)) (stepS s x d).1).1, (run d (g.drop (goes s x)) (stepS s x d).1).2 + 1) else (0, 1)
termination_by g.length
decreasing_by all_goals (simp only [List.length_drop, List.length_cons]; omega)
theorem run_cons (d : Da) (x : In4) (g : List In4) (s : St) : run d (x :: g) s = if x.op = 6 then (x.k, 1) else if x.op = 22 then (s.a, 1) else if (stepS s x d).2 then ((run d (g.drop (goes s x)) (stepS s x d).1).1, (run d (g.drop (goes s x)) (stepS s x d).1).2 + 1) else (0, 1) := by
 rw [run]
end Go.Ev
/- Code put together from behind: labels, branches, a condition's test: plain. -/
namespace Go.Ev
open Go Go.RowKit
set_option maxRecDepth 10000
set_option maxHeartbeats 2000000
set_option linter.unusedSimpArgs false
set_option linter.unusedVariables false
structure Cd where
 arg : Int
 cmp : Int
 mask : Nat
 val : Nat
 deriving DecidableEq
def Cd.ok (c : Cd) : Prop := c.mask < 18446744073709551616 ∧ c.val < 18446744073709551616
def Cd.right (c : Cd) : Bool := decide (0 ≤ c.arg ∧ c.arg ≤ 5 ∧ 0 ≤ c.cmp ∧ c.cmp ≤ 5)
def cmpB (cmp : Int) (a b : Nat) : Bool :=
 if cmp = 0 then decide (a = b) else if cmp = 1 then decide (a ≠ b) else if cmp = 2 then decide (a < b) else if cmp = 3 then decide (a ≤ b) else if cmp = 4 then decide (b < a) else decide (b ≤ a)
def argD (d : Da) (c : Cd) : Nat := d.args.getD c.arg.toNat 0 &&& c.mask
def Cd.holds (c : Cd) (d : Da) : Bool := c.right && cmpB c.cmp (argD d c) c.val
def sfx (c : List In4) (l : Nat) : List In4 := c.drop (c.length - l)
theorem sfx_app {a c : List In4} {l : Nat} (h : l ≤ c.length) : sfx (a ++ c) l = sfx c l := by
 unfold sfx
 rw [List.length_append, show a.length + c.length - l = a.length + (c.length - l) by omega, List.drop_length_add_append]
theorem sfx_all (c : List In4) : sfx c c.length = c := by simp [sfx]
def Grown (c c' : List In4) (n : Nat) : Prop := ∃ a, c' = a ++ c ∧ a.length ≤ n
theorem Grown.refl (c : List In4) : Grown c c 0 := ⟨[], rfl, Nat.le_refl _⟩
theorem Grown.trans {a b c : List In4} {n m : Nat} (h : Grown a b n) (k : Grown b c m) : Grown a c (n + m) := by
 obtain ⟨x, rfl, hx⟩ := h
 obtain ⟨y, rfl, hy⟩ := k
 exact ⟨y ++ x, by rw [List.append_assoc], by rw [List.length_append]; omega⟩
theorem Grown.mono {a b : List In4} {n m : Nat} (h : Grown a b n) (hm : n ≤ m) : Grown a b m := by
 obtain ⟨x, rfl, hx⟩ := h
 exact ⟨x, rfl, by omega⟩
theorem Grown.len {a b : List In4} {n : Nat} (h : Grown a b n) : a.length ≤ b.length ∧ b.length ≤ a.length + n := by
 obtain ⟨x, rfl, hx⟩ := h
 rw [List.length_append]; omega
theorem Grown.sfx {a b : List In4} {n l : Nat} (h : Grown a b n) (hl : l ≤ a.length) : sfx b l = sfx a l := by
 obtain ⟨x, rfl, hx⟩ := h
 exact sfx_app hl
def nearL (c : List In4) (t : Nat) : List In4 := if c.length - t ≤ 254 then c else ⟨5, 0, 0, c.length - t⟩ :: c
def nearT (c : List In4) (t : Nat) : Nat := if c.length - t ≤ 254 then t else c.length + 1
def branchL (c : List In4) (op : Int) (k t f : Nat) : List In4 :=
 ⟨op, ((nearL (nearL c t) f).length - nearT c t : Nat), ((nearL (nearL c t) f).length - nearT (nearL c t) f : Nat), k⟩ :: nearL (nearL c t) f
def putF (c : List In4) (op : Int) (k : Nat) : List In4 := ⟨op, 0, 0, k⟩ :: c
theorem near_grown (c : List In4) (t : Nat) : Grown c (nearL c t) 1 := by
 unfold nearL
 split
 ·exact (Grown.refl c).mono (by omega)
 ·exact ⟨[_], rfl, Nat.le_refl _⟩
theorem near_lab {c : List In4} {t : Nat} (h : 1 ≤ t ∧ t ≤ c.length) : 1 ≤ nearT c t ∧ nearT c t ≤ (nearL c t).length ∧ (nearL c t).length - nearT c t ≤ 254 := by
 unfold nearT nearL
 split
 ·exact ⟨h.1, h.2, by omega⟩
 ·simp only [List.length_cons]; omega
theorem add_grown (c : List In4) (op : Int) (k : Nat) : Grown c (putF c op k) 1 := ⟨[_], rfl, Nat.le_refl _⟩
theorem branch_grown (c : List In4) (op : Int) (k t f : Nat) : Grown c (branchL c op k t f) 3 :=
 ((near_grown c t).trans (near_grown _ f)).trans ⟨[_], rfl, Nat.le_refl _⟩
theorem branch_pos (c : List In4) (op : Int) (k t f : Nat) : c.length < (branchL c op k t f).length := by
 have := ((near_grown c t).trans (near_grown _ f)).len
 simp only [branchL, List.length_cons]; omega
def goOp (op : Int) : Prop := op = 5 ∨ op = 21 ∨ op = 37 ∨ op = 53
theorem step_go {x : In4} (h : goOp x.op) (s : St) (d : Da) : stepS s x d = (s, true) := by
 have e1 : ∀ op : Int, goOp op → aluT op = (0, false, false) := by
  rintro op (rfl | rfl | rfl | rfl) <;> decide
 simp only [stepS, e1 _ h, Bool.false_eq_true, if_false, stepO]
 rcases h with h | h | h | h <;> simp [h]
theorem near_run {d : Da} {c : List In4} {t : Nat} (h : 1 ≤ t ∧ t ≤ c.length) (s : St) : (run d (sfx (nearL c t) (nearT c t)) s).1 = (run d (sfx c t) s).1 := by
 unfold nearL nearT
 split
 ·rfl
 ·have e : sfx (⟨5, 0, 0, c.length - t⟩ :: c) (c.length + 1) = ⟨5, 0, 0, c.length - t⟩ :: c := sfx_all _
  rw [e, run_cons, if_neg (show ¬ (5 : Int) = 6 by decide), if_neg (show ¬ (5 : Int) = 22 by decide), step_go (.inl rfl)]
  simp [goes, sfx]
def brOp (op : Int) : Prop := op = 21 ∨ op = 37 ∨ op = 53
def takeN (op : Int) (a k : Nat) : Bool := if op = 21 then decide (a = k) else if op = 37 then decide (k < a) else decide (k ≤ a)
theorem branch_run {d : Da} {c : List In4} {op : Int} {k t f : Nat} (ho : brOp op) (ht : 1 ≤ t ∧ t ≤ c.length) (hf : 1 ≤ f ∧ f ≤ c.length) (s : St) :
  (run d (branchL c op k t f) s).1 = (run d (sfx c (if takeN op s.a k then t else f)) s).1 := by
 have g1 := near_grown c t
 have g2 := near_grown (nearL c t) f
 have l1 := near_lab ht
 have hf1 : 1 ≤ f ∧ f ≤ (nearL c t).length := ⟨hf.1, by have := g1.len; omega⟩
 have l2 := near_lab hf1
 have r1 := near_run (d := d) ht s
 have r2 := near_run (d := d) hf1 s
 rw [g1.sfx hf.2] at r2
 rw [← g2.sfx l1.2.1] at r1
 have hb : isBr op = true := by rcases ho with rfl | rfl | rfl <;> decide
 have h5 : op ≠ 5 := by rcases ho with rfl | rfl | rfl <;> decide
 have h6 : op ≠ 6 := by rcases ho with rfl | rfl | rfl <;> decide
 have h22 : op ≠ 22 := by rcases ho with rfl | rfl | rfl <;> decide
 unfold branchL
 generalize nearL (nearL c t) f = c2 at *
 generalize nearT c t = t1 at *
 generalize nearT (nearL c t) f = f1 at *
 rw [run_cons, if_neg h6, if_neg h22, step_go (.inr (by rcases ho with rfl | rfl | rfl <;> simp))]
 have ht2 : takesB s ⟨op, ((c2.length - t1 : Nat) : Int), ((c2.length - f1 : Nat) : Int), k⟩ = takeN op s.a k := by
  rcases ho with rfl | rfl | rfl <;> simp [takesB, takeN]
 simp only [if_true, goes, if_neg h5, hb, ht2]
 cases takeN op s.a k
 ·simp only [Bool.false_eq_true, if_false, Int.toNat_natCast]; exact r2
 ·simp only [if_true, Int.toNat_natCast]; exact r1
theorem sound_cons {c : List In4} {x : In4} (h : soundF c = true) (hx : oneB x c.length = true) (hl : c.length < 4096) : soundF (x :: c) = true := by
 simp only [soundF, Bool.and_eq_true, decide_eq_true_eq] at h ⊢
 obtain ⟨⟨h1, h2⟩, h3⟩ := h
 refine ⟨⟨by simp only [List.length_cons]; omega, by simp only [okAll, Bool.and_eq_true]; exact ⟨hx, h2⟩⟩, ?_⟩
 cases c with
 | nil => simp [endB] at h3
 | cons y c => simpa [endB, List.getLast?_cons_cons] using h3
theorem near_sound {c : List In4} {t : Nat} (h : soundF c = true) (ht : 1 ≤ t ∧ t ≤ c.length) (hl : c.length < 4096) : soundF (nearL c t) = true := by
 unfold nearL
 split
 ·exact h
 ·refine sound_cons h ?_ hl
  have hs : shapeOf 5 = some (5, [106, 97], true, false) := by decide
  have hb : isBr 5 = false := by decide
  simp [oneB, rightI, hs, ruleB, hb]; omega
theorem branch_sound {c : List In4} {op : Int} {k t f : Nat} (ho : brOp op) (h : soundF c = true) (ht : 1 ≤ t ∧ t ≤ c.length) (hf : 1 ≤ f ∧ f ≤ c.length) (hl : c.length + 3 ≤ 4096) : soundF (branchL c op k t f) = true := by
 have g1 := (near_grown c t).len
 have g2 := (near_grown (nearL c t) f).len
 have l1 := near_lab ht
 have hf1 : 1 ≤ f ∧ f ≤ (nearL c t).length := ⟨hf.1, by omega⟩
 have l2 := near_lab hf1
 have s1 := near_sound h ht (by omega)
 have s2 := near_sound s1 hf1 (by omega)
 unfold branchL
 generalize nearL (nearL c t) f = c2 at *
 generalize nearT c t = t1 at *
 generalize nearT (nearL c t) f = f1 at *
 refine sound_cons s2 ?_ (by omega)
 have key : ∀ op : Int, brOp op → (shapeOf op).map (fun r => (r.2.2.1, r.2.2.2)) = some (true, true) ∧ isBr op = true ∧ op ≠ 5 ∧ ∀ k, ruleB ⟨op, ((c2.length - t1 : Nat) : Int), ((c2.length - f1 : Nat) : Int), k⟩ = true := by
  rintro op (rfl | rfl | rfl) <;> exact ⟨by decide, by decide, by decide, fun k => by simp [ruleB]⟩
 obtain ⟨k1, k2, k3, k4⟩ := key op ho
 rw [Option.map_eq_some_iff] at k1
 obtain ⟨r, k5, k6⟩ := k1
 simp only [Prod.mk.injEq] at k6
 simp only [oneB, rightI, k5, k6.1, k6.2, k4, k3, k2, if_true, if_false, Bool.true_or, Bool.true_and, Bool.and_true, Bool.and_eq_true, decide_eq_true_eq]
 omega
def addOk (op : Int) (k : Nat) : Prop := op = 84 ∨ op = 6 ∨ op = 32 ∧ k % 4 = 0 ∧ k < 64
theorem add_right {op : Int} {k : Nat} (ho : addOk op k) : rightI ⟨op, 0, 0, k⟩ = true ∧ ruleB ⟨op, 0, 0, k⟩ = true ∧ isBr op = false ∧ op ≠ 5 := by
 rcases ho with rfl | rfl | ⟨rfl, h1, h2⟩
 ·refine ⟨?_, by simp [ruleB], by decide, by decide⟩
  have hs : (shapeOf 84).map (fun r => (r.2.2.1, r.2.2.2)) = some (true, false) := by decide
  rw [Option.map_eq_some_iff] at hs
  obtain ⟨r, k5, k6⟩ := hs
  simp only [Prod.mk.injEq] at k6
  simp [rightI, k5, k6.1, k6.2]
 ·refine ⟨?_, by simp [ruleB], by decide, by decide⟩
  have hs : (shapeOf 6).map (fun r => (r.2.2.1, r.2.2.2)) = some (true, false) := by decide
  rw [Option.map_eq_some_iff] at hs
  obtain ⟨r, k5, k6⟩ := hs
  simp only [Prod.mk.injEq] at k6
  simp [rightI, k5, k6.1, k6.2]
 ·refine ⟨?_, by simp [ruleB, h1, h2], by decide, by decide⟩
  have hs : (shapeOf 32).map (fun r => (r.2.2.1, r.2.2.2)) = some (true, false) := by decide
  rw [Option.map_eq_some_iff] at hs
  obtain ⟨r, k5, k6⟩ := hs
  simp only [Prod.mk.injEq] at k6
  simp [rightI, k5, k6.1, k6.2]
theorem add_sound {c : List In4} {op : Int} {k : Nat} (ho : addOk op k) (h : soundF c = true) (hl : c.length < 4096) : soundF (putF c op k) = true := by
 refine sound_cons h ?_ hl
 obtain ⟨h1, h2, h3, h4⟩ := add_right ho
 simp [oneB, h1, h2, h3, h4]
theorem and_run (d : Da) (c : List In4) (k : Nat) (s : St) : (run d (putF c 84 k) s).1 = (run d c { s with a := s.a &&& k }).1 := by
 have e1 : aluT (84 : Int) = (84, false, true) := by decide
 have e2 : isBr 84 = false := by decide
 have e3 : stepS s ⟨84, 0, 0, k⟩ d = ({ s with a := s.a &&& k }, true) := by simp [stepS, e1, aluR, aluB, doW]
 rw [putF, run_cons, if_neg (show ¬ (84 : Int) = 6 by decide), if_neg (show ¬ (84 : Int) = 22 by decide), e3]
 simp [goes, e2]
theorem ld_run (d : Da) (c : List In4) (k : Nat) (s : St) : (run d (putF c 32 k) s).1 = (run d c { s with a := (wordS d k).1 }).1 := by
 have e1 : aluT (32 : Int) = (0, false, false) := by decide
 have e2 : isBr 32 = false := by decide
 have e3 : stepS s ⟨32, 0, 0, k⟩ d = ({ s with a := (wordS d k).1 }, true) := by simp [stepS, e1, stepO]
 rw [putF, run_cons, if_neg (show ¬ (32 : Int) = 6 by decide), if_neg (show ¬ (32 : Int) = 22 by decide), e3]
 simp [goes, e2]
theorem ret_run (d : Da) (c : List In4) (k : Nat) (s : St) : (run d (putF c 6 k) s).1 = k := by
 rw [putF, run_cons, if_pos rfl]
def Ind (d : Da) (c : List In4) (l v : Nat) : Prop := ∀ s : St, s.ok → (run d (sfx c l) s).1 = v
theorem Ind.grown {d : Da} {a b : List In4} {n l v : Nat} (h : Ind d a l v) (g : Grown a b n) (hl : l ≤ a.length) : Ind d b l v := fun s hs => by rw [g.sfx hl]; exact h s hs
def Dep (d : Da) (c : List In4) (l a v : Nat) : Prop := ∀ s : St, s.ok → s.a = a → (run d (sfx c l) s).1 = v
theorem Dep.grown {d : Da} {a b : List In4} {n l w v : Nat} (h : Dep d a l w v) (g : Grown a b n) (hl : l ≤ a.length) : Dep d b l w v := fun s hs ha => by rw [g.sfx hl]; exact h s hs ha
theorem Ind.dep {d : Da} {c : List In4} {l v : Nat} (h : Ind d c l v) (w : Nat) : Dep d c l w v := fun s hs _ => h s hs
theorem St.ok_a {s : St} (h : s.ok) {a : Nat} (ha : a < 4294967296) : ({ s with a := a } : St).ok := ⟨ha, h.2⟩
def notCmp (n : Int) : Int := if n = 0 then 1 else if n = 1 then 0 else if n = 2 then 5 else if n = 3 then 4 else if n = 4 then 3 else 2
def opCmp (n : Int) : Int := if n = 4 then 37 else if n = 5 then 53 else 21
def test1 (c : List In4) (x : Cd) (t f : Nat) : List In4 := putF (putF (branchL c (opCmp x.cmp) (lo x.val) t f) 84 (lo x.mask)) 32 (16 + 8 * x.arg.toNat)
def test2 (c : List In4) (x : Cd) (t f : Nat) : List In4 := if opCmp x.cmp = 21 then test1 c x t f else branchL (test1 c x t f) 37 (hi x.val) t f
def test0 (c : List In4) (x : Cd) (t f : Nat) : List In4 :=
 putF (putF (branchL (test2 c x t f) 21 (hi x.val) (test1 c x t f).length (if opCmp x.cmp = 21 then f else (test2 c x t f).length)) 84 (hi x.mask)) 32 (20 + 8 * x.arg.toNat)
def flipC (x : Cd) : Bool := decide (x.cmp = 1 ∨ x.cmp = 2 ∨ x.cmp = 3)
def testL (c : List In4) (x : Cd) (t f : Nat) : List In4 := if flipC x then test0 c { x with cmp := notCmp x.cmp } f t else test0 c x t f
theorem op_br (n : Int) : brOp (opCmp n) := by
 unfold opCmp brOp
 split
 ·exact .inr (.inl rfl)
 ·split
  ·exact .inr (.inr rfl)
  ·exact .inl rfl
theorem test1_grown (c : List In4) (x : Cd) (t f : Nat) : Grown c (test1 c x t f) 5 := ((branch_grown c _ _ t f).trans (add_grown _ _ _)).trans (add_grown _ _ _)
theorem test2_grown (c : List In4) (x : Cd) (t f : Nat) : Grown (test1 c x t f) (test2 c x t f) 3 := by
 unfold test2
 split
 ·exact (Grown.refl _).mono (by omega)
 ·exact branch_grown _ _ _ _ _
theorem test0_grown (c : List In4) (x : Cd) (t f : Nat) : Grown c (test0 c x t f) 13 :=
 (((test1_grown c x t f).trans (test2_grown c x t f)).trans (branch_grown _ _ _ _ _)).trans ((add_grown _ _ _).trans (add_grown _ _ _)) |>.mono (by omega)
theorem test_grown (c : List In4) (x : Cd) (t f : Nat) : Grown c (testL c x t f) 13 := by
 unfold testL
 split <;> exact test0_grown _ _ _ _
theorem addr_ok {x : Cd} (h : x.right = true) (b : Nat) (hb : b = 16 ∨ b = 20) : addOk 32 (b + 8 * x.arg.toNat) := by
 simp only [Cd.right, decide_eq_true_eq] at h
 refine .inr (.inr ⟨rfl, ?_, ?_⟩) <;> omega
theorem test0_sound {c : List In4} {x : Cd} {t f : Nat} (h : soundF c = true) (hx : x.right = true) (ht : 1 ≤ t ∧ t ≤ c.length) (hf : 1 ≤ f ∧ f ≤ c.length) (hl : c.length + 13 ≤ 4096) : soundF (test0 c x t f) = true := by
 have g1 := (test1_grown c x t f).len
 have g2 := (test2_grown c x t f).len
 have gb := (branch_grown c (opCmp x.cmp) (lo x.val) t f).len
 have s1 : soundF (test1 c x t f) = true := by
  refine add_sound (addr_ok hx 16 (.inl rfl)) (add_sound (.inl rfl) (branch_sound (op_br _) h ht hf (by omega)) (by omega)) ?_
  simp only [putF, List.length_cons]; omega
 have p1 : 1 ≤ (test1 c x t f).length := by omega
 have s2 : soundF (test2 c x t f) = true := by
  unfold test2
  split
  ·exact s1
  ·exact branch_sound (.inr (.inl rfl)) s1 (by omega) (by omega) (by omega)
 have hf2 : 1 ≤ (if opCmp x.cmp = 21 then f else (test2 c x t f).length) ∧ (if opCmp x.cmp = 21 then f else (test2 c x t f).length) ≤ (test2 c x t f).length := by
  split <;> omega
 have g3 := (branch_grown (test2 c x t f) 21 (hi x.val) (test1 c x t f).length (if opCmp x.cmp = 21 then f else (test2 c x t f).length)).len
 refine add_sound (addr_ok hx 20 (.inr rfl)) (add_sound (.inl rfl) (branch_sound (.inl rfl) s2 (by omega) hf2 (by omega)) (by omega)) ?_
 simp only [putF, List.length_cons]; omega
theorem not_right {x : Cd} (h : x.right = true) : ({ x with cmp := notCmp x.cmp } : Cd).right = true := by
 simp only [Cd.right, decide_eq_true_eq] at h ⊢
 refine ⟨h.1, h.2.1, ?_⟩
 simp only [notCmp]
 repeat' split
 all_goals omega
theorem test_sound {c : List In4} {x : Cd} {t f : Nat} (h : soundF c = true) (hx : x.right = true) (ht : 1 ≤ t ∧ t ≤ c.length) (hf : 1 ≤ f ∧ f ≤ c.length) (hl : c.length + 13 ≤ 4096) : soundF (testL c x t f) = true := by
 unfold testL
 split
 ·exact test0_sound h (not_right hx) hf ht hl
 ·exact test0_sound h hx ht hf hl
theorem word_arg {d : Da} {i : Nat} (hd : d.ok) (h : i ≤ 5) : (wordS d (16 + 8 * i)).1 = lo (d.args.getD i 0) ∧ (wordS d (20 + 8 * i)).1 = hi (d.args.getD i 0) := by
 obtain ⟨_, _, _, hl, _⟩ := hd
 match hda : d.args, hl with
 | [a0, a1, a2, a3, a4, a5], _ =>
  have : i = 0 ∨ i = 1 ∨ i = 2 ∨ i = 3 ∨ i = 4 ∨ i = 5 := by omega
  rcases this with rfl | rfl | rfl | rfl | rfl | rfl <;> simp [wordS, wordsD, hda]
theorem lo_and (a b : Nat) : lo a &&& lo b = (a &&& b) % 4294967296 := by
 unfold lo
 have h := Nat.and_mod_two_pow (a := a) (b := b) (n := 32)
 simpa using h.symm
theorem hi_and {a b : Nat} (ha : a < 18446744073709551616) (hb : b < 18446744073709551616) : hi a &&& hi b = (a &&& b) / 4294967296 := by
 have h := Nat.and_div_two_pow (a := a) (b := b) (n := 32)
 have e1 : hi a = a / 4294967296 := Nat.mod_eq_of_lt (by omega)
 have e2 : hi b = b / 4294967296 := Nat.mod_eq_of_lt (by omega)
 rw [e1, e2]
 simpa using h.symm
theorem cmp_parts {op : Int} {v k : Nat} (hk : k < 18446744073709551616) :
  (op = 21 → decide (v = k) = (decide (v / 4294967296 = hi k) && decide (v % 4294967296 = lo k))) ∧
  (op = 37 → decide (k < v) = (if v / 4294967296 = hi k then decide (lo k < v % 4294967296) else decide (hi k < v / 4294967296))) ∧
  (op = 53 → decide (k ≤ v) = (if v / 4294967296 = hi k then decide (lo k ≤ v % 4294967296) else decide (hi k < v / 4294967296))) := by
 have e2 : hi k = k / 4294967296 := Nat.mod_eq_of_lt (by omega)
 have e1 : lo k = k % 4294967296 := rfl
 rw [e1, e2]
 refine ⟨fun _ => ?_, fun _ => ?_, fun _ => ?_⟩
 ·rw [Bool.eq_iff_iff]; simp only [Bool.and_eq_true, decide_eq_true_eq]; omega
 ·split <;> rw [Bool.eq_iff_iff] <;> simp only [decide_eq_true_eq] <;> omega
 ·split <;> rw [Bool.eq_iff_iff] <;> simp only [decide_eq_true_eq] <;> omega
theorem test0_goes {d : Da} {c : List In4} {x : Cd} {t f : Nat} (hd : d.ok) (hx : x.right = true) (hxo : x.ok) (hc : opCmp x.cmp = 21 → x.cmp = 0) (ht : 1 ≤ t ∧ t ≤ c.length) (hf : 1 ≤ f ∧ f ≤ c.length)
  (s : St) (hs : s.ok) : ∃ s' : St, s'.ok ∧ (run d (test0 c x t f) s).1 = (run d (sfx c (if x.holds d then t else f)) s').1 := by
 have hxr := hx
 simp only [Cd.right, decide_eq_true_eq] at hx
 obtain ⟨w1, w2⟩ := word_arg (i := x.arg.toNat) hd (by omega)
 have hal : d.args.getD x.arg.toNat 0 < 18446744073709551616 := by
  obtain ⟨_, _, _, hl, hw⟩ := hd
  rw [List.getD, List.getElem?_eq_getElem (by omega)]
  exact hw _ (List.getElem_mem _)
 have m1 := lo_and (d.args.getD x.arg.toNat 0) x.mask
 have m2 := hi_and hal hxo.1
 have hv : argD d x < 18446744073709551616 := Nat.lt_of_le_of_lt Nat.and_le_left hal
 rw [show d.args.getD x.arg.toNat 0 &&& x.mask = argD d x from rfl] at m1 m2
 have g1 := (test1_grown c x t f)
 have g2 := (test2_grown c x t f)
 have p1 := g1.len
 have p2 := g2.len
 have q1 : 1 ≤ (test1 c x t f).length := by omega
 -- behind the high word
 have low : ∀ s : St, s.ok → ∃ s' : St, s'.ok ∧ (run d (test1 c x t f) s).1 = (run d (sfx c (if takeN (opCmp x.cmp) (argD d x % 4294967296) (lo x.val) then t else f)) s').1 := by
  intro s hs
  have o1 := lo_lt (d.args.getD x.arg.toNat 0)
  have o2 : argD d x % 4294967296 < 4294967296 := Nat.mod_lt _ (by decide)
  rw [test1, ld_run, and_run, w1]
  simp only [m1]
  rw [branch_run (op_br _) ht hf]
  simp only
  have ok := St.ok_a hs o2
  exact ⟨_, ok, rfl⟩
 have o3 : argD d x / 4294967296 < 4294967296 := by omega
 have ok := St.ok_a hs o3
 have hf2 : 1 ≤ (if opCmp x.cmp = 21 then f else (test2 c x t f).length) ∧ (if opCmp x.cmp = 21 then f else (test2 c x t f).length) ≤ (test2 c x t f).length := by
  split <;> omega
 rw [test0, ld_run, and_run, w2]
 simp only [m2]
 rw [branch_run (.inl rfl) (by omega) hf2]
 simp only [takeN, if_true]
 obtain ⟨c1, c2, c3⟩ := cmp_parts (op := opCmp x.cmp) (v := argD d x) hxo.2
 by_cases he : argD d x / 4294967296 = hi x.val
 ·obtain ⟨s1, ok1, e1⟩ := low _ ok
  rw [if_pos (by simpa using he), g2.sfx (Nat.le_refl _), sfx_all, e1]
  refine ⟨s1, ok1, ?_⟩
  suffices hb : takeN (opCmp x.cmp) (argD d x % 4294967296) (lo x.val) = x.holds d by rw [hb]
  simp only [Cd.holds, hxr, Bool.true_and, takeN]
  by_cases k4 : x.cmp = 4
  ·have e : opCmp x.cmp = 37 := by rw [k4]; rfl
   have := c2 e
   rw [if_pos he] at this
   simp only [e, k4, cmpB]
   rw [this]; simp [opCmp]
  ·by_cases k5 : x.cmp = 5
   ·have e : opCmp x.cmp = 53 := by rw [k5]; rfl
    have := c3 e
    rw [if_pos he] at this
    simp only [e, k5, cmpB]
    rw [this]; simp [opCmp]
   ·have e : opCmp x.cmp = 21 := by simp [opCmp, k4, k5]
    have k0 := hc e
    have := c1 e
    simp only [e, k0, cmpB]
    rw [this]; simp [he, opCmp]
 ·rw [if_neg (by simpa using he)]
  by_cases e : opCmp x.cmp = 21
  ·have k0 := hc e
   have := c1 e
   have hh : x.holds d = false := by
    simp only [Cd.holds, hxr, Bool.true_and, k0, cmpB, if_true]
    rw [this]; simp [he]
   rw [if_pos e, hh, g2.sfx (by omega), g1.sfx hf.2]
   exact ⟨_, ok, rfl⟩
  ·have t2 : test2 c x t f = branchL (test1 c x t f) 37 (hi x.val) t f := by rw [test2, if_neg e]
   rw [if_neg e, sfx_all, t2, branch_run (.inr (.inl rfl)) (by omega) (by omega)]
   have hh : x.holds d = decide (hi x.val < argD d x / 4294967296) := by
    simp only [Cd.holds, hxr, Bool.true_and]
    by_cases k4 : x.cmp = 4
    ·have := c2 (by rw [k4]; rfl)
     rw [if_neg he] at this
     simp only [k4, cmpB]
     rw [← this]; simp
    ·have k5 : x.cmp = 5 := by
      apply Classical.byContradiction
      intro k5
      exact e (by simp [opCmp, k4, k5])
     have := c3 (by rw [k5]; rfl)
     rw [if_neg he] at this
     simp only [k5, cmpB]
     rw [← this]; simp
   rw [hh]
   simp only [takeN, show ((37 : Int) = 21) = False by simp, if_false, if_true]
   cases decide (hi x.val < argD d x / 4294967296)
   ·simp only [Bool.false_eq_true, if_false]; rw [g1.sfx hf.2]; exact ⟨_, ok, rfl⟩
   ·simp only [if_true]; rw [g1.sfx ht.2]; exact ⟨_, ok, rfl⟩
theorem test_goes {d : Da} {c : List In4} {x : Cd} {t f : Nat} (hd : d.ok) (hx : x.right = true) (hxo : x.ok) (ht : 1 ≤ t ∧ t ≤ c.length) (hf : 1 ≤ f ∧ f ≤ c.length)
  (s : St) (hs : s.ok) : ∃ s' : St, s'.ok ∧ (run d (testL c x t f) s).1 = (run d (sfx c (if x.holds d then t else f)) s').1 := by
 have hx' := hx
 simp only [Cd.right, decide_eq_true_eq] at hx'
 by_cases hfl : flipC x = true
 ·rw [testL, if_pos hfl]
  have hfl' := hfl
  simp only [flipC, decide_eq_true_eq] at hfl'
  have := test0_goes (x := { x with cmp := notCmp x.cmp }) hd (not_right hx) hxo (fun h => by
   rcases hfl' with h' | h' | h' <;> simp only [h', notCmp, opCmp] at h ⊢ <;> simp at h ⊢) hf ht s hs
  have hh : ({ x with cmp := notCmp x.cmp } : Cd).holds d = !x.holds d := by
   have hn := not_right hx
   simp only [Cd.holds, hx, hn, Bool.true_and]
   have ha : argD d { x with cmp := notCmp x.cmp } = argD d x := rfl
   rw [ha]
   rcases hfl' with h' | h' | h' <;> simp [h', notCmp, cmpB]
   ·rw [Bool.eq_iff_iff]; simp
   ·rw [Bool.eq_iff_iff]; simp
  rw [hh] at this
  cases hb : x.holds d <;> rw [hb] at this <;> simpa using this
 ·rw [testL, if_neg hfl]
  have hfl' := hfl
  simp only [flipC, decide_eq_true_eq] at hfl'
  refine test0_goes hd hx hxo (fun h => ?_) ht hf s hs
  have : x.cmp = 0 ∨ x.cmp = 4 ∨ x.cmp = 5 := by omega
  rcases this with h' | h' | h'
  ·exact h'
  ·rw [h'] at h; simp [opCmp] at h
  ·rw [h'] at h; simp [opCmp] at h
theorem test_ind {d : Da} {c : List In4} {x : Cd} {t f vt vf : Nat} (hd : d.ok) (hx : x.right = true) (hxo : x.ok) (ht : 1 ≤ t ∧ t ≤ c.length) (hf : 1 ≤ f ∧ f ≤ c.length)
  (h1 : Ind d c t vt) (h2 : Ind d c f vf) : Ind d (testL c x t f) (testL c x t f).length (if x.holds d then vt else vf) := by
 intro s hs
 rw [sfx_all]
 obtain ⟨s', ok, e⟩ := test_goes (f := f) hd hx hxo ht hf s hs
 rw [e]
 cases x.holds d
 ·exact h2 _ ok
 ·exact h1 _ ok
end Go.Ev
/- A nil book: the law SymNil. -/
namespace Go.Ev
open Go Go.RowKit
variable {G : Tbl}
set_option maxRecDepth 10000
set_option maxHeartbeats 4000000
set_option linter.unusedSimpArgs false
set_option linter.unusedVariables false
theorem HShut.self {H : Heap} (h : HShut H) : trunc H.length H = H := by
 have := shut_trunc h [] 0
 simpa using this
theorem HShut.back {H : Heap} (h : HShut H) (r : Heap) : trunc H.length (H ++ r) = H := by
 have := shut_trunc h r 0
 simpa using this
theorem HShut.app {H : Heap} (h : HShut H) {r : Heap} (hr : ∀ n, r.map (Option.map (Blk.cl n)) = r) : HShut (H ++ r) := by
 intro m hm
 rw [List.map_append, hr, h m (by rw [List.length_append] at hm; omega)]
theorem HShut.nil : HShut [] := fun _ _ => rfl
structure Nd where
 kind : Nat
 f : List Nat
 n : Nat
 vars : List Nat
 tab : List Nat
 op : Int
 x : Nat
 y : Nat
 deriving DecidableEq
def Nd.cs (a : Nd) : List V := .int .i64 (a.kind : Int) :: (cnats .u32 a.f ++ .int .i64 (a.n : Int) :: (cnats .i64 a.vars ++ (cnats .u32 a.tab ++ [.int .i64 a.op, .int .i64 (a.x : Int), .int .i64 (a.y : Int)])))
def Nd0 : Nd := ⟨0, zeros 35, 0, zeros 4, zeros 16, 0, 0, 0⟩
theorem nz : (V.int .i64 0 :: (cnats .u32 (zeros 35) ++ V.int .i64 0 :: V.int .i64 0 :: V.int .i64 0 :: V.int .i64 0 :: V.int .i64 0 :: (cnats .u32 (zeros 16) ++ [V.int .i64 0, V.int .i64 0, V.int .i64 0]))) = Nd0.cs := rfl
def Nd.ok (a : Nd) : Prop := a.f.length = 35 ∧ a.vars.length = 4 ∧ a.tab.length = 16
theorem Nd.len {a : Nd} (h : a.ok) : a.cs.length = 60 := by simp [Nd.cs, h.1, h.2.1, h.2.2]
end Go.Ev
/- A book in memory: its values, and their numbers. -/
namespace Go.Ev
open Go Go.RowKit
variable {G : Tbl}
set_option maxRecDepth 10000
set_option maxHeartbeats 4000000
set_option linter.unusedSimpArgs false
set_option linter.unusedVariables false
def entsF (i : Nat) : List Nd → List (V × V)
 | [] => []
 | a :: L => (.agg a.cs, .int .i64 (i : Int)) :: entsF (i + 1) L
def ents (L : List Nd) : List (V × V) := entsF 0 L
def nds (L : List Nd) : List (List V) := L.map Nd.cs
def bookC (L : List Nd) (z m : Nat) : Blk := .cells [.vs (nds L) (.own z), .mp m]
structure Bk (H : Heap) (b z m : Nat) (L : List Nd) : Prop where
 hb : H[b]? = some (some (bookC L z m))
 hz : H[z]? = some (some (.zone L.length))
 hm : H[m]? = some (some (.map (ents L)))
 shut : HShut H
 ok : ∀ a ∈ L, a.ok
 small : L.length ≤ 1000000
def upd (H : Heap) (b z m : Nat) (L : List Nd) : Heap := ((H.set b (some (bookC L z m))).set z (some (.zone L.length))).set m (some (.map (ents L)))
theorem upd_len (H : Heap) (b z m : Nat) (L : List Nd) : (upd H b z m L).length = H.length := by simp [upd]
section
variable {H : Heap} {b z m : Nat} {L L' : List Nd}
theorem Bk.bm (h : Bk H b z m L) : b ≠ m := fun e => by have h1 := h.hb; rw [e, h.hm] at h1; simp [bookC] at h1
theorem Bk.lb (h : Bk H b z m L) : b < H.length := (List.getElem?_eq_some_iff.1 h.hb).1
theorem Bk.lz (h : Bk H b z m L) : z < H.length := (List.getElem?_eq_some_iff.1 h.hz).1
theorem Bk.lm (h : Bk H b z m L) : m < H.length := (List.getElem?_eq_some_iff.1 h.hm).1
theorem set_same {α : Type} {l : List α} {i : Nat} {a : α} (h : l[i]? = some a) : l.set i a = l := by
 apply List.ext_getElem?
 intro j
 rw [List.getElem?_set]
 by_cases e : i = j
 ·subst e
  rw [if_pos rfl, if_pos (List.getElem?_eq_some_iff.1 h).1, h]
 ·rw [if_neg e]
theorem ents_cl (n : Nat) : ∀ (L : List Nd) (i : Nat), (entsF i L).map (fun p => (p.1.cl n, p.2.cl n)) = entsF i L
 | [], i => rfl
 | a :: L, i => by
  have ih := ents_cl n L (i + 1)
  have hc : clL n a.cs = a.cs := by rw [clL_eq_map]; simp [Nd.cs, cnats, Function.comp_def, V.cl]
  simp only [entsF, List.map_cons, V.cl, hc, ih]
theorem map_set' {α β : Type} (f : α → β) : ∀ (l : List α) (i : Nat) (a : α), (l.set i a).map f = (l.map f).set i (f a) := fun l i a => List.map_set
theorem Bk.upd_shut (h : Bk H b z m L) (L' : List Nd) : HShut (upd H b z m L') := by
 intro n hn
 rw [upd_len] at hn
 have h1 := h.shut n hn
 have hz := h.lz
 have hm := h.lm
 unfold upd
 rw [map_set', map_set', map_set', h1]
 have c1 : Option.map (Blk.cl n) (some (bookC L' z m)) = some (bookC L' z m) := by
  simp [bookC, Blk.cl, clL, V.cl, Tk.cl, show z < n from by omega, show m < n from by omega]
 have c2 : Option.map (Blk.cl n) (some (Blk.zone L'.length)) = some (.zone L'.length) := rfl
 have c3 : Option.map (Blk.cl n) (some (Blk.map (ents L'))) = some (.map (ents L')) := by
  simp only [Option.map_some, Blk.cl, ents, ents_cl]
 rw [c1, c2, c3]
theorem Bk.app (h : Bk H b z m L) {r : Heap} (hr : ∀ n, r.map (Option.map (Blk.cl n)) = r) : Bk (H ++ r) b z m L :=
 ⟨by rw [List.getElem?_append_left h.lb]; exact h.hb, by rw [List.getElem?_append_left h.lz]; exact h.hz, by rw [List.getElem?_append_left h.lm]; exact h.hm, h.shut.app hr, h.ok, h.small⟩
end
end Go.Ev
/- The smaller functions of a book. -/
namespace Go.Ev
open Go Go.RowKit
variable {G : Tbl}
set_option maxRecDepth 10000
set_option maxHeartbeats 4000000
set_option linter.unusedSimpArgs false
set_option linter.unusedVariables false
variable {H : Heap} {b z m : Nat} {L : List Nd}
def QX (res : List ResV) (R : V → Heap → Prop) (x : Ex) (e1 : Env) (H1 : Heap) : Prop := (x = .nx ∨ x = .ret) ∧ ∃ vs, evRess e1 H1 res = some vs ∧ R (resOf vs) H1
@[simp] theorem QX_nx (res : List ResV) (R : V → Heap → Prop) (e1 : Env) (H1 : Heap) : QX res R .nx e1 H1 = ∃ vs, evRess e1 H1 res = some vs ∧ R (resOf vs) H1 := by simp [QX]
@[simp] theorem QX_ret (res : List ResV) (R : V → Heap → Prop) (e1 : Env) (H1 : Heap) : QX res R .ret e1 H1 = ∃ vs, evRess e1 H1 res = some vs ∧ R (resOf vs) H1 := by simp [QX]
def SF (G : Tbl) (f : Nat) (args : List V) (H : Heap) (r : V) (H' : Heap) : Prop := ∃ r1 H1, Big G (.F f args H r1 H1) ∧ r1.cl H.length = r ∧ trunc H.length H1 = H'
theorem SF_of {f nt : Nat} {body : SCode} {res : List ResV} {args : List V} {r : V} {H H' : Heap} (hg : G f = some ⟨nt, body, res⟩) (hl : args.length ≤ nt)
  (h : W G body [] (mkE (idxE 0 args)) H (QX res fun r1 H1 => r1.cl H.length = r ∧ trunc H.length H1 = H')) : SF G f args H r H' := by
 obtain ⟨x, e1, H1, hb, hx, vs, hvs, hr, ht⟩ := h
 rw [← envOf_eq] at hb
 exact ⟨_, _, .fn hg hl hb hx hvs, hr, ht⟩
theorem callSF_of {f : Nat} {args : List V} {r : V} {H H' : Heap} {base : Nat} {d : Option Nat} {os : List SOper} {K : List Kt} {e : Env} {Q : Ex → Env → Heap → Prop} (h : SF G f args H r H')
  (hr : WO G base os K (e.put d r) H' Q) : callS G f args base d os K e H Q := by
 obtain ⟨r1, H1, hb, hr1, ht⟩ := h
 refine callS_of hb ?_
 rw [hr1, ht]
 exact hr
theorem Bk.back (h : Bk H b z m L) (L' : List Nd) (r : Heap) : trunc H.length (upd H b z m L' ++ r) = upd H b z m L' := by
 have := (h.upd_shut L').back r
 rwa [upd_len] at this
@[simp] theorem nds_length (L : List Nd) : (nds L).length = L.length := by simp [nds]
theorem Bk.hb' (h : Bk H b z m L) : H[b]? = some (some (.cells [.vs (nds L) (.own z), .mp m])) := h.hb
end Go.Ev
/- Conditions, actions' names, policies that may be: contracts. -/
namespace Go.Ev
open Go Go.RowKit
variable {G : Tbl}
set_option maxRecDepth 10000
set_option maxHeartbeats 4000000
set_option linter.unusedSimpArgs false
set_option linter.unusedVariables false
def Cd.cs (c : Cd) : List V := [.int .i64 c.arg, .int .i64 c.cmp, .int .u64 (c.mask : Int), .int .u64 (c.val : Int)]
def CL (l : List Cd) : List (List V) := l.map Cd.cs
@[simp] theorem CL_length (l : List Cd) : (CL l).length = l.length := by simp [CL]
theorem CL_get {l : List Cd} {i : Nat} {x : Cd} (h : l[i]? = some x) : (CL l)[i]? = some x.cs := by simp [CL, h]
theorem CondR_ok [HasCondR G] (c : Cd) : FP G 396 [.agg c.cs] (.bool c.right) := by
 refine FP_of HasCondR.h_cond_Right (Nat.le_of_ble_eq_true rfl) ?_
 by_cases h1 : 0 ≤ c.arg
 ·by_cases h2 : c.arg < 6
  ·by_cases h3 : 0 ≤ c.cmp
   ·by_cases h4 : c.cmp ≤ 5
    ·have h2' : c.arg ≤ 5 := by omega
     simp [Cd.cs, Cd.right, h1, h2, h3, h4, h2']
    ·simp [Cd.cs, Cd.right, h1, h2, h3, h4]
   ·simp [Cd.cs, Cd.right, h1, h2, h3]
  ·have h2' : ¬ c.arg ≤ 5 := by omega
   simp [Cd.cs, Cd.right, h1, h2, h2']
 ·simp [Cd.cs, Cd.right, h1]
def kindsV : List V := [.str [101, 113], .fn 397 [], .int .i64 1, .str [110, 101], .fn 398 [], .int .i64 0, .str [108, 116], .fn 399 [], .int .i64 5, .str [108, 101], .fn 400 [], .int .i64 4, .str [103, 116], .fn 401 [], .int .i64 3, .str [103, 101], .fn 402 [], .int .i64 2]
theorem kinds_ok [HasCondN G] : FP G 403 [] (.agg kindsV) := by
 refine FP_of HasCondN.h_cond_kinds (Nat.le_of_ble_eq_true rfl) ?_
 simp [kindsV]
def notC (c : Cd) : Cd := if c.right then { c with cmp := notCmp c.cmp } else c
theorem Not_ok [HasCondR G] [HasCondN G] (c : Cd) : FP G 404 [.agg c.cs] (.agg (notC c).cs) := by
 refine FP_of HasCondN.h_cond_Not (Nat.le_of_ble_eq_true rfl) ?_
 have hr := CondR_ok (G := G) c
 simp only [Cd.cs] at hr
 simp [Cd.cs]
 refine callP_of hr ?_
 cases h : c.right with
 | false => simp [notC, h]
 | true =>
  have h' := h
  simp only [Cd.right, decide_eq_true_eq] at h'
  obtain ⟨_, _, h3, h4⟩ := h'
  simp
  refine callP_of kinds_ok ?_
  have hc : c.cmp = 0 ∨ c.cmp = 1 ∨ c.cmp = 2 ∨ c.cmp = 3 ∨ c.cmp = 4 ∨ c.cmp = 5 := by omega
  rcases hc with hc | hc | hc | hc | hc | hc <;> simp [notC, h, hc, kindsV, notCmp]
def dig (d : Nat) : UInt8 := UInt8.ofNat (if d < 10 then 48 + d else 87 + d)
def textA (n : Nat) : Nat → List UInt8 × Bool
 | 0 => ([48, 120], false)
 | k + 1 => if (textA n k).2 || decide (0 < n / 2 ^ (60 - 4 * k) % 16) || decide (k = 15) then ((textA n k).1 ++ [dig (n / 2 ^ (60 - 4 * k) % 16)], true) else ((textA n k).1, false)
def textN (n : Nat) : List UInt8 := (textA n 16).1
theorem textA_len (n : Nat) : ∀ k, (textA n k).1.length ≤ 2 + k
 | 0 => by simp [textA]
 | k + 1 => by
  have := textA_len n k
  unfold textA
  split <;> simp <;> omega
theorem dig_at (d : Nat) (h : d < 16) : ([48, 49, 50, 51, 52, 53, 54, 55, 56, 57, 97, 98, 99, 100, 101, 102] : List UInt8)[d]? = some (dig d) := by
 have : ∀ d < 16, ([48, 49, 50, 51, 52, 53, 54, 55, 56, 57, 97, 98, 99, 100, 101, 102] : List UInt8)[d]? = some (dig d) := by decide
 exact this d h
theorem shU {n e : Nat} (h : e ≤ 64) : shrI .u64 (n : Int) (e : Int) = ((n / 2 ^ e : Nat) : Int) := by
 unfold shrI
 have : min (e : Int).toNat IntKind.u64.bits = e := by
  have : IntKind.u64.bits = 64 := rfl
  omega
 rw [this, show ((2 : Int) ^ e) = ((2 ^ e : Nat) : Int) by simp, Int.fdiv_eq_ediv_of_nonneg _ (Int.natCast_nonneg _)]
 simp
theorem and15 {x : Nat} (h : x < 18446744073709551616) : andI .u64 (x : Int) 15 = ((x % 16 : Nat) : Int) := by
 have h1 : (BitVec.ofInt 64 (x : Int) &&& BitVec.ofInt 64 15).toNat = x % 16 := by
  rw [show BitVec.ofInt 64 (x : Int) = BitVec.ofNat 64 x by apply BitVec.eq_of_toNat_eq; simp, show BitVec.ofInt 64 15 = BitVec.ofNat 64 15 from rfl]
  simp only [BitVec.toNat_and, BitVec.toNat_ofNat]
  rw [show 15 % 2 ^ 64 = 2 ^ 4 - 1 from rfl, Nat.and_two_pow_sub_one_eq_mod, Nat.mod_eq_of_lt (show x < 2 ^ 64 from h)]
 have h2 : andI .u64 (x : Int) 15 = IntKind.u64.wrap (((BitVec.ofInt 64 (x : Int) &&& BitVec.ofInt 64 15).toNat : Nat) : Int) := rfl
 rw [h2, h1]
 have : x % 16 < 16 := Nat.mod_lt _ (by decide)
 rw [IntKind.wrap, show IntKind.u64.signed = false from rfl]
 simp [IntKind.bits]
 omega
theorem bytesOf_of : ∀ s : List UInt8, bytesOf (ofBytes s) = some s
 | [] => rfl
 | b :: s => by
  have ih := bytesOf_of s
  simp only [ofBytes] at ih
  simp [ofBytes, bytesOf, ih]
theorem Text_ok [HasWText G] (n : Nat) (hn : n < 18446744073709551616) : FP G 392 [.int .u64 n] (.str (textN n)) := by
 refine FP_of HasWText.h_word_Text (Nat.le_of_ble_eq_true rfl) ?_
 obtain ⟨T, hT⟩ : ∃ T : Nat → List UInt8 × Bool, ∀ k, T k = textA n k := ⟨_, fun _ => rfl⟩
 have hTl : ∀ k, (T k).1.length ≤ 2 + k := fun k => by rw [hT]; exact textA_len n k
 simp
 refine W_up 16 (fun k => [(0, .int .u64 n), (3, .vs (ofBytes (T k).1) (.own 1)), (4, .bool (T k).2), (5, .int .i64 (60 - 4 * (k : Int)))]) (fun k => [some (.zone 1), some (.zone (T k).1.length)]) (fun _ => True) ?_ ?_
 ·simp [keep_cl, trunc, hT, textA, ofBytes, chunks]
 intro k hk _
 rcases Nat.eq_or_lt_of_le hk with hk | hk
 ·subst hk
  simp [keep_cl, trunc, bytesOf_of, hT, textN]
  done
 ·obtain ⟨e, he⟩ : ∃ e, e = 60 - 4 * k := ⟨_, rfl⟩
  obtain ⟨d, hd⟩ : ∃ d, d = n / 2 ^ e % 16 := ⟨_, rfl⟩
  have he2 : (60 - 4 * (k : Int)) = (e : Int) := by omega
  have a1 := shU (n := n) (e := e) (by omega)
  have hq : n / 2 ^ e < 18446744073709551616 := Nat.lt_of_le_of_lt (Nat.div_le_self _ _) hn
  have a2 := and15 hq
  have hd16 : d < 16 := by omega
  have a3 := dig_at d hd16
  rw [← hd] at a2
  have hl := hTl k
  have hT1 : T (k + 1) = if (T k).2 || decide (0 < d) || decide (k = 15) then ((T k).1 ++ [dig d], true) else ((T k).1, false) := by rw [hT, hT, textA, ← he, ← hd]
  rw [he2]
  simp (disch := omega) [keep_cl, trunc, a1, a2, a3, ltF, ltT, ltTn, eqT, eqF, subI64, -Int.natCast_emod, -Int.natCast_ediv, -Int.natCast_pow]
  have e60 : (60 : Int) - 4 * ((k + 1 : Nat) : Int) = (e : Int) - 4 := by omega
  have s4 : subI .i64 (e : Int) 4 = (e : Int) - 4 := subI64 (by omega) (by omega)
  have hlen : (ofBytes (T k).1).length = (T k).1.length := by simp [ofBytes]
  have hnx : ∀ b, (T k).2 = b → (b || decide (0 < d) || decide (k = 15)) = true → T (k + 1) = ((T k).1 ++ [dig d], true) := fun b hb hc => by rw [hT1, if_pos (by rw [hb]; exact hc)]
  have hno : (T k).2 = false → ¬ 0 < d → ¬ k = 15 → T (k + 1) = ((T k).1, false) := fun hb h1 h2 => by rw [hT1, if_neg (by simp [hb, h1, h2])]
  have hob : ofBytes ((T k).1 ++ [dig d]) = ofBytes (T k).1 ++ [[.int .u8 ((dig d).toNat : Nat)]] := by simp [ofBytes]
  have hfe : ∀ f ∈ ofBytes (T k).1, f.length = 1 := by intro f hf; simp only [ofBytes, List.mem_map] at hf; obtain ⟨_, _, rfl⟩ := hf; rfl
  have hfe' := eq_true hfe
  have hle : ((T k).1.length ≤ 140737488355327) = True := eq_true (by omega)
  have a4 : ([48, 49, 50, 51, 52, 53, 54, 55, 56, 57, 97, 98, 99, 100, 101, 102] : List UInt8)[d]'(by simp; omega) = dig d := by
   have := a3; rw [List.getElem?_eq_getElem (by simp; omega)] at this; exact Option.some.inj this
  cases hb : (T k).2 with
  | true =>
   simp (disch := omega) [keep_cl, trunc, a4, hle, hfe', ltF, ltT, s4, hnx _ hb rfl, hob, hlen, e60, -Int.natCast_add]
   exact hk
  | false =>
   by_cases hd0 : 0 < d
   ·have hd0' := eq_true hd0
    have hn0 : ¬ (0 = d) := by omega
    simp (disch := omega) [keep_cl, trunc, a4, hle, hfe', ltF, ltT, s4, hnx _ hb (by simp [hd0]), hob, hlen, e60, hd0', -Int.natCast_add]
    exact hk
   ·have hd00 : d = 0 := by omega
    subst hd00
    by_cases hk15 : k = 15
    ·have : e = 0 := by omega
     subst this
     simp (disch := omega) [keep_cl, trunc, a4, hle, hfe', ltF, ltT, s4, hnx _ hb (by simp [hk15]), hob, hlen, e60, show subI .i64 0 4 = -4 from rfl, -Int.natCast_add]
     exact hk
    ·have hne : ((e : Int) = 0) = False := eq_false (by omega)
     have hne' : ((e : Int) == 0) = false := by simp; omega
     simp (disch := omega) [keep_cl, trunc, a4, hle, hfe', ltF, ltT, s4, hno hb hd0 hk15, hob, hlen, e60, hne, hne', -Int.natCast_add]
     exact hk
end Go.Ev
/- Arguments of the statements: conditions. -/
namespace Go.Ev
open Go Go.RowKit
set_option linter.unusedSimpArgs false
set_option linter.unusedVariables false
theorem cond_cells {cs : List V} (h : HasTy (.agg [.int .i64, .int .i64, .int .u64, .int .u64]) cs) : ∃ x : Cd, cs = x.cs ∧ x.ok := by
 unfold HasTy HasTys at h
 obtain ⟨a, b, rfl, h1, h⟩ := h
 unfold HasTys at h
 obtain ⟨c, d, rfl, h2, h⟩ := h
 unfold HasTys at h
 obtain ⟨f, g, rfl, h3, h⟩ := h
 unfold HasTys at h
 obtain ⟨k, l, rfl, h4, h⟩ := h
 unfold HasTys at h
 subst h
 obtain ⟨n1, rfl, w1⟩ := hasty_int h1
 obtain ⟨n2, rfl, w2⟩ := hasty_int h2
 obtain ⟨n3, rfl, w3⟩ := u64_cell h3
 obtain ⟨n4, rfl, w4⟩ := u64_cell h4
 exact ⟨⟨n1, n2, n3, n4⟩, rfl, w3, w4⟩
end Go.Ev
/- Labels and branches: contracts. -/
namespace Go.Ev
open Go Go.RowKit
variable {G : Tbl}
set_option maxRecDepth 10000
set_option maxHeartbeats 4000000
set_option linter.unusedSimpArgs false
set_option linter.unusedVariables false
theorem ahead_ok [HasCode G] (c : List In4) (x : In4) (h : c.length < 4096) : FP G 407 [FL c, FL [x]] (.tup [FL (x :: c), .int .i64 (c.length + 1 : Nat), .int .i64 0]) := by
 refine FP_of HasCode.h_code_ahead (Nat.le_of_ble_eq_true rfl) ?_
 have e1 : addI .i64 (c.length : Int) 1 = ((c.length + 1 : Nat) : Int) := by rw [addI64] <;> omega
 have e2 : (4096 < ((c.length + 1 : Nat) : Int)) = False := eq_false (by omega)
 have i2 : ((1 + c.length) * 32 ≤ 140737488355328) = True := eq_true (by omega)
 have hx : IL [x] = [x.cs] := rfl
 have hxc : ∀ c, x.cs :: IL c = IL (x :: c) := fun _ => rfl
 by_cases hl : c = []
 ·subst hl
  have e1 : addI .i64 (0 : Int) 1 = 1 := rfl
  simp [FL, e1, hx, keep_cl, trunc, chunks]
 ·have hl' : (IL c = []) = False := eq_false (by simpa [IL_eq_nil] using hl)
  simp [FL, e1, e2, i2, hl', hx, hxc, keep_cl, trunc, IL_append, chunks, -Int.natCast_add]
theorem label_ok [HasCode G] (c : List In4) (t : Nat) : FP G 408 [FL c, .int .i64 t] (.bool (decide (1 ≤ t ∧ t ≤ c.length))) := by
 refine FP_of HasCode.h_code_label (Nat.le_of_ble_eq_true rfl) ?_
 by_cases h1 : 1 ≤ t
 ·have e1 : (1 ≤ (t : Int)) = True := eq_true (by omega)
  have e2 : ((t : Int) ≤ (c.length : Int)) = (t ≤ c.length) := by simp
  simp [FL, e1, e2, h1]
 ·have e1 : (1 ≤ (t : Int)) = False := eq_false (by omega)
  simp [FL, e1, h1]
theorem Add_ok [HasIns G] [HasCode G] (c : List In4) (op : Int) (k : Nat) (ho : addOk op k) (h : c.length < 4096) : FP G 409 [FL c, IV ⟨op, 0, 0, k⟩] (.tup [FL (putF c op k), .int .i64 (putF c op k).length, .int .i64 0]) := by
 refine FP_of HasCode.h_code_Add (Nat.le_of_ble_eq_true rfl) ?_
 obtain ⟨a1, a2, a3, a4⟩ := add_right ho
 have w1 := RightI_ok (G := G) ⟨op, 0, 0, k⟩
 have w2 := Branch_ok (G := G) ⟨op, 0, 0, k⟩
 have w3 := ahead_ok (G := G) c ⟨op, 0, 0, k⟩ h
 rw [a1] at w1
 rw [a3] at w2
 simp only [IV, In4.cs, FL, IL, List.map_cons, List.map_nil] at w1 w2 w3
 simp [FL, IV, In4.cs]
 refine callP_of w1 ?_
 simp [beqF a4]
 refine callP_of w2 ?_
 simp
 refine callP_of w3 ?_
 simp [putF, IL, In4.cs]
theorem Jump_ok [HasCode G] (c : List In4) (t : Nat) (ht : 1 ≤ t ∧ t < c.length) (h : c.length < 4096) : FP G 410 [FL c, .int .i64 t] (.tup [FL (⟨5, 0, 0, c.length - t⟩ :: c), .int .i64 (c.length + 1 : Nat), .int .i64 0]) := by
 refine FP_of HasCode.h_code_Jump (Nat.le_of_ble_eq_true rfl) ?_
 have w1 := label_ok (G := G) c t
 rw [decide_eq_true (show 1 ≤ t ∧ t ≤ c.length by omega)] at w1
 have w3 := ahead_ok (G := G) c ⟨5, 0, 0, c.length - t⟩ h
 simp only [IV, In4.cs, FL, IL, List.map_cons, List.map_nil] at w1 w3
 have e1 : ((t : Int) = (c.length : Int)) = False := eq_false (by omega)
 have e1' : ((t : Int) == (c.length : Int)) = false := by simp; omega
 have e2 : subI .i64 (c.length : Int) (t : Int) = ((c.length - t : Nat) : Int) := by rw [subI64] <;> omega
 have e3 : convI .u32 ((c.length - t : Nat) : Int) = ((c.length - t : Nat) : Int) := IntWalk.u32_in _ ⟨by omega, by omega⟩
 simp [FL, IL]
 refine callP_of w1 ?_
 simp [e1, e1', e2, e3]
 refine callP_of w3 ?_
 simp [IL, In4.cs]
theorem closer_ok [HasCode G] (c : List In4) (t : Nat) (ht : 1 ≤ t ∧ t ≤ c.length) (h : c.length < 4096) : FP G 411 [FL c, .int .i64 t] (.tup [FL (nearL c t), .int .i64 (nearT c t), .int .i64 0]) := by
 refine FP_of HasCode.h_code_closer (Nat.le_of_ble_eq_true rfl) ?_
 have e2 : subI .i64 (c.length : Int) (t : Int) = ((c.length - t : Nat) : Int) := by rw [subI64] <;> omega
 by_cases hn : c.length - t ≤ 254
 ·have e3 : (((c.length - t : Nat) : Int) ≤ 254) = True := eq_true (by omega)
  simp [FL, e2, e3, nearL, nearT, hn]
 ·have e3 : (((c.length - t : Nat) : Int) ≤ 254) = False := eq_false (by omega)
  have w := Jump_ok (G := G) c t (by omega) h
  simp only [FL] at w
  simp [FL, e2, e3, nearL, nearT, hn]
  refine callP_of w ?_
  simp
theorem BranchC_ok [HasIns G] [HasCode G] (c : List In4) (op : Int) (k t f : Nat) (ho : brOp op) (ht : 1 ≤ t ∧ t ≤ c.length) (hf : 1 ≤ f ∧ f ≤ c.length) (h : c.length + 3 ≤ 4096) :
  FP G 412 [FL c, .int .i64 op, .int .u32 k, .int .i64 t, .int .i64 f] (.tup [FL (branchL c op k t f), .int .i64 (branchL c op k t f).length, .int .i64 0]) := by
 refine FP_of HasCode.h_code_Branch (Nat.le_of_ble_eq_true rfl) ?_
 have hb : isBr op = true := by rcases ho with rfl | rfl | rfl <;> decide
 have w1 := Branch_ok (G := G) ⟨op, 0, 0, k⟩
 have w2 := RightI_ok (G := G) ⟨op, 0, 0, k⟩
 have hr : rightI ⟨op, 0, 0, k⟩ = true := by
  have key : ∀ op : Int, brOp op → (shapeOf op).map (fun r => (r.2.2.1, r.2.2.2)) = some (true, true) := by rintro op (rfl | rfl | rfl) <;> decide
  have k1 := key op ho
  rw [Option.map_eq_some_iff] at k1
  obtain ⟨r, k5, k6⟩ := k1
  simp only [Prod.mk.injEq] at k6
  simp [rightI, k5, k6.1, k6.2]
 rw [hb] at w1
 rw [hr] at w2
 have g1 := near_grown c t
 have g2 := near_grown (nearL c t) f
 have l1 := near_lab ht
 have p1 := g1.len
 have hf1 : 1 ≤ f ∧ f ≤ (nearL c t).length := ⟨hf.1, by omega⟩
 have l2 := near_lab hf1
 have p2 := g2.len
 have w3 := label_ok (G := G) c t
 have w4 := label_ok (G := G) c f
 rw [decide_eq_true ht] at w3
 rw [decide_eq_true hf] at w4
 have w5 := closer_ok (G := G) c t ht (by omega)
 have w6 := closer_ok (G := G) (nearL c t) f hf1 (by omega)
 have w7 := ahead_ok (G := G) (nearL (nearL c t) f) ⟨op, ((nearL (nearL c t) f).length - nearT c t : Nat), ((nearL (nearL c t) f).length - nearT (nearL c t) f : Nat), k⟩ (by omega)
 unfold branchL
 generalize hc2 : nearL (nearL c t) f = c2 at *
 generalize nearL c t = c1 at *
 generalize nearT c t = t1 at *
 generalize nearT c1 f = f1 at *
 have e1 : subI .i64 (c2.length : Int) (t1 : Int) = ((c2.length - t1 : Nat) : Int) := by rw [subI64] <;> omega
 have e2 : subI .i64 (c2.length : Int) (f1 : Int) = ((c2.length - f1 : Nat) : Int) := by rw [subI64] <;> omega
 simp only [IV, In4.cs, FL, IL, List.map_cons, List.map_nil] at w1 w2 w3 w4 w5 w6 w7
 simp [FL, IL]
 refine callP_of w1 ?_
 simp
 refine callP_of w2 ?_
 simp
 refine callP_of w3 ?_
 simp
 refine callP_of w4 ?_
 simp
 refine callP_of w5 ?_
 simp
 refine callP_of w6 ?_
 simp [e1, e2]
 refine callP_of w7 ?_
 simp [IL, In4.cs]
theorem Low_ok [HasDataL G] (a : Int) (h : 0 ≤ a ∧ a ≤ 5) : FP G 413 [.int .i64 a] (.int .u32 ((16 + 8 * a.toNat : Nat) : Int)) := by
 have : a = 0 ∨ a = 1 ∨ a = 2 ∨ a = 3 ∨ a = 4 ∨ a = 5 := by omega
 rcases this with rfl | rfl | rfl | rfl | rfl | rfl <;> (refine FP_of HasDataL.h_data_Low (Nat.le_of_ble_eq_true rfl) ?_) <;> simp <;> decide
theorem High_ok [HasDataL G] (a : Int) (h : 0 ≤ a ∧ a ≤ 5) : FP G 414 [.int .i64 a] (.int .u32 ((20 + 8 * a.toNat : Nat) : Int)) := by
 refine FP_of HasDataL.h_data_High (Nat.le_of_ble_eq_true rfl) ?_
 have w := Low_ok (G := G) a h
 have : a = 0 ∨ a = 1 ∨ a = 2 ∨ a = 3 ∨ a = 4 ∨ a = 5 := by omega
 rcases this with rfl | rfl | rfl | rfl | rfl | rfl <;> simp <;> refine callP_of w ?_ <;> simp <;> decide
end Go.Ev
/- A maker in memory: contracts. -/
namespace Go.Ev
open Go Go.RowKit
variable {G : Tbl}
set_option maxRecDepth 10000
set_option maxHeartbeats 4000000
set_option linter.unusedSimpArgs false
set_option linter.unusedVariables false
def mkrC (c : List In4) (tk : Tk) : Blk := .cells [.vs (IL c) tk, .int .i64 0]
structure Mkr (H : Heap) (b : Nat) (c : List In4) (tk : Tk) : Prop where
 hb : H[b]? = some (some (mkrC c tk))
 htk : tk = .no ∨ tk = .full
 shut : HShut H
def mkSet (H : Heap) (b : Nat) (c : List In4) : Heap := H.set b (some (mkrC c .no))
@[simp] theorem mkSet_len (H : Heap) (b : Nat) (c : List In4) : (mkSet H b c).length = H.length := by simp [mkSet]
section
variable {H : Heap} {b : Nat} {c c' : List In4} {tk : Tk}
theorem Mkr.lb (h : Mkr H b c tk) : b < H.length := (List.getElem?_eq_some_iff.1 h.hb).1
theorem mkSet_shut (h : HShut H) (c' : List In4) : HShut (mkSet H b c') := by
 intro n hn
 simp only [mkSet_len] at hn
 have h1 := h n hn
 unfold mkSet
 rw [map_set', h1]
 simp [mkrC, Blk.cl, clL, V.cl, Tk.cl]
theorem Mkr.set (h : Mkr H b c tk) (c' : List In4) : Mkr (mkSet H b c') b c' .no := ⟨by rw [mkSet, List.getElem?_set_self h.lb], .inl rfl, mkSet_shut h.shut c'⟩
theorem mkSet_mkSet (c c' : List In4) : mkSet (mkSet H b c) b c' = mkSet H b c' := by simp [mkSet]
theorem mkSet_ne {i : Nat} (h : i ≠ b) (c' : List In4) : (mkSet H b c')[i]? = H[i]? := by rw [mkSet, List.getElem?_set_ne (Ne.symm h)]
theorem mkSet_app (h : b < H.length) (c' : List In4) (R : Heap) : mkSet (H ++ R) b c' = mkSet H b c' ++ R := by rw [mkSet, mkSet, List.set_append_left _ _ h]
theorem HShut.appL (h : HShut H) {R : Heap} (hr : ∀ m, H.length + R.length ≤ m → R.map (Option.map (Blk.cl m)) = R) : HShut (H ++ R) := by
 intro m hm
 rw [List.length_append] at hm
 rw [List.map_append, h m (by omega), hr m hm]
theorem Mkr.app (h : Mkr H b c tk) {R : Heap} (hr : ∀ m, H.length + R.length ≤ m → R.map (Option.map (Blk.cl m)) = R) : Mkr (H ++ R) b c tk :=
 ⟨by rw [List.getElem?_append_left h.lb]; exact h.hb, h.htk, h.shut.appL hr⟩
theorem Mkr.hb' (h : Mkr H b c tk) : H[b]? = some (some (.cells [.vs (IL c) tk, .int .i64 0])) := h.hb
theorem Mkr.ne (h : Mkr H b c tk) {i : Nat} {v : V} (hi : H[i]? = some (some (.cells [v]))) : i ≠ b := by
 intro e
 rw [e, h.hb] at hi
 simp [mkrC] at hi
theorem took_ok [HasMk G] (h : Mkr H b c tk) (c' : List In4) (l : Nat) : SF G 415 [.ptr b 0, FL c', .int .i64 l, .int .i64 0] H (.int .i64 l) (mkSet H b c') := by
 refine SF_of HasMk.h_lower_maker_took (Nat.le_of_ble_eq_true rfl) ?_
 have hb := h.hb'
 have hlb := h.lb
 have hs := (mkSet_shut (b := b) h.shut c').self
 rw [mkSet_len] at hs
 simp only [mkSet, mkrC] at hs
 have hg : ∀ x : Option Blk, (H.set b x)[b]? = some x := fun x => List.getElem?_set_self hlb
 simp [hb, FL, hg, mkSet, mkrC, hs]
 done
theorem addM_ok [HasIns G] [HasCode G] [HasMk G] (h : Mkr H b c tk) (op : Int) (k : Nat) (ho : addOk op k) (hl : c.length < 4096) : SF G 416 [.ptr b 0, .int .i64 op, .int .u32 k] H (.int .i64 (putF c op k).length) (mkSet H b (putF c op k)) := by
 refine SF_of HasMk.h_lower_maker_add (Nat.le_of_ble_eq_true rfl) ?_
 have w1 := Add_ok (G := G) c op k ho hl
 have w2 := took_ok (G := G) h (putF c op k) (putF c op k).length
 have hs := (mkSet_shut (b := b) h.shut (putF c op k)).self
 rw [mkSet_len] at hs
 have hb := h.hb'
 simp only [FL, IV, In4.cs] at w1 w2
 simp [hb]
 refine callP_of w1 ?_
 simp
 refine callSF_of w2 ?_
 simp [hs]
theorem branchM_ok [HasIns G] [HasCode G] [HasMk G] (h : Mkr H b c tk) (op : Int) (k t f : Nat) (ho : brOp op) (ht : 1 ≤ t ∧ t ≤ c.length) (hf : 1 ≤ f ∧ f ≤ c.length) (hl : c.length + 3 ≤ 4096) :
  SF G 417 [.ptr b 0, .int .i64 op, .int .u32 k, .int .i64 t, .int .i64 f] H (.int .i64 (branchL c op k t f).length) (mkSet H b (branchL c op k t f)) := by
 refine SF_of HasMk.h_lower_maker_branch (Nat.le_of_ble_eq_true rfl) ?_
 have w1 := BranchC_ok (G := G) c op k t f ho ht hf hl
 have w2 := took_ok (G := G) h (branchL c op k t f) (branchL c op k t f).length
 have hs := (mkSet_shut (b := b) h.shut (branchL c op k t f)).self
 rw [mkSet_len] at hs
 have hb := h.hb'
 simp only [FL] at w1 w2
 simp [hb]
 refine callP_of w1 ?_
 simp
 refine callSF_of w2 ?_
 simp [hs]
theorem part_ok [HasIns G] [HasCode G] [HasMk G] {H1 : Heap} {c1 : List In4} {g : Nat} {cap : List V} {r : V} (at_ mask : Nat) (hg : SF G g cap H r H1) (h1 : Mkr H1 b c1 .no) (hlen : H1.length = H.length)
  (ha : addOk 32 at_) (hl : c1.length + 1 < 4096) : SF G 418 [.ptr b 0, .int .u32 at_, .int .u32 mask, .fn g cap] H (.tup []) (mkSet H1 b (putF (putF c1 84 mask) 32 at_)) := by
 refine SF_of HasMk.h_lower_maker_part (Nat.le_of_ble_eq_true rfl) ?_
 have w1 := addM_ok (G := G) h1 84 mask (.inl rfl) (by omega)
 have w2 := addM_ok (G := G) (h1.set (putF c1 84 mask)) 32 at_ ha (by simp [putF]; omega)
 rw [mkSet_mkSet] at w2
 have hs := (mkSet_shut (b := b) h1.shut (putF (putF c1 84 mask) 32 at_)).self
 rw [mkSet_len, hlen] at hs
 obtain ⟨r1, H2, hb, hr, ht⟩ := hg
 simp
 refine callV_of (H1 := H2) (by simpa using hb) (fun h => by simp at h) ?_
 rw [hr, ht]
 simp
 refine callSF_of w1 ?_
 simp
 refine callSF_of w2 ?_
 simp [hs]
def i1C (n : Int) : Option (Option Blk) := some (some (.cells [.int .i64 n]))
def u1C (n : Int) : Option (Option Blk) := some (some (.cells [.int .u32 n]))
theorem testc1_ok [HasIns G] [HasCode G] [HasMk G] (h : Mkr H b c tk) {pm po pl pt pf : Nat} (op : Int) (k t f : Nat) (hm : H[pm]? = some (some (.cells [.ptr b 0]))) (hop : H[po]? = i1C op) (hlo : H[pl]? = u1C k) (hpt : H[pt]? = i1C t) (hpf : H[pf]? = i1C f)
  (ho : brOp op) (ht : 1 ≤ t ∧ t ≤ c.length) (hf : 1 ≤ f ∧ f ≤ c.length) (hl : c.length + 3 ≤ 4096) :
  SF G 419 [.ptr pm 0, .ptr po 0, .ptr pl 0, .ptr pt 0, .ptr pf 0] H (.int .i64 (branchL c op k t f).length) (mkSet H b (branchL c op k t f)) := by
 refine SF_of HasMk.h_lower_maker_test_1 (Nat.le_of_ble_eq_true rfl) ?_
 have w := branchM_ok (G := G) h op k t f ho ht hf hl
 have hs := (mkSet_shut (b := b) h.shut (branchL c op k t f)).self
 rw [mkSet_len] at hs
 simp only [i1C, u1C] at hop hlo hpt hpf
 simp [hm, hop, hlo, hpt, hpf]
 refine callSF_of w ?_
 simp [hs]
def half2 (c : List In4) (op : Int) (k t f lw : Nat) : List In4 := if op = 21 then branchL c 21 k lw f else branchL (branchL c 37 k t f) 21 k lw (branchL c 37 k t f).length
def half2H (H : Heap) (c : List In4) (op : Int) (k t f pf : Nat) : Heap := if op = 21 then H else H.set pf (i1C ((branchL c 37 k t f).length : Nat)).get!
theorem testc2_ok [HasIns G] [HasCode G] [HasMk G] (h : Mkr H b c tk) {pm po ph pt pf pw : Nat} (op : Int) (k t f lw : Nat) (hm : H[pm]? = some (some (.cells [.ptr b 0]))) (hop : H[po]? = i1C op) (hhi : H[ph]? = u1C k) (hpt : H[pt]? = i1C t) (hpf : H[pf]? = i1C f) (hpw : H[pw]? = i1C lw)
  (hne : pm ≠ pf ∧ ph ≠ pf ∧ pw ≠ pf) (ht : 1 ≤ t ∧ t ≤ c.length) (hf : 1 ≤ f ∧ f ≤ c.length) (hw : 1 ≤ lw ∧ lw ≤ c.length) (hl : c.length + 6 ≤ 4096) :
  SF G 420 [.ptr po 0, .ptr pm 0, .ptr ph 0, .ptr pt 0, .ptr pf 0, .ptr pw 0] H (.int .i64 (half2 c op k t f lw).length) (mkSet (half2H H c op k t f pf) b (half2 c op k t f lw)) := by
 refine SF_of HasMk.h_lower_maker_test_2 (Nat.le_of_ble_eq_true rfl) ?_
 have nm := h.ne hm
 have no := h.ne (by simpa [i1C] using hop)
 have nh := h.ne (by simpa [u1C] using hhi)
 have nt := h.ne (by simpa [i1C] using hpt)
 have nf := h.ne (by simpa [i1C] using hpf)
 have nw := h.ne (by simpa [i1C] using hpw)
 have lpf : pf < H.length := by simp only [i1C] at hpf; exact (List.getElem?_eq_some_iff.1 hpf).1
 simp only [i1C, u1C] at hop hhi hpt hpf hpw
 by_cases e : op = 21
 ·subst e
  have w := branchM_ok (G := G) h 21 k lw f (.inl rfl) hw hf (by omega)
  have hs := (mkSet_shut (b := b) h.shut (branchL c 21 k lw f)).self
  rw [mkSet_len] at hs
  simp [hm, hop, hhi, hpt, hpf, hpw]
  refine callSF_of w ?_
  simp [hs, half2, half2H]
 ·have w1 := branchM_ok (G := G) h 37 k t f (.inr (.inl rfl)) ht hf (by omega)
  have g := (branch_grown c 37 k t f).len
  have gp := branch_pos c 37 k t f
  simp only [half2, half2H, if_neg e, i1C, Option.get!_some]
  generalize hc1 : branchL c 37 k t f = c1 at *
  have hshut : HShut ((mkSet H b c1).set pf (some (.cells [.int .i64 (c1.length : Nat)]))) := by
   intro n hn
   rw [List.length_set] at hn
   rw [map_set', mkSet_shut h.shut c1 n hn]
   simp [Blk.cl, clL, V.cl]
  have hm1 : Mkr ((mkSet H b c1).set pf (some (.cells [.int .i64 (c1.length : Nat)]))) b c1 .no := ⟨by rw [List.getElem?_set_ne nf]; exact (h.set c1).hb, .inl rfl, hshut⟩
  have w2 := branchM_ok (G := G) hm1 21 k lw c1.length (.inl rfl) ⟨hw.1, by omega⟩ (by omega) (by omega)
  have hs := (mkSet_shut (b := b) hshut (branchL c1 21 k lw c1.length)).self
  rw [mkSet_len, List.length_set, mkSet_len] at hs
  have e' : (op != 21) = true := bneT e
  have m1 : (mkSet H b c1)[pm]? = some (some (.cells [.ptr b 0])) := by rw [mkSet_ne nm]; exact hm
  have m2 : (mkSet H b c1)[ph]? = some (some (.cells [.int .u32 k])) := by rw [mkSet_ne nh]; exact hhi
  have m3 : (mkSet H b c1)[pf]? = some (some (.cells [.int .i64 f])) := by rw [mkSet_ne nf]; exact hpf
  have m4 : (mkSet H b c1)[pw]? = some (some (.cells [.int .i64 lw])) := by rw [mkSet_ne nw]; exact hpw
  have m5 : ∀ x, ((mkSet H b c1).set pf x)[pm]? = some (some (.cells [.ptr b 0])) := fun x => by rw [List.getElem?_set_ne hne.1.symm]; exact m1
  have m6 : ∀ x, ((mkSet H b c1).set pf x)[ph]? = some (some (.cells [.int .u32 k])) := fun x => by rw [List.getElem?_set_ne hne.2.1.symm]; exact m2
  have m7 : ∀ x, ((mkSet H b c1).set pf x)[pw]? = some (some (.cells [.int .i64 lw])) := fun x => by rw [List.getElem?_set_ne hne.2.2.symm]; exact m4
  have m8 : ∀ x : Option Blk, ((mkSet H b c1).set pf x)[pf]? = some x := fun x => List.getElem?_set_self (by rw [mkSet_len]; exact lpf)
  have fin : mkSet ((mkSet H b c1).set pf (some (.cells [.int .i64 (c1.length : Nat)]))) b (branchL c1 21 k lw c1.length) = mkSet (H.set pf (some (.cells [.int .i64 (c1.length : Nat)]))) b (branchL c1 21 k lw c1.length) := by
   unfold mkSet
   rw [List.set_comm _ _ (Ne.symm nf)]
   simp
   done
  rw [fin] at hs w2
  simp [hm, hop, hhi, hpt, hpf, e, e']
  refine callSF_of w1 ?_
  simp [m3, m5, m6, m7, m8]
  refine callSF_of w2 ?_
  simp [hs]
def tR (b : Nat) (y : Cd) (t f : Nat) : Heap := [some (.cells [.ptr b 0]), some (.cells y.cs), some (.cells [.int .i64 t]), some (.cells [.int .i64 f]), some (.cells [.int .u32 (lo y.val : Nat)]), some (.cells [.int .u32 (hi y.val : Nat)]), some (.cells [.int .i64 (opCmp y.cmp)])]
theorem tR_cl {b m : Nat} (y : Cd) (t f : Nat) (hb : b < m) : (tR b y t f).map (Option.map (Blk.cl m)) = tR b y t f := by
 simp [tR, Blk.cl, clL, V.cl, Cd.cs, hb]
theorem part1_ok [HasIns G] [HasCode G] [HasMk G] (h : Mkr H b c tk) (y : Cd) (t f : Nat) (hy : y.right = true) (ht : 1 ≤ t ∧ t ≤ c.length) (hf : 1 ≤ f ∧ f ≤ c.length) (hl : c.length + 13 ≤ 4096) :
  SF G 418 [.ptr b 0, .int .u32 (16 + 8 * y.arg.toNat : Nat), .int .u32 (lo y.mask : Nat), .fn 419 [.ptr H.length 0, .ptr (H.length + 6) 0, .ptr (H.length + 4) 0, .ptr (H.length + 2) 0, .ptr (H.length + 3) 0]] (H ++ tR b y t f) (.tup []) (mkSet H b (test1 c y t f) ++ tR b y t f) := by
 have h1 := h.app (R := tR b y t f) (fun m hm => tR_cl y t f (by have := h.lb; omega))
 have g : ∀ i, (H ++ tR b y t f)[H.length + i]? = (tR b y t f)[i]? := fun i => by rw [List.getElem?_append_right (by omega)]; congr 1; omega
 have w := testc1_ok (G := G) h1 (opCmp y.cmp) (lo y.val) t f (g 0) (g 6) (g 4) (g 2) (g 3) (op_br _) ht hf (by omega)
 have := (branch_grown c (opCmp y.cmp) (lo y.val) t f).len
 have p := part_ok (G := G) (b := b) (16 + 8 * y.arg.toNat) (lo y.mask) w (h1.set _) (by simp) (addr_ok hy 16 (.inl rfl)) (by omega)
 rw [mkSet_mkSet, mkSet_app h.lb] at p
 exact p
theorem part2_ok [HasIns G] [HasCode G] [HasMk G] (h : Mkr H b c tk) (y : Cd) (t f : Nat) (hy : y.right = true) (ht : 1 ≤ t ∧ t ≤ c.length) (hf : 1 ≤ f ∧ f ≤ c.length) (hl : c.length + 13 ≤ 4096) :
  ∃ R, SF G 418 [.ptr b 0, .int .u32 (20 + 8 * y.arg.toNat : Nat), .int .u32 (hi y.mask : Nat), .fn 420 [.ptr (H.length + 6) 0, .ptr H.length 0, .ptr (H.length + 5) 0, .ptr (H.length + 2) 0, .ptr (H.length + 3) 0, .ptr (H.length + 7) 0]]
   (mkSet H b (test1 c y t f) ++ (tR b y t f ++ [some (.cells [.int .i64 (test1 c y t f).length])])) (.tup []) (mkSet H b (test0 c y t f) ++ some (.cells [.ptr b 0]) :: R) := by
 have g1 := (test1_grown c y t f).len
 have h0 := h.set (test1 c y t f)
 have h1 := h0.app (R := tR b y t f ++ [some (.cells [.int .i64 (test1 c y t f).length])]) (fun m hm => by
  have := h.lb
  simp only [mkSet_len] at hm
  rw [List.map_append, tR_cl y t f (by omega)]
  simp [Blk.cl, clL, V.cl])
 have g : ∀ i, (mkSet H b (test1 c y t f) ++ (tR b y t f ++ [some (.cells [.int .i64 (test1 c y t f).length])]))[H.length + i]? = (tR b y t f ++ [some (.cells [.int .i64 (test1 c y t f).length])])[i]? := fun i => by
  rw [List.getElem?_append_right (by simp), mkSet_len]; congr 1; omega
 have w := testc2_ok (G := G) h1 (opCmp y.cmp) (hi y.val) t f (test1 c y t f).length (g 0) (g 6) (g 5) (g 2) (g 3) (g 7) ⟨by omega, by omega, by omega⟩ ⟨ht.1, by omega⟩ ⟨hf.1, by omega⟩ (by omega) (by omega)
 have e2 : half2 (test1 c y t f) (opCmp y.cmp) (hi y.val) t f (test1 c y t f).length = branchL (test2 c y t f) 21 (hi y.val) (test1 c y t f).length (if opCmp y.cmp = 21 then f else (test2 c y t f).length) := by
  unfold half2 test2
  split <;> rfl
 have hs2 : HShut (half2H (mkSet H b (test1 c y t f) ++ (tR b y t f ++ [some (.cells [.int .i64 (test1 c y t f).length])])) (test1 c y t f) (opCmp y.cmp) (hi y.val) t f (H.length + 3)) := by
  unfold half2H
  split
  ·exact h1.shut
  ·intro n hn
   rw [List.length_set] at hn
   rw [map_set', h1.shut n hn]
   simp [i1C, Blk.cl, clL, V.cl]
 have g2 := (test2_grown c y t f).len
 have g3 := (branch_grown (test2 c y t f) 21 (hi y.val) (test1 c y t f).length (if opCmp y.cmp = 21 then f else (test2 c y t f).length)).len
 have hb2 : b < (half2H (mkSet H b (test1 c y t f) ++ (tR b y t f ++ [some (.cells [.int .i64 (test1 c y t f).length])])) (test1 c y t f) (opCmp y.cmp) (hi y.val) t f (H.length + 3)).length := by
  have := h.lb
  unfold half2H
  split <;> simp <;> omega
 have h2 : Mkr (mkSet (half2H (mkSet H b (test1 c y t f) ++ (tR b y t f ++ [some (.cells [.int .i64 (test1 c y t f).length])])) (test1 c y t f) (opCmp y.cmp) (hi y.val) t f (H.length + 3)) b (half2 (test1 c y t f) (opCmp y.cmp) (hi y.val) t f (test1 c y t f).length)) b _ .no :=
  ⟨by rw [mkSet, List.getElem?_set_self hb2], .inl rfl, mkSet_shut hs2 _⟩
 have p := part_ok (G := G) (b := b) (20 + 8 * y.arg.toNat) (hi y.mask) w h2 (by unfold half2H; split <;> simp) (addr_ok hy 20 (.inr rfl)) (by rw [e2]; omega)
 rw [mkSet_mkSet, e2] at p
 obtain ⟨R, hR⟩ : ∃ R, half2H (mkSet H b (test1 c y t f) ++ (tR b y t f ++ [some (.cells [.int .i64 (test1 c y t f).length])])) (test1 c y t f) (opCmp y.cmp) (hi y.val) t f (H.length + 3) = mkSet H b (test1 c y t f) ++ some (.cells [.ptr b 0]) :: R := by
  unfold half2H
  split
  ·exact ⟨_, rfl⟩
  ·rw [List.set_append_right _ _ (by simp), mkSet_len, show H.length + 3 - H.length = 3 by omega]
   exact ⟨_, rfl⟩
 rw [hR, mkSet_app (by simpa using h.lb), mkSet_mkSet] at p
 exact ⟨R, p⟩
theorem testM_ok [HasIns G] [HasCode G] [HasMk G] [HasCondR G] [HasCondN G] [HasDataL G] (h : Mkr H b c tk) (x : Cd) (t f : Nat) (hx : x.right = true) (hxo : x.ok) (ht : 1 ≤ t ∧ t ≤ c.length) (hf : 1 ≤ f ∧ f ≤ c.length) (hl : c.length + 13 ≤ 4096) :
  SF G 421 [.ptr b 0, .agg x.cs, .int .i64 t, .int .i64 f] H (.int .i64 (testL c x t f).length) (mkSet H b (testL c x t f)) := by
 refine SF_of HasMk.h_lower_maker_test (Nat.le_of_ble_eq_true rfl) ?_
 have hx' := hx
 simp only [Cd.right, decide_eq_true_eq] at hx'
 have hN := Not_ok (G := G) x
 rw [notC, if_pos hx] at hN
 obtain ⟨y, hy⟩ : ∃ y, y = if flipC x then ({ x with cmp := notCmp x.cmp } : Cd) else x := ⟨_, rfl⟩
 obtain ⟨t', ht'⟩ : ∃ t', t' = if flipC x then f else t := ⟨_, rfl⟩
 obtain ⟨f', hf'⟩ : ∃ f', f' = if flipC x then t else f := ⟨_, rfl⟩
 have hc : x.cmp = 0 ∨ x.cmp = 1 ∨ x.cmp = 2 ∨ x.cmp = 3 ∨ x.cmp = 4 ∨ x.cmp = 5 := by omega
 have hlo : convI .u32 (x.val : Int) = ((lo x.val : Nat) : Int) := rfl
 have hmlo : convI .u32 (x.mask : Int) = ((lo x.mask : Nat) : Int) := rfl
 have hv := shr_hi x.val hxo.2
 have hv2 : convI .u32 ((x.val / 4294967296 : Nat) : Int) = ((hi x.val : Nat) : Int) := rfl
 have hmm := shr_hi x.mask hxo.1
 have hmm2 : convI .u32 ((x.mask / 4294967296 : Nat) : Int) = ((hi x.mask : Nat) : Int) := rfl
 have wl := Low_ok (G := G) x.arg ⟨by omega, by omega⟩
 have wh := High_ok (G := G) x.arg ⟨by omega, by omega⟩
 have hF7 : (H.length + 7 ≤ H.length) = False := eq_false (by omega)
 have hF8 : (H.length + 8 ≤ H.length) = False := eq_false (by omega)
 have hF71 : (H.length + 7 ≤ H.length + 1) = False := eq_false (by omega)
 have hF81 : (H.length + 8 ≤ H.length + 1) = False := eq_false (by omega)
 have gk : ∀ (c' : List In4) (r : Heap) (k : Nat), (mkSet H b c' ++ r)[H.length + k]? = r[k]? := fun c' r k => by rw [List.getElem?_append_right (by simp), mkSet_len]; congr 1; omega
 have gk0 : ∀ (c' : List In4) (r : Heap), (mkSet H b c' ++ r)[H.length]? = r[0]? := fun c' r => gk c' r 0
 have gb : ∀ (c' : List In4) (r : Heap), (mkSet H b c' ++ r)[b]? = some (some (.cells [.vs (IL c') .no, .int .i64 0])) := fun c' r => by rw [List.getElem?_append_left (by simpa using h.lb)]; exact (h.set c').hb
 have sk : ∀ (c' : List In4) (r : Heap) (k : Nat) (x : Option Blk), (mkSet H b c' ++ r).set (H.length + k) x = mkSet H b c' ++ r.set k x := fun c' r k x => by rw [List.set_append_right _ _ (by simp), mkSet_len]; congr 1; congr 1; omega
 have gbH : ∀ (r : Heap), (H ++ r)[b]? = some (some (.cells [.vs (IL c) tk, .int .i64 0])) := fun r => by rw [List.getElem?_append_left h.lb]; exact h.hb
 have bk : ∀ (c' : List In4) (r : Heap), trunc H.length (mkSet H b c' ++ r) = mkSet H b c' := fun c' r => by have := (mkSet_shut (b := b) h.shut c').back r; rwa [mkSet_len] at this
 have hlb := h.lb
 have tb : ∀ k : Nat, (b < H.length + k) = True := fun k => eq_true (by omega)
 rcases hc with hc | hc | hc | hc | hc | hc
 ·have hfl : flipC x = false := by simp [flipC, hc]
  have hT : testL c x t f = test0 c x t f := by rw [testL, hfl]; rfl
  have p1 := part1_ok (G := G) h x t f hx ht hf hl
  obtain ⟨R, p2⟩ := part2_ok (G := G) h x t f hx ht hf hl
  have hop : opCmp x.cmp = 21 := by simp [opCmp, hc]
  rw [← hT] at p2
  simp only [tR, Cd.cs, hop] at p1 p2
  simp only [hc] at p1 p2
  simp only [List.cons_append, List.nil_append] at p2
  generalize test1 c x t f = c1 at p1 p2
  generalize testL c x t f = c2 at p2 ⊢
  simp [Cd.cs, hc, hlo, hmlo, hv, hv2, hmm, hmm2, Nat.add_assoc, hF7, hF8, hF71, hF81, -Int.natCast_ediv]
  refine callP_of wl ?_
  simp [hlo, hmlo, hv, hv2, hmm, hmm2, Nat.add_assoc, hF7, hF8, hF71, hF81, gk, gk0, gb, sk, gbH, show notCmp 1 = 0 from rfl, show notCmp 2 = 5 from rfl, show notCmp 3 = 4 from rfl, -Int.natCast_ediv, -Int.natCast_add, -Int.natCast_mul]
  refine callSF_of p1 ?_
  simp [hlo, hmlo, hv, hv2, hmm, hmm2, Nat.add_assoc, hF7, hF8, hF71, hF81, gk, gk0, gb, sk, gbH, show notCmp 1 = 0 from rfl, show notCmp 2 = 5 from rfl, show notCmp 3 = 4 from rfl, -Int.natCast_ediv, -Int.natCast_add, -Int.natCast_mul]
  refine callP_of wh ?_
  simp [hlo, hmlo, hv, hv2, hmm, hmm2, Nat.add_assoc, hF7, hF8, hF71, hF81, gk, gk0, gb, sk, gbH, show notCmp 1 = 0 from rfl, show notCmp 2 = 5 from rfl, show notCmp 3 = 4 from rfl, -Int.natCast_ediv, -Int.natCast_add, -Int.natCast_mul]
  refine callSF_of p2 ?_
  simp [hlo, hmlo, hv, hv2, hmm, hmm2, Nat.add_assoc, hF7, hF8, hF71, hF81, gk, gk0, gb, sk, gbH, show notCmp 1 = 0 from rfl, show notCmp 2 = 5 from rfl, show notCmp 3 = 4 from rfl, -Int.natCast_ediv, -Int.natCast_add, -Int.natCast_mul]
  exact bk _ _
 ·have hfl : flipC x = true := by simp [flipC, hc]
  have hnc : notCmp x.cmp = 0 := by rw [hc]; rfl
  have hT : testL c x t f = test0 c { x with cmp := notCmp x.cmp } f t := by rw [testL, if_pos hfl]
  have p1 := part1_ok (G := G) h ({ x with cmp := notCmp x.cmp } : Cd) f t (not_right hx) hf ht hl
  obtain ⟨R, p2⟩ := part2_ok (G := G) h ({ x with cmp := notCmp x.cmp } : Cd) f t (not_right hx) hf ht hl
  have hop : opCmp ({ x with cmp := notCmp x.cmp } : Cd).cmp = 21 := by simp [opCmp, hnc]
  rw [← hT] at p2
  simp only [tR, Cd.cs, hop] at p1 p2
  simp only [hnc] at p1 p2
  simp only [List.cons_append, List.nil_append] at p2
  generalize test1 c ({ x with cmp := notCmp x.cmp } : Cd) f t = c1 at p1 p2
  generalize testL c x t f = c2 at p2 ⊢
  simp [Cd.cs, hc, hlo, hmlo, hv, hv2, hmm, hmm2, Nat.add_assoc, hF7, hF8, hF71, hF81, -Int.natCast_ediv]
  refine callP_of (by simpa only [Cd.cs, hc, hnc] using hN) ?_
  simp [hlo, hmlo, hv, hv2, hmm, hmm2, Nat.add_assoc, hF7, hF8, hF71, hF81, gk, gk0, gb, sk, gbH, show notCmp 1 = 0 from rfl, show notCmp 2 = 5 from rfl, show notCmp 3 = 4 from rfl, -Int.natCast_ediv, -Int.natCast_add, -Int.natCast_mul]
  refine callP_of wl ?_
  simp [hlo, hmlo, hv, hv2, hmm, hmm2, Nat.add_assoc, hF7, hF8, hF71, hF81, gk, gk0, gb, sk, gbH, show notCmp 1 = 0 from rfl, show notCmp 2 = 5 from rfl, show notCmp 3 = 4 from rfl, -Int.natCast_ediv, -Int.natCast_add, -Int.natCast_mul]
  refine callSF_of p1 ?_
  simp [hlo, hmlo, hv, hv2, hmm, hmm2, Nat.add_assoc, hF7, hF8, hF71, hF81, gk, gk0, gb, sk, gbH, show notCmp 1 = 0 from rfl, show notCmp 2 = 5 from rfl, show notCmp 3 = 4 from rfl, -Int.natCast_ediv, -Int.natCast_add, -Int.natCast_mul]
  refine callP_of wh ?_
  simp [hlo, hmlo, hv, hv2, hmm, hmm2, Nat.add_assoc, hF7, hF8, hF71, hF81, gk, gk0, gb, sk, gbH, show notCmp 1 = 0 from rfl, show notCmp 2 = 5 from rfl, show notCmp 3 = 4 from rfl, -Int.natCast_ediv, -Int.natCast_add, -Int.natCast_mul]
  refine callSF_of p2 ?_
  simp [hlo, hmlo, hv, hv2, hmm, hmm2, Nat.add_assoc, hF7, hF8, hF71, hF81, gk, gk0, gb, sk, gbH, show notCmp 1 = 0 from rfl, show notCmp 2 = 5 from rfl, show notCmp 3 = 4 from rfl, -Int.natCast_ediv, -Int.natCast_add, -Int.natCast_mul]
  exact bk _ _
 ·have hfl : flipC x = true := by simp [flipC, hc]
  have hnc : notCmp x.cmp = 5 := by rw [hc]; rfl
  have hT : testL c x t f = test0 c { x with cmp := notCmp x.cmp } f t := by rw [testL, if_pos hfl]
  have p1 := part1_ok (G := G) h ({ x with cmp := notCmp x.cmp } : Cd) f t (not_right hx) hf ht hl
  obtain ⟨R, p2⟩ := part2_ok (G := G) h ({ x with cmp := notCmp x.cmp } : Cd) f t (not_right hx) hf ht hl
  have hop : opCmp ({ x with cmp := notCmp x.cmp } : Cd).cmp = 53 := by simp [opCmp, hnc]
  rw [← hT] at p2
  simp only [tR, Cd.cs, hop] at p1 p2
  simp only [hnc] at p1 p2
  simp only [List.cons_append, List.nil_append] at p2
  generalize test1 c ({ x with cmp := notCmp x.cmp } : Cd) f t = c1 at p1 p2
  generalize testL c x t f = c2 at p2 ⊢
  simp [Cd.cs, hc, hlo, hmlo, hv, hv2, hmm, hmm2, Nat.add_assoc, hF7, hF8, hF71, hF81, -Int.natCast_ediv]
  refine callP_of (by simpa only [Cd.cs, hc, hnc] using hN) ?_
  simp [hlo, hmlo, hv, hv2, hmm, hmm2, Nat.add_assoc, hF7, hF8, hF71, hF81, gk, gk0, gb, sk, gbH, show notCmp 1 = 0 from rfl, show notCmp 2 = 5 from rfl, show notCmp 3 = 4 from rfl, -Int.natCast_ediv, -Int.natCast_add, -Int.natCast_mul]
  refine callP_of wl ?_
  simp [hlo, hmlo, hv, hv2, hmm, hmm2, Nat.add_assoc, hF7, hF8, hF71, hF81, gk, gk0, gb, sk, gbH, show notCmp 1 = 0 from rfl, show notCmp 2 = 5 from rfl, show notCmp 3 = 4 from rfl, -Int.natCast_ediv, -Int.natCast_add, -Int.natCast_mul]
  refine callSF_of p1 ?_
  simp [hlo, hmlo, hv, hv2, hmm, hmm2, Nat.add_assoc, hF7, hF8, hF71, hF81, gk, gk0, gb, sk, gbH, show notCmp 1 = 0 from rfl, show notCmp 2 = 5 from rfl, show notCmp 3 = 4 from rfl, -Int.natCast_ediv, -Int.natCast_add, -Int.natCast_mul]
  refine callP_of wh ?_
  simp [hlo, hmlo, hv, hv2, hmm, hmm2, Nat.add_assoc, hF7, hF8, hF71, hF81, gk, gk0, gb, sk, gbH, show notCmp 1 = 0 from rfl, show notCmp 2 = 5 from rfl, show notCmp 3 = 4 from rfl, -Int.natCast_ediv, -Int.natCast_add, -Int.natCast_mul]
  refine callSF_of p2 ?_
  simp [hlo, hmlo, hv, hv2, hmm, hmm2, Nat.add_assoc, hF7, hF8, hF71, hF81, gk, gk0, gb, sk, gbH, show notCmp 1 = 0 from rfl, show notCmp 2 = 5 from rfl, show notCmp 3 = 4 from rfl, -Int.natCast_ediv, -Int.natCast_add, -Int.natCast_mul]
  exact bk _ _
 ·have hfl : flipC x = true := by simp [flipC, hc]
  have hnc : notCmp x.cmp = 4 := by rw [hc]; rfl
  have hT : testL c x t f = test0 c { x with cmp := notCmp x.cmp } f t := by rw [testL, if_pos hfl]
  have p1 := part1_ok (G := G) h ({ x with cmp := notCmp x.cmp } : Cd) f t (not_right hx) hf ht hl
  obtain ⟨R, p2⟩ := part2_ok (G := G) h ({ x with cmp := notCmp x.cmp } : Cd) f t (not_right hx) hf ht hl
  have hop : opCmp ({ x with cmp := notCmp x.cmp } : Cd).cmp = 37 := by simp [opCmp, hnc]
  rw [← hT] at p2
  simp only [tR, Cd.cs, hop] at p1 p2
  simp only [hnc] at p1 p2
  simp only [List.cons_append, List.nil_append] at p2
  generalize test1 c ({ x with cmp := notCmp x.cmp } : Cd) f t = c1 at p1 p2
  generalize testL c x t f = c2 at p2 ⊢
  simp [Cd.cs, hc, hlo, hmlo, hv, hv2, hmm, hmm2, Nat.add_assoc, hF7, hF8, hF71, hF81, -Int.natCast_ediv]
  refine callP_of (by simpa only [Cd.cs, hc, hnc] using hN) ?_
  simp [hlo, hmlo, hv, hv2, hmm, hmm2, Nat.add_assoc, hF7, hF8, hF71, hF81, gk, gk0, gb, sk, gbH, show notCmp 1 = 0 from rfl, show notCmp 2 = 5 from rfl, show notCmp 3 = 4 from rfl, -Int.natCast_ediv, -Int.natCast_add, -Int.natCast_mul]
  refine callP_of wl ?_
  simp [hlo, hmlo, hv, hv2, hmm, hmm2, Nat.add_assoc, hF7, hF8, hF71, hF81, gk, gk0, gb, sk, gbH, show notCmp 1 = 0 from rfl, show notCmp 2 = 5 from rfl, show notCmp 3 = 4 from rfl, -Int.natCast_ediv, -Int.natCast_add, -Int.natCast_mul]
  refine callSF_of p1 ?_
  simp [hlo, hmlo, hv, hv2, hmm, hmm2, Nat.add_assoc, hF7, hF8, hF71, hF81, gk, gk0, gb, sk, gbH, show notCmp 1 = 0 from rfl, show notCmp 2 = 5 from rfl, show notCmp 3 = 4 from rfl, -Int.natCast_ediv, -Int.natCast_add, -Int.natCast_mul]
  refine callP_of wh ?_
  simp [hlo, hmlo, hv, hv2, hmm, hmm2, Nat.add_assoc, hF7, hF8, hF71, hF81, gk, gk0, gb, sk, gbH, show notCmp 1 = 0 from rfl, show notCmp 2 = 5 from rfl, show notCmp 3 = 4 from rfl, -Int.natCast_ediv, -Int.natCast_add, -Int.natCast_mul]
  refine callSF_of p2 ?_
  simp [hlo, hmlo, hv, hv2, hmm, hmm2, Nat.add_assoc, hF7, hF8, hF71, hF81, gk, gk0, gb, sk, gbH, show notCmp 1 = 0 from rfl, show notCmp 2 = 5 from rfl, show notCmp 3 = 4 from rfl, -Int.natCast_ediv, -Int.natCast_add, -Int.natCast_mul]
  exact bk _ _
 ·have hfl : flipC x = false := by simp [flipC, hc]
  have hT : testL c x t f = test0 c x t f := by rw [testL, hfl]; rfl
  have p1 := part1_ok (G := G) h x t f hx ht hf hl
  obtain ⟨R, p2⟩ := part2_ok (G := G) h x t f hx ht hf hl
  have hop : opCmp x.cmp = 37 := by simp [opCmp, hc]
  rw [← hT] at p2
  simp only [tR, Cd.cs, hop] at p1 p2
  simp only [hc] at p1 p2
  simp only [List.cons_append, List.nil_append] at p2
  generalize test1 c x t f = c1 at p1 p2
  generalize testL c x t f = c2 at p2 ⊢
  simp [Cd.cs, hc, hlo, hmlo, hv, hv2, hmm, hmm2, Nat.add_assoc, hF7, hF8, hF71, hF81, -Int.natCast_ediv]
  refine callP_of wl ?_
  simp [hlo, hmlo, hv, hv2, hmm, hmm2, Nat.add_assoc, hF7, hF8, hF71, hF81, gk, gk0, gb, sk, gbH, show notCmp 1 = 0 from rfl, show notCmp 2 = 5 from rfl, show notCmp 3 = 4 from rfl, -Int.natCast_ediv, -Int.natCast_add, -Int.natCast_mul]
  refine callSF_of p1 ?_
  simp [hlo, hmlo, hv, hv2, hmm, hmm2, Nat.add_assoc, hF7, hF8, hF71, hF81, gk, gk0, gb, sk, gbH, show notCmp 1 = 0 from rfl, show notCmp 2 = 5 from rfl, show notCmp 3 = 4 from rfl, -Int.natCast_ediv, -Int.natCast_add, -Int.natCast_mul]
  refine callP_of wh ?_
  simp [hlo, hmlo, hv, hv2, hmm, hmm2, Nat.add_assoc, hF7, hF8, hF71, hF81, gk, gk0, gb, sk, gbH, show notCmp 1 = 0 from rfl, show notCmp 2 = 5 from rfl, show notCmp 3 = 4 from rfl, -Int.natCast_ediv, -Int.natCast_add, -Int.natCast_mul]
  refine callSF_of p2 ?_
  simp [hlo, hmlo, hv, hv2, hmm, hmm2, Nat.add_assoc, hF7, hF8, hF71, hF81, gk, gk0, gb, sk, gbH, show notCmp 1 = 0 from rfl, show notCmp 2 = 5 from rfl, show notCmp 3 = 4 from rfl, -Int.natCast_ediv, -Int.natCast_add, -Int.natCast_mul]
  exact bk _ _
 ·have hfl : flipC x = false := by simp [flipC, hc]
  have hT : testL c x t f = test0 c x t f := by rw [testL, hfl]; rfl
  have p1 := part1_ok (G := G) h x t f hx ht hf hl
  obtain ⟨R, p2⟩ := part2_ok (G := G) h x t f hx ht hf hl
  have hop : opCmp x.cmp = 53 := by simp [opCmp, hc]
  rw [← hT] at p2
  simp only [tR, Cd.cs, hop] at p1 p2
  simp only [hc] at p1 p2
  simp only [List.cons_append, List.nil_append] at p2
  generalize test1 c x t f = c1 at p1 p2
  generalize testL c x t f = c2 at p2 ⊢
  simp [Cd.cs, hc, hlo, hmlo, hv, hv2, hmm, hmm2, Nat.add_assoc, hF7, hF8, hF71, hF81, -Int.natCast_ediv]
  refine callP_of wl ?_
  simp [hlo, hmlo, hv, hv2, hmm, hmm2, Nat.add_assoc, hF7, hF8, hF71, hF81, gk, gk0, gb, sk, gbH, show notCmp 1 = 0 from rfl, show notCmp 2 = 5 from rfl, show notCmp 3 = 4 from rfl, -Int.natCast_ediv, -Int.natCast_add, -Int.natCast_mul]
  refine callSF_of p1 ?_
  simp [hlo, hmlo, hv, hv2, hmm, hmm2, Nat.add_assoc, hF7, hF8, hF71, hF81, gk, gk0, gb, sk, gbH, show notCmp 1 = 0 from rfl, show notCmp 2 = 5 from rfl, show notCmp 3 = 4 from rfl, -Int.natCast_ediv, -Int.natCast_add, -Int.natCast_mul]
  refine callP_of wh ?_
  simp [hlo, hmlo, hv, hv2, hmm, hmm2, Nat.add_assoc, hF7, hF8, hF71, hF81, gk, gk0, gb, sk, gbH, show notCmp 1 = 0 from rfl, show notCmp 2 = 5 from rfl, show notCmp 3 = 4 from rfl, -Int.natCast_ediv, -Int.natCast_add, -Int.natCast_mul]
  refine callSF_of p2 ?_
  simp [hlo, hmlo, hv, hv2, hmm, hmm2, Nat.add_assoc, hF7, hF8, hF71, hF81, gk, gk0, gb, sk, gbH, show notCmp 1 = 0 from rfl, show notCmp 2 = 5 from rfl, show notCmp 3 = 4 from rfl, -Int.natCast_ediv, -Int.natCast_add, -Int.natCast_mul]
  exact bk _ _
end
end Go.Ev
/- Code of rules, of calls, of machines: plain. -/
namespace Go.Ev
open Go Go.RowKit
set_option maxRecDepth 10000
set_option maxHeartbeats 2000000
set_option linter.unusedSimpArgs false
set_option linter.unusedVariables false
def kOK (c : List In4) : Prop := ∀ y ∈ c, y.k < 4294967296
theorem near_ks {c : List In4} {t : Nat} (hl : c.length ≤ 1000100) (hk : kOK c) : kOK (nearL c t) := by
 intro y hy
 unfold nearL at hy
 split at hy
 ·exact hk y hy
 ·rcases List.mem_cons.1 hy with rfl | hy
  ·simp only; omega
  ·exact hk y hy
theorem branch_ks {c : List In4} {op : Int} {k t f : Nat} (hl : c.length ≤ 1000050) (hkk : k < 4294967296) (hk : kOK c) : kOK (branchL c op k t f) := by
 intro y hy
 rcases List.mem_cons.1 hy with rfl | hy
 ·exact hkk
 ·exact near_ks (by have := (near_grown c t).len; omega) (near_ks (by omega) hk) y hy
theorem put_ks {c : List In4} {op : Int} {k : Nat} (hkk : k < 4294967296) (hk : kOK c) : kOK (putF c op k) := by
 intro y hy
 rcases List.mem_cons.1 hy with rfl | hy
 ·exact hkk
 ·exact hk y hy
theorem test_ks {c : List In4} {x : Cd} {t f : Nat} (hk : ∀ y ∈ c, y.k < 4294967296) (hl : c.length ≤ 1000000) (hx : x.right = true) : ∀ y ∈ testL c x t f, y.k < 4294967296 := by
 have t0 : ∀ (x : Cd) (t f : Nat), x.right = true → kOK (test0 c x t f) := by
  intro x t f hx
  have hx' := hx
  simp only [Cd.right, decide_eq_true_eq] at hx'
  have g1 := (test1_grown c x t f).len
  have g2 := (test2_grown c x t f).len
  have h1 : kOK (test1 c x t f) := put_ks (by omega) (put_ks (lo_lt _) (branch_ks (by omega) (lo_lt _) hk))
  have h2 : kOK (test2 c x t f) := by
   unfold test2
   split
   ·exact h1
   ·exact branch_ks (by omega) (hi_lt _) h1
  exact put_ks (by omega) (put_ks (hi_lt _) (branch_ks (by omega) (hi_lt _) h2))
 unfold testL
 split
 ·exact t0 _ _ _ (not_right hx)
 ·exact t0 _ _ _ hx
structure Ru where
 arch : Nat
 nr : Nat
 conds : List Cd
 act : Nat
 deriving DecidableEq
structure Po where
 rules : List Ru
 dflt : Nat
 deriving DecidableEq
def Ru.fine (r : Ru) : Prop := (∀ x ∈ r.conds, x.right = true ∧ x.ok) ∧ r.arch < 4294967296 ∧ r.nr < 4294967296 ∧ r.act < 4294967296
abbrev CLb := List In4 × Nat
def condsL (o : Nat) : List Cd → CLb → CLb
 | [], s => s
 | x :: xs, s => (testL (condsL o xs s).1 x (condsL o xs s).2 o, (testL (condsL o xs s).1 x (condsL o xs s).2 o).length)
def ruleL (r : Ru) (s : CLb) : CLb := condsL s.2 r.conds (putF s.1 6 r.act, s.1.length + 1)
def rulesL : List Ru → CLb → CLb
 | [], s => s
 | r :: l, s => ruleL r (rulesL l s)
def costR : List Ru → Nat
 | [] => 0
 | r :: l => 1 + 13 * r.conds.length + costR l
def Cd.alls (d : Da) (l : List Cd) : Bool := l.all fun x => x.holds d
def judgeR (d : Da) (v0 : Nat) : List Ru → Nat
 | [] => v0
 | r :: l => if Cd.alls d r.conds then r.act else judgeR d v0 l
structure Came (c : List In4) (s : CLb) (n : Nat) : Prop where
 grown : Grown c s.1 n
 lab : 1 ≤ s.2 ∧ s.2 ≤ s.1.length
 sound : soundF c = true → c.length + n ≤ 4096 → soundF s.1 = true
 ks : kOK c → c.length + n ≤ 4096 → kOK s.1
theorem Came.mono {c : List In4} {s : CLb} {n m : Nat} (h : Came c s n) (hm : n ≤ m) : Came c s m := ⟨h.grown.mono hm, h.lab, fun a b => h.sound a (by omega), fun a b => h.ks a (by omega)⟩
theorem Came.self {c : List In4} {l : Nat} (h : 1 ≤ l ∧ l ≤ c.length) : Came c (c, l) 0 := ⟨Grown.refl c, h, fun a _ => a, fun a _ => a⟩
theorem Came.trans {c : List In4} {s t : CLb} {n m : Nat} (h : Came c s n) (k : Came s.1 t m) : Came c t (n + m) :=
 ⟨h.grown.trans k.grown, k.lab, fun a b => k.sound (h.sound a (by omega)) (by have := h.grown.len; omega), fun a b => k.ks (h.ks a (by omega)) (by have := h.grown.len; omega)⟩
theorem putF_came {c : List In4} {op : Int} {k : Nat} (h : addOk op k) (hk : k < 4294967296) : Came c (putF c op k, c.length + 1) 1 :=
 ⟨add_grown _ _ _, by simp [putF], fun a b => add_sound h a (by omega), fun a _ => put_ks hk a⟩
theorem branch_came {c : List In4} {op : Int} {k t f : Nat} (h : brOp op) (hk : k < 4294967296) (ht : 1 ≤ t ∧ t ≤ c.length) (hf : 1 ≤ f ∧ f ≤ c.length) : Came c (branchL c op k t f, (branchL c op k t f).length) 3 :=
 ⟨branch_grown _ _ _ _ _, by have := branch_pos c op k t f; simp only; omega, fun a b => branch_sound h a ht hf (by omega), fun a b => branch_ks (by omega) hk a⟩
theorem test_came {c : List In4} {x : Cd} {t f : Nat} (hx : x.right = true) (ht : 1 ≤ t ∧ t ≤ c.length) (hf : 1 ≤ f ∧ f ≤ c.length) : Came c (testL c x t f, (testL c x t f).length) 13 :=
 ⟨test_grown _ _ _ _, by have := (test_grown c x t f).len; simp only; omega, fun a b => test_sound a hx ht hf (by omega), fun a b => test_ks a (by omega) hx⟩
theorem conds_came {o : Nat} : ∀ {l : List Cd} {s : CLb}, (∀ x ∈ l, x.right = true ∧ x.ok) → (1 ≤ o ∧ o ≤ s.1.length) → (1 ≤ s.2 ∧ s.2 ≤ s.1.length) → Came s.1 (condsL o l s) (13 * l.length)
 | [], s, _, _, h => Came.self h
 | x :: l, s, hx, ho, hs => by
  have ih := conds_came (l := l) (fun y hy => hx y (by simp [hy])) ho hs
  have gl := ih.grown.len
  exact (ih.trans (test_came (hx x (by simp)).1 ih.lab ⟨ho.1, by omega⟩)).mono (by simp only [List.length_cons]; omega)
theorem conds_ind {o : Nat} {d : Da} (hd : d.ok) {v0 v1 : Nat} : ∀ {l : List Cd} {s : CLb}, (∀ x ∈ l, x.right = true ∧ x.ok) → (1 ≤ o ∧ o ≤ s.1.length) → (1 ≤ s.2 ∧ s.2 ≤ s.1.length) → Ind d s.1 o v0 → Ind d s.1 s.2 v1 →
  Ind d (condsL o l s).1 (condsL o l s).2 (if Cd.alls d l then v1 else v0)
 | [], s, _, _, _, _, h => by simpa [condsL, Cd.alls] using h
 | x :: l, s, hx, ho, hs, h0, h1 => by
  have cm := conds_came (l := l) (fun y hy => hx y (by simp [hy])) ho hs
  have ih := conds_ind hd (l := l) (fun y hy => hx y (by simp [hy])) ho hs h0 h1
  have gl := cm.grown.len
  have := test_ind (x := x) hd (hx x (by simp)).1 (hx x (by simp)).2 cm.lab ⟨ho.1, by omega⟩ ih (h0.grown cm.grown ho.2)
  have e : Cd.alls d (x :: l) = (x.holds d && Cd.alls d l) := by simp [Cd.alls]
  rw [e]
  simp only [condsL]
  cases hh : x.holds d
  ·rw [hh] at this; simpa using this
  ·rw [hh] at this; simpa using this
theorem ret_ind (d : Da) (c : List In4) (k : Nat) : Ind d (putF c 6 k) (c.length + 1) k := by
 intro s hs
 rw [show c.length + 1 = (putF c 6 k).length from rfl, sfx_all, ret_run]
theorem rules_came : ∀ {l : List Ru} {s : CLb}, (∀ r ∈ l, r.fine) → (1 ≤ s.2 ∧ s.2 ≤ s.1.length) → Came s.1 (rulesL l s) (costR l)
 | [], s, _, h => Came.self h
 | r :: l, s, hr, hs => by
  have ih := rules_came (l := l) (fun y hy => hr y (by simp [hy])) hs
  have gl := ih.grown.len
  have p := putF_came (c := (rulesL l s).1) (op := 6) (k := r.act) (.inr (.inl rfl)) (hr r (by simp)).2.2.2
  have pl := p.grown.len
  have q := conds_came (o := (rulesL l s).2) (l := r.conds) (s := (putF (rulesL l s).1 6 r.act, (rulesL l s).1.length + 1)) (hr r (by simp)).1 ⟨ih.lab.1, by have := ih.lab.2; omega⟩ p.lab
  exact ((ih.trans p).trans q).mono (by simp only [costR]; omega)
theorem rules_ind {d : Da} (hd : d.ok) {v0 : Nat} : ∀ {l : List Ru} {s : CLb}, (∀ r ∈ l, r.fine) → (1 ≤ s.2 ∧ s.2 ≤ s.1.length) → Ind d s.1 s.2 v0 → Ind d (rulesL l s).1 (rulesL l s).2 (judgeR d v0 l)
 | [], s, _, _, h => h
 | r :: l, s, hr, hs, h => by
  have cm := rules_came (l := l) (fun y hy => hr y (by simp [hy])) hs
  have ih := rules_ind hd (l := l) (fun y hy => hr y (by simp [hy])) hs h
  have p := putF_came (c := (rulesL l s).1) (op := 6) (k := r.act) (.inr (.inl rfl)) (hr r (by simp)).2.2.2
  have pl := p.grown.len
  exact conds_ind hd (o := (rulesL l s).2) (l := r.conds) (s := (putF (rulesL l s).1 6 r.act, (rulesL l s).1.length + 1)) (hr r (by simp)).1 ⟨cm.lab.1, by have := cm.lab.2; omega⟩ p.lab (ih.grown p.grown cm.lab.2) (ret_ind d _ _)
def treeL : Nat → List In4 → List (Nat × Nat) → Nat → CLb
 | 0, c, _, _ => (c, 0)
 | n + 1, c, l, o =>
  if l.length = 1 then (branchL c 21 (l.getD 0 (0, 0)).1 (l.getD 0 (0, 0)).2 o, (branchL c 21 (l.getD 0 (0, 0)).1 (l.getD 0 (0, 0)).2 o).length)
  else
   (branchL (treeL n (treeL n c (l.take (l.length / 2)) o).1 (l.drop (l.length / 2)) o).1 53 (l.getD (l.length / 2) (0, 0)).1 (treeL n (treeL n c (l.take (l.length / 2)) o).1 (l.drop (l.length / 2)) o).2 (treeL n c (l.take (l.length / 2)) o).2,
    (branchL (treeL n (treeL n c (l.take (l.length / 2)) o).1 (l.drop (l.length / 2)) o).1 53 (l.getD (l.length / 2) (0, 0)).1 (treeL n (treeL n c (l.take (l.length / 2)) o).1 (l.drop (l.length / 2)) o).2 (treeL n c (l.take (l.length / 2)) o).2).length)
def labs (c : List In4) (l : List (Nat × Nat)) : Prop := ∀ e ∈ l, 1 ≤ e.2 ∧ e.2 ≤ c.length
theorem labs.grown {a b : List In4} {n : Nat} {l : List (Nat × Nat)} (h : labs a l) (g : Grown a b n) : labs b l := fun e he => ⟨(h e he).1, by have := g.len; have := (h e he).2; omega⟩
theorem tree_came {o : Nat} : ∀ (n : Nat) {c : List In4} {l : List (Nat × Nat)}, l ≠ [] → l.length ≤ n → labs c l → (∀ e ∈ l, e.1 < 4294967296) → (1 ≤ o ∧ o ≤ c.length) → Came c (treeL n c l o) (6 * l.length - 3)
 | 0, c, l, hne, hn, _, _, _ => absurd (List.length_eq_zero_iff.1 (by omega)) hne
 | n + 1, c, l, hne, hn, hl, hk, ho => by
  have hpos : 0 < l.length := List.length_pos_iff.2 hne
  unfold treeL
  split
  ·rename_i h1
   have hg : l.getD 0 (0, 0) ∈ l := by rw [List.getD, List.getElem?_eq_getElem (by omega)]; exact List.getElem_mem _
   exact (branch_came (.inl rfl) (hk _ hg) (hl _ hg) ho).mono (by omega)
  ·rename_i h1
   have l1 : (l.take (l.length / 2)).length = l.length / 2 := by rw [List.length_take]; omega
   have l2 : (l.drop (l.length / 2)).length = l.length - l.length / 2 := by rw [List.length_drop]
   have n1 : l.take (l.length / 2) ≠ [] := by intro e; rw [e] at l1; simp at l1; omega
   have n2 : l.drop (l.length / 2) ≠ [] := by intro e; rw [e] at l2; simp at l2; omega
   have i1 := tree_came n (c := c) (l := l.take (l.length / 2)) n1 (by omega) (fun e he => hl e (List.mem_of_mem_take he)) (fun e he => hk e (List.mem_of_mem_take he)) ho
   have g1 := i1.grown.len
   have i2 := tree_came n (c := (treeL n c (l.take (l.length / 2)) o).1) (l := l.drop (l.length / 2)) n2 (by omega) ((show labs c _ from fun e he => hl e (List.mem_of_mem_drop he)).grown i1.grown) (fun e he => hk e (List.mem_of_mem_drop he)) ⟨ho.1, by omega⟩
   have g2 := i2.grown.len
   have hg : l.getD (l.length / 2) (0, 0) ∈ l := by rw [List.getD, List.getElem?_eq_getElem (by omega)]; exact List.getElem_mem _
   have b := branch_came (c := (treeL n (treeL n c (l.take (l.length / 2)) o).1 (l.drop (l.length / 2)) o).1) (op := 53) (k := (l.getD (l.length / 2) (0, 0)).1) (.inr (.inr rfl)) (hk _ hg) i2.lab ⟨i1.lab.1, by have := i1.lab.2; omega⟩
   exact ((i1.trans i2).trans b).mono (by rw [l1, l2]; omega)
def lookN (v0 : Nat) (vs : Nat → Nat) (a : Nat) (l : List (Nat × Nat)) : Nat := if a ∈ l.map (·.1) then vs a else v0
theorem tree_dep {o : Nat} {d : Da} {a v0 : Nat} {vs : Nat → Nat} : ∀ (n : Nat) {c : List In4} {l : List (Nat × Nat)}, l ≠ [] → l.length ≤ n → labs c l → (∀ e ∈ l, e.1 < 4294967296) → (1 ≤ o ∧ o ≤ c.length) → (l.map (·.1)).Pairwise (· < ·) →
  Ind d c o v0 → (∀ e ∈ l, Ind d c e.2 (vs e.1)) → Dep d (treeL n c l o).1 (treeL n c l o).2 a (lookN v0 vs a l)
 | 0, c, l, hne, hn, _, _, _, _, _, _ => absurd (List.length_eq_zero_iff.1 (by omega)) hne
 | n + 1, c, l, hne, hn, hl, hk, ho, hp, h0, hv => by
  have hpos : 0 < l.length := List.length_pos_iff.2 hne
  unfold treeL
  split
  ·rename_i h1
   obtain ⟨e, rfl⟩ := List.length_eq_one_iff.1 h1
   have he : [e].getD 0 (0, 0) = e := rfl
   rw [he]
   intro s hs ha
   simp only
   rw [sfx_all, branch_run (.inl rfl) (hl e (by simp)) ho]
   simp only [takeN, if_true, ha, lookN, List.map_cons, List.map_nil, List.mem_singleton]
   by_cases q : a = e.1
   ·subst q; simp; exact hv e (by simp) s hs
   ·simp [q]; exact h0 s hs
  ·rename_i h1
   have l1 : (l.take (l.length / 2)).length = l.length / 2 := by rw [List.length_take]; omega
   have l2 : (l.drop (l.length / 2)).length = l.length - l.length / 2 := by rw [List.length_drop]
   have n1 : l.take (l.length / 2) ≠ [] := by intro e; rw [e] at l1; simp at l1; omega
   have n2 : l.drop (l.length / 2) ≠ [] := by intro e; rw [e] at l2; simp at l2; omega
   have lb1 : labs c (l.take (l.length / 2)) := fun e he => hl e (List.mem_of_mem_take he)
   have lb2 : labs c (l.drop (l.length / 2)) := fun e he => hl e (List.mem_of_mem_drop he)
   have k1 : ∀ e ∈ l.take (l.length / 2), e.1 < 4294967296 := fun e he => hk e (List.mem_of_mem_take he)
   have k2 : ∀ e ∈ l.drop (l.length / 2), e.1 < 4294967296 := fun e he => hk e (List.mem_of_mem_drop he)
   have c1 := tree_came n (c := c) (l := l.take (l.length / 2)) n1 (by omega) lb1 k1 ho
   have g1 := c1.grown.len
   have c2 := tree_came n (c := (treeL n c (l.take (l.length / 2)) o).1) (l := l.drop (l.length / 2)) n2 (by omega) (lb2.grown c1.grown) k2 ⟨ho.1, by omega⟩
   have g2 := c2.grown.len
   obtain ⟨k, hkq⟩ : ∃ k, k = l[l.length / 2]'(by omega) := ⟨_, rfl⟩
   have hkd : l.getD (l.length / 2) (0, 0) = k := by rw [List.getD, List.getElem?_eq_getElem (by omega), hkq]; rfl
   have hsp : l.map (·.1) = (l.take (l.length / 2)).map (·.1) ++ (l.drop (l.length / 2)).map (·.1) := by rw [← List.map_append, List.take_append_drop]
   have hdc : l.drop (l.length / 2) = k :: l.drop (l.length / 2 + 1) := by rw [List.drop_eq_getElem_cons (by omega), hkq]
   have hp' := hp
   rw [hsp, List.pairwise_append] at hp'
   obtain ⟨p1, p2, p3⟩ := hp'
   have i1 := tree_dep (a := a) n (c := c) (l := l.take (l.length / 2)) n1 (by omega) lb1 k1 ho p1 h0 (fun e he => hv e (List.mem_of_mem_take he))
   have i2 := tree_dep (a := a) n (c := (treeL n c (l.take (l.length / 2)) o).1) (l := l.drop (l.length / 2)) n2 (by omega) (lb2.grown c1.grown) k2 ⟨ho.1, by omega⟩ p2 (h0.grown c1.grown ho.2)
    (fun e he => (hv e (List.mem_of_mem_drop he)).grown c1.grown (lb2 e he).2)
   have i1' := i1.grown c2.grown c1.lab.2
   rw [hkd]
   intro s hs ha
   simp only
   rw [sfx_all, branch_run (.inr (.inr rfl)) c2.lab ⟨c1.lab.1, by have := c1.lab.2; omega⟩]
   simp only [takeN, show ((53 : Int) = 21) = False by simp, show ((53 : Int) = 37) = False by simp, if_false, ha]
   have hkm : k.1 ∈ (l.drop (l.length / 2)).map (·.1) := by rw [hdc]; simp
   by_cases q : k.1 ≤ a
   ·simp only [q, decide_true, if_true]
    rw [i2 s hs ha]
    have hna : a ∉ (l.take (l.length / 2)).map (·.1) := fun hm => by have := p3 a hm k.1 hkm; omega
    unfold lookN
    rw [hsp]
    simp only [List.mem_append, hna, false_or]
   ·simp only [q, decide_false, Bool.false_eq_true, if_false]
    rw [i1' s hs ha]
    have hna : a ∉ (l.drop (l.length / 2)).map (·.1) := fun hm => by
     rw [hdc, List.map_cons, List.pairwise_cons] at p2
     rw [hdc, List.map_cons] at hm
     rcases List.mem_cons.1 hm with e | hm
     ·omega
     ·have := p2.1 a hm; omega
    unfold lookN
    rw [hsp]
    simp only [List.mem_append, hna, or_false]
end Go.Ev
