/- Which filters are sound: check. -/
import Derived.Test.YtdomogpjchpbnaaInsA
namespace Go.Ev
open Go Go.RowKit
variable {G : Tbl}
set_option maxRecDepth 10000
set_option maxHeartbeats 2000000
set_option linter.unusedSimpArgs false
set_option linter.unusedVariables false

theorem callK_of {ro : Bool} {f : Nat} {args : List V} {r : V} {H H1 : Heap} {K : List Kt} {e : Env} {Q : Ex → Env → Heap → Prop} {base : Nat} {d : Option Nat} {os : List SOper} (h : Big G (.F f args H r H1)) (hro : ro = true → base ≤ H.length ∧ H1.take H.length = H)
    (hr : WO G base os K (e.put d r) H1 Q) : callK G ro f args base d os K e H Q := ⟨r, H1, h, hro, hr⟩

/-- What must be so of an operation's number. -/
def ruleB (x : In4) : Bool :=
  if x.op = 32 then decide (x.k % 4 = 0 ∧ x.k < 64) else if x.op = 52 then decide (x.k ≠ 0) else if x.op = 2 ∨ x.op = 3 ∨ x.op = 96 ∨ x.op = 97 then decide (x.k < 16) else if x.op = 100 ∨ x.op = 116 then decide (x.k < 32) else true
/-- An instruction that has so many behind it. -/
def oneB (x : In4) (left : Nat) : Bool := rightI x && ruleB x && (if x.op = 5 then decide (x.k < left) else true) && (if isBr x.op then decide (x.jt < left ∧ x.jf < left) else true)
def okAll : List In4 → Bool
  | [] => true
  | x :: f => oneB x f.length && okAll f
def endB (f : List In4) : Bool := match f.getLast? with | some x => isEnd x.op | none => false
def soundF (f : List In4) : Bool := decide (f.length ≤ 4096) && okAll f && endB f

/-- The rules, kept. -/
def rents : List (V × V) := [(.int .i64 32, .fn 152 [.ptr 0 0]), (.int .i64 52, .fn 153 [.ptr 0 0]), (.int .i64 2, .fn 150 [.ptr 0 0]), (.int .i64 3, .fn 150 [.ptr 0 0]), (.int .i64 96, .fn 150 [.ptr 0 0]), (.int .i64 97, .fn 150 [.ptr 0 0]),
  (.int .i64 100, .fn 151 [.ptr 0 0]), (.int .i64 116, .fn 151 [.ptr 0 0])]
theorem rules_ok [HasCheck G] : Big G (.F 154 [] [] (.mp 1) [some (.cells [.fn 149 []]), some (.map rents)]) := by
  refine F_of HasCheck.h_check_rules (Nat.le_of_ble_eq_true rfl) ?_
  simp [rents]
theorem if1_ok [HasCheck G] (H : Heap) (b : Bool) (n : Int) : Big G (.F 149 [.bool b, .int .i64 n] H (.int .i64 (if b then 0 else n)) H) := by
  refine F_of HasCheck.h_check_rules_1 (Nat.le_of_ble_eq_true rfl) ?_
  cases b <;> simp

/-- The heap of a look at an instruction. -/
def RH (x : In4) : Heap := [some (.cells [.fn 149 []]), some (.map rents), some (.cells x.cs)]
theorem rents_cl (n : Nat) (h : 0 < n) : rents.map (fun p => (p.1.cl n, p.2.cl n)) = rents := by simp [rents, h]
theorem RH_trunc (x : In4) (r : List (Option Blk)) : trunc 3 (RH x ++ r) = RH x := by simp [trunc, RH, In4.cs, rents_cl]
theorem rule_any {f : Nat} [HasCheck G] (x : In4) (e : Int) (h : f = 150 ∧ e = (if decide (x.k < 16) then 0 else 7) ∨ f = 151 ∧ e = (if decide (x.k < 32) then 0 else 1) ∨ f = 152 ∧ e = (if decide (x.k % 4 = 0 ∧ x.k < 64) then 0 else 6) ∨ f = 153 ∧ e = (if decide (x.k ≠ 0) then 0 else 8)) :
    Big G (.F f [IV x, .ptr 0 0] (RH x) (.int .i64 e) (RH x ++ [some (.cells x.cs)])) := by
  have hr : remI (x.k : Int) 4 = ((x.k % 4 : Nat) : Int) := rem64 (b := 4)
  have l16 : ((x.k : Int) < 16) = (x.k < 16) := propext (by omega)
  have l32 : ((x.k : Int) < 32) = (x.k < 32) := propext (by omega)
  have l64 : ((x.k : Int) < 64) = (x.k < 64) := propext (by omega)
  have ne : ((x.k : Int) != 0) = decide (x.k ≠ 0) := by rw [Bool.eq_iff_iff]; simp
  rcases h with ⟨rfl, rfl⟩ | ⟨rfl, rfl⟩ | ⟨rfl, rfl⟩ | ⟨rfl, rfl⟩
  · refine F_of HasCheck.h_check_rules_2 (Nat.le_of_ble_eq_true rfl) ?_
    simp [IV, In4.cs, RH, l16]
    refine callV_of (if1_ok _ _ _) (by simp) ?_
    simp [trunc, rents_cl]
  · refine F_of HasCheck.h_check_rules_3 (Nat.le_of_ble_eq_true rfl) ?_
    simp [IV, In4.cs, RH, l32]
    refine callV_of (if1_ok _ _ _) (by simp) ?_
    simp [trunc, rents_cl]
  · refine F_of HasCheck.h_check_rules_4 (Nat.le_of_ble_eq_true rfl) ?_
    by_cases h4 : x.k % 4 = 0
    · simp [IV, In4.cs, RH, hr, h4, l64]
      refine callV_of (if1_ok _ _ _) (by simp) ?_
      simp [trunc, rents_cl]
    · have : ((x.k % 4 : Nat) : Int) ≠ 0 := by omega
      simp [IV, In4.cs, RH, hr, h4, beqF this, -Int.natCast_emod]
      refine callV_of (if1_ok _ _ _) (by simp) ?_
      simp [trunc, rents_cl]
  · refine F_of HasCheck.h_check_rules_5 (Nat.le_of_ble_eq_true rfl) ?_
    simp [IV, In4.cs, RH, ne]
    refine callV_of (if1_ok _ _ _) (by simp) ?_
    simp [trunc, rents_cl]

/-- The places to which an instruction goes. -/
def waysL (x : In4) (at' : Nat) : List Int := if isEnd x.op then [] else if x.op = 5 then [((at' + 1 + x.k : Nat) : Int)] else if isBr x.op then [(at' : Int) + 1 + min x.jt x.jf, (at' : Int) + 1 + max x.jt x.jf] else [((at' + 1 : Nat) : Int)]
def In4.brOk (x : In4) : Prop := isBr x.op = true → 0 ≤ x.jt ∧ x.jt ≤ 255 ∧ 0 ≤ x.jf ∧ x.jf ≤ 255
theorem right_br {x : In4} (h : rightI x = true) : x.brOk := by
  intro hb
  unfold rightI at h
  split at h
  · rename_i r hr
    have key : ∀ r ∈ shapeRows, isBr r.1 = r.2.2.2 := by decide
    obtain ⟨h1, h2⟩ := shape_some hr
    have := key r h2
    rw [h1, hb] at this
    simp only [← this, if_true, Bool.and_eq_true, decide_eq_true_eq] at h
    exact h.2
  · cases h
theorem convI64 (n : Nat) (h : n < 4294967296) : convI .i64 (n : Int) = (n : Int) := by unfold convI; exact IntWalk.i64_in _ ⟨by omega, by omega⟩
theorem ways_ok [HasIns G] [HasCheck G] (x : In4) (at' : Nat) (hx : x.k < 4294967296) (hb : x.brOk) (ha : at' ≤ 5000) : FP G 155 [IV x, .int .i64 at'] (.vs (ints .i64 (waysL x at')) .no) := by
  refine FP_of HasCheck.h_check_ways (Nat.le_of_ble_eq_true rfl) ?_
  have he := Ends_ok (G := G) x
  have hbr := Branch_ok (G := G) x
  have a1 : addI .i64 (at' : Int) 1 = ((at' + 1 : Nat) : Int) := add1' (by omega)
  simp [IV, In4.cs, a1, -Int.natCast_add] at he hbr ⊢
  refine callP_of he ?_
  cases h1 : isEnd x.op
  · have n6 : isEnd x.op = false := h1
    simp
    by_cases h5 : x.op = 5
    · have a2 : addI .i64 ((at' + 1 : Nat) : Int) (x.k : Int) = ((at' + 1 + x.k : Nat) : Int) := addN (by omega)
      have a2' : addI .i64 ((at' : Int) + 1) (x.k : Int) = ((at' + 1 + x.k : Nat) : Int) := by rw [← addN (a := at' + 1) (b := x.k) (by omega)]; rfl
      have h15 : isEnd 5 = false := by decide
      simp [h5, h15, convI64 x.k hx, a2, a2', waysL, ints, -Int.natCast_add]
    · simp [h5, beqF]
      refine callP_of hbr ?_
      cases h2 : isBr x.op
      · simp [waysL, h1, h5, h2, ints]
      · obtain ⟨b1, b2, b3, b4⟩ := hb h2
        have mn : (if x.jf < x.jt then x.jf else x.jt) = min x.jt x.jf := by omega
        have mx : (if x.jf > x.jt then x.jf else x.jt) = max x.jt x.jf := by omega
        have a3 : addI .i64 ((at' + 1 : Nat) : Int) (min x.jt x.jf) = (at' : Int) + 1 + min x.jt x.jf := by rw [addI64] <;> omega
        have a4 : addI .i64 ((at' + 1 : Nat) : Int) (max x.jt x.jf) = (at' : Int) + 1 + max x.jt x.jf := by rw [addI64] <;> omega
        have mx' : (if x.jt < x.jf then x.jf else x.jt) = max x.jt x.jf := by omega
        have mn' : (if x.jt > x.jf then x.jf else x.jt) = min x.jt x.jf := by omega
        have mn2 : (if x.jt ≤ x.jf then x.jt else x.jf) = min x.jt x.jf := by omega
        have a5 : addI .i64 ((at' : Int) + 1) (min x.jt x.jf) = (at' : Int) + 1 + min x.jt x.jf := by rw [addI64] <;> omega
        have a6 : addI .i64 ((at' : Int) + 1) (max x.jt x.jf) = (at' : Int) + 1 + max x.jt x.jf := by rw [addI64] <;> omega
        simp [mn, mx, mx', mn', a3, a4, a5, a6, waysL, h1, h5, h2, ints, -Int.natCast_add]
  · simp [waysL, h1]
/-- Which rule an operation has: its place, and its function. -/
def rpos (op : Int) : Option (Nat × Nat) :=
  if op = 32 then some (0, 152) else if op = 52 then some (1, 153) else if op = 2 then some (2, 150) else if op = 3 then some (3, 150) else if op = 96 then some (4, 150) else if op = 97 then some (5, 150) else
  if op = 100 then some (6, 151) else if op = 116 then some (7, 151) else none
theorem rents_find (op : Int) : mfind (.sc .int) (.int .i64 op) rents 0 = some ((rpos op).map fun p => (p.1, .fn p.2 [.ptr 0 0])) := by
  unfold rpos rents
  by_cases h1 : op = 32; · subst h1; rfl
  by_cases h2 : op = 52; · subst h2; rfl
  by_cases h3 : op = 2; · subst h3; rfl
  by_cases h4 : op = 3; · subst h4; rfl
  by_cases h5 : op = 96; · subst h5; rfl
  by_cases h6 : op = 97; · subst h6; rfl
  by_cases h7 : op = 100; · subst h7; rfl
  by_cases h8 : op = 116; · subst h8; rfl
  simp [mfind, keyEq, eqk, h1, h2, h3, h4, h5, h6, h7, h8, beqF]
theorem rule_ok [HasCheck G] (x : In4) {i f : Nat} (h : rpos x.op = some (i, f)) : ∃ e : Int, Big G (.F f [IV x, .ptr 0 0] (RH x) (.int .i64 e) (RH x ++ [some (.cells x.cs)])) ∧ (e = 0 ↔ ruleB x = true) := by
  unfold rpos at h
  have r4 (a : Bool) (n : Int) (hn : n ≠ 0) : ((if a = true then 0 else n) = 0 ↔ a = true) := by cases a <;> simp [hn]
  unfold ruleB
  split at h
  · rename_i h1; cases h; exact ⟨_, rule_any x _ (.inr (.inr (.inl ⟨rfl, rfl⟩))), by rw [r4 _ _ (by decide), if_pos h1]⟩
  split at h
  · rename_i h0 h1; cases h; exact ⟨_, rule_any x _ (.inr (.inr (.inr ⟨rfl, rfl⟩))), by rw [r4 _ _ (by decide), if_neg h0, if_pos h1]⟩
  have two : ¬ x.op = 32 → ¬ x.op = 52 → x.op = 2 ∨ x.op = 3 ∨ x.op = 96 ∨ x.op = 97 → some (i, f) = some (i, 150) → ∃ e : Int, Big G (.F f [IV x, .ptr 0 0] (RH x) (.int .i64 e) (RH x ++ [some (.cells x.cs)])) ∧
      (e = 0 ↔ (if x.op = 32 then decide (x.k % 4 = 0 ∧ x.k < 64) else if x.op = 52 then decide (x.k ≠ 0) else if x.op = 2 ∨ x.op = 3 ∨ x.op = 96 ∨ x.op = 97 then decide (x.k < 16) else if x.op = 100 ∨ x.op = 116 then decide (x.k < 32) else true) = true) := by
    intro h0 h1 h2 h3; cases h3
    exact ⟨_, rule_any x _ (.inl ⟨rfl, rfl⟩), by rw [r4 _ _ (by decide), if_neg h0, if_neg h1, if_pos h2]⟩
  rename_i n1 n2
  split at h
  · rename_i h1; cases h; exact two n1 n2 (.inl h1) rfl
  split at h
  · rename_i h1; cases h; exact two n1 n2 (.inr (.inl h1)) rfl
  split at h
  · rename_i h1; cases h; exact two n1 n2 (.inr (.inr (.inl h1))) rfl
  split at h
  · rename_i h1; cases h; exact two n1 n2 (.inr (.inr (.inr h1))) rfl
  rename_i n3 n4 n5 n6
  have n7 : ¬ (x.op = 2 ∨ x.op = 3 ∨ x.op = 96 ∨ x.op = 97) := by omega
  split at h
  · rename_i h1; cases h; exact ⟨_, rule_any x _ (.inr (.inl ⟨rfl, rfl⟩)), by rw [r4 _ _ (by decide), if_neg n1, if_neg n2, if_neg n7, if_pos (.inl h1)]⟩
  split at h
  · rename_i h1; cases h; exact ⟨_, rule_any x _ (.inr (.inl ⟨rfl, rfl⟩)), by rw [r4 _ _ (by decide), if_neg n1, if_neg n2, if_neg n7, if_pos (.inr h1)]⟩
  cases h
theorem rule_none {x : In4} (h : rpos x.op = none) : ruleB x = true := by
  unfold rpos at h
  unfold ruleB
  repeat' split at h
  all_goals first | (cases h; done) | skip
  rw [if_neg (by omega), if_neg (by omega), if_neg (by omega), if_neg (by omega)]
end Go.Ev

/- Which filters are sound: check.Check. -/
namespace Go.Ev
open Go Go.RowKit
variable {G : Tbl}
set_option maxRecDepth 10000
set_option maxHeartbeats 2000000
set_option linter.unusedSimpArgs false
set_option linter.unusedVariables false

theorem okAll_drop {f : List In4} {i : Nat} (h : i < f.length) : okAll (f.drop i) = (oneB f[i] (f.length - 1 - i) && okAll (f.drop (i + 1))) := by
  rw [List.drop_eq_getElem_cons h]
  simp only [okAll, List.length_drop]
  congr 2; omega
theorem FL_get {f : List In4} {i : Nat} (h : i < f.length) : (IL f)[i]? = some f[i].cs := by simp [List.getElem?_eq_getElem h]
/-- What comes of a check. -/
def Rch (f : List In4) (v : V) : Prop := ∃ i e : Int, v = .tup [.int .i64 i, .int .i64 e] ∧ (e = 0 ↔ soundF f = true)
theorem sound_of {f : List In4} (h0 : f ≠ []) (h1 : f.length ≤ 4096) (h2 : okAll f = true) (h3 : isEnd (f[f.length - 1]'(by have := List.length_pos_iff.2 h0; omega)).op = true) : soundF f = true := by
  have : f.getLast? = some (f[f.length - 1]'(by have := List.length_pos_iff.2 h0; omega)) := by rw [List.getLast?_eq_getElem?]; exact List.getElem?_eq_getElem _
  simp [soundF, endB, h1, h2, this, h3]
theorem unsound_end {f : List In4} (h0 : f ≠ []) (h3 : isEnd (f[f.length - 1]'(by have := List.length_pos_iff.2 h0; omega)).op = false) : soundF f = false := by
  have : f.getLast? = some (f[f.length - 1]'(by have := List.length_pos_iff.2 h0; omega)) := by rw [List.getLast?_eq_getElem?]; exact List.getElem?_eq_getElem _
  simp [soundF, endB, this, h3]
theorem unsound_ok {f : List In4} (h : okAll f = false) : soundF f = false := by simp [soundF, h]
theorem Rch_err {f : List In4} {i e : Int} (he : e ≠ 0) (h : soundF f = false) : Rch f (.tup [.int .i64 i, .int .i64 e]) := ⟨i, e, rfl, by simp [he, h]⟩
def H2 : Heap := [some (.cells [.fn 149 []]), some (.map rents)]

theorem ways_iff {x : In4} {i n : Nat} (h : i < n) (ht : (x.op == 5 || isBr x.op) = true) :
    (∀ w ∈ waysL x i, w < (n : Int)) ↔ ((if x.op = 5 then decide (x.k < n - 1 - i) else true) && (if isBr x.op then decide (x.jt < (n - 1 - i : Nat) ∧ x.jf < (n - 1 - i : Nat)) else true)) = true := by
  by_cases h5 : x.op = 5
  · have e5 : isEnd x.op = false := by rw [h5]; decide
    have b5 : isBr x.op = false := by rw [h5]; decide
    rw [if_pos h5, b5]
    rw [h5] at e5
    simp only [waysL, e5, h5, Bool.false_eq_true, if_false, if_true, List.mem_singleton, forall_eq, Bool.and_true, decide_eq_true_eq]
    omega
  · have hb : isBr x.op = true := by simpa [h5, beqF] using ht
    have he : isEnd x.op = false := by
      have key : ∀ p ∈ [21, 37, 53, 69, 29, 45, 61, (77 : Int)], isEnd p = false := by decide
      exact key _ (by simpa [isBr] using hb)
    rw [if_neg h5, if_pos hb]
    simp only [waysL, he, h5, hb, Bool.false_eq_true, if_false, if_true, List.mem_cons, List.not_mem_nil, or_false, forall_eq_or_imp, forall_eq, Bool.true_and, decide_eq_true_eq]
    omega
theorem ways_none {x : In4} (ht : (x.op == 5 || isBr x.op) = false) (left : Nat) : ((if x.op = 5 then decide (x.k < left) else true) && (if isBr x.op then decide (x.jt < left ∧ x.jf < left) else true)) = true := by
  simp only [Bool.or_eq_false_iff, beq_eq_false_iff_ne] at ht
  simp [ht.1, ht.2]
theorem one_of {x : In4} {left : Nat} (h1 : rightI x = true) (h2 : ruleB x = true) : oneB x left = ((if x.op = 5 then decide (x.k < left) else true) && (if isBr x.op then decide (x.jt < left ∧ x.jf < left) else true)) := by
  simp [oneB, h1, h2]
theorem ways_len (x : In4) (i : Nat) : (waysL x i).length ≤ 2 := by unfold waysL; split; simp; split; simp; split <;> simp
theorem Check_ok [HasIns G] [HasCheck G] (f : List In4) (hf : f.length ≤ maxLen) (hk : ∀ x ∈ f, x.k < 4294967296) : ∃ v, FP G 156 [FL f] v ∧ Rch f v := by
  refine FPx_of HasCheck.h_check_Check (Nat.le_of_ble_eq_true rfl) ?_
  by_cases h0 : f = []
  · subst h0
    simp [FL]
    exact ⟨0, 5, rfl, by decide⟩
  have hne : 0 < f.length := List.length_pos_iff.2 h0
  have hz : ((f.length : Int) = 0) = False := eq_false (by omega)
  by_cases hbig : f.length > 4096
  · have hb : ((4096 : Int) < (f.length : Int)) = True := eq_true (by omega)
    have : soundF f = false := by simp [soundF, show ¬ f.length ≤ 4096 by omega]
    simp [FL, h0, hb, beqI]
    exact ⟨0, 3, rfl, by simp [this]⟩
  have hb : ((4096 : Int) < (f.length : Int)) = False := eq_false (by omega)
  simp [FL, h0, hb, beqI]
  refine callK_of rules_ok (by simp) ?_
  simp
  refine W_up f.length (fun i => [(0, FL f), (4, .mp 1), (22, FL f), (23, .int .i64 f.length), (24, .int .i64 i)]) (fun _ => H2) (fun i => okAll (f.take 0) = true ∧ okAll f = okAll (f.drop i)) ?_ ?_
  · simp [keep_cl, trunc, H2, rents_cl, FL, okAll]
  intro i hi hn
  by_cases hlt : i < f.length
  · have hx := FL_get hlt
    have hg : f[i] ∈ f := List.getElem_mem hlt
    have hkk := hk _ hg
    have hdr := okAll_drop hlt
    have bad : oneB f[i] (f.length - 1 - i) = false → ∀ j e : Int, e ≠ 0 → Rch f (.tup [.int .i64 j, .int .i64 e]) := by
      intro h j e he
      rw [h] at hdr
      exact ⟨j, e, rfl, by simp [he, unsound_ok (hn.2.trans hdr)]⟩
    generalize f[i] = x at hx hkk hdr hg bad
    have hr := RightI_ok (G := G) x
    have hbr := Branch_ok (G := G) x
    simp [IV, In4.cs] at hr hbr
    simp (disch := omega) [H2, ltT, FL, hx, In4.cs, beqI, -Int.natCast_add]
    refine callP_of hr ?_
    cases h1 : rightI x
    · simp
      exact bad (by simp [oneB, h1]) _ _ (by decide)
    simp [rents_find]
    cases h2 : rpos x.op with
    | none =>
      have hrule := rule_none h2
      by_cases h5 : x.op = 5
      · have htg5 : (x.op == 5 || isBr x.op) = true := by simp [h5]
        have hb5 : (x.op == 5) = true := by simp [h5]
        simp [hb5, trunc, rents_cl, keep_cl]
        have hw := ways_ok (G := G) x i hkk (right_br h1) (by omega)
        simp [IV, In4.cs] at hw
        have htg : ∃ tg, tg = (x.op == 5 || isBr x.op) := ⟨_, rfl⟩
        obtain ⟨tg, htg⟩ := htg
        have hwl := ways_len x i
        have fin : (tg = true → ∀ w ∈ waysL x i, w < (f.length : Int)) → okAll f = okAll (f.drop (i + 1)) := by
          intro hall
          rw [hn.2, hdr, one_of h1 hrule]
          cases tg with
          | false => rw [ways_none htg.symm]; simp
          | true => rw [(ways_iff hlt htg.symm).1 (hall rfl)]; simp
        have bad' : tg = true → ∀ w ∈ waysL x i, ¬ w < (f.length : Int) → oneB x (f.length - 1 - i) = false := by
          intro ht w hm hw'
          rw [one_of h1 hrule]
          rw [ht] at htg
          rw [← Bool.not_eq_true]
          intro h; exact hw' ((ways_iff hlt htg.symm).2 h w hm)
        have loop : ∀ (w : List Int), w.length ≤ 2 → (∀ v ∈ w, v ∈ waysL x i) → True := fun _ _ _ => trivial
        generalize waysL x i = w at hw hwl fin bad' loop
        refine callP_of hw ?_
        simp
        refine W_up w.length (fun j => [(0, FL f), (4, .mp 1), (5, .int .i64 i), (9, .bool tg), (22, FL f), (23, .int .i64 f.length), (24, .int .i64 i), (55, .vs (ints .i64 w) .no), (56, .int .i64 w.length), (57, .int .i64 j)])
          (fun _ => [some (.cells [.fn 149 []]), some (.map rents), some (.cells [.int .i64 x.op, .int .i64 x.jt, .int .i64 x.jf, .int .u32 (x.k : Int)])]) (fun j => tg = true → ∀ v ∈ w.take j, v < (f.length : Int)) ?_ ?_
        · simp [keep_cl, trunc, FL, rents_cl, htg.trans htg5]
        intro j hj hp
        by_cases hjl : j < w.length
        · by_cases hv : tg = true ∧ ¬ w[j] < (f.length : Int)
          · have hb := bad' hv.1 _ (List.getElem_mem hjl) hv.2
            have hv2 : ((f.length : Int) ≤ w[j]) = True := eq_true (by omega)
            simp (disch := omega) [ltT, hjl, hv.1, hv2, FL, get_in, -Int.natCast_add]
            exact bad hb i 4 (by decide)
          · have hp' : tg = true → ∀ v ∈ w.take (j + 1), v < (f.length : Int) := by
              intro ht v hm
              rw [List.take_add_one, List.getElem?_eq_getElem hjl] at hm
              simp only [Option.toList, List.mem_append, List.mem_singleton] at hm
              rcases hm with hm | rfl
              · exact hp ht v hm
              · exact Int.not_le.1 fun h => hv ⟨ht, by omega⟩
            cases htt : tg with
            | false =>
              simp (disch := omega) [ltT, hjl, FL, get_in, keep_cl, trunc, rents_cl, add1', -Int.natCast_add]
            | true =>
              have hv2 : ((f.length : Int) ≤ w[j]) = False := eq_false fun h => hv ⟨htt, by omega⟩
              simp (disch := omega) [ltT, hjl, FL, get_in, hv2, keep_cl, trunc, rents_cl, add1', -Int.natCast_add]
              rw [htt] at hp'
              exact hp' rfl
        · have hjn : j = w.length := by omega
          subst hjn
          rw [List.take_length] at hp
          have hfin := fin hp
          simp (disch := omega) [hlt, keep_cl, trunc, rents_cl, H2, FL, add1', hfin, okAll, -Int.natCast_add]
      · have htg5 : (x.op == 5 || isBr x.op) = isBr x.op := by simp [h5]
        simp [beqF, h5, trunc, rents_cl, keep_cl]
        refine callP_of hbr ?_
        simp
        have hw := ways_ok (G := G) x i hkk (right_br h1) (by omega)
        simp [IV, In4.cs] at hw
        have htg : ∃ tg, tg = (x.op == 5 || isBr x.op) := ⟨_, rfl⟩
        obtain ⟨tg, htg⟩ := htg
        have hwl := ways_len x i
        have fin : (tg = true → ∀ w ∈ waysL x i, w < (f.length : Int)) → okAll f = okAll (f.drop (i + 1)) := by
          intro hall
          rw [hn.2, hdr, one_of h1 hrule]
          cases tg with
          | false => rw [ways_none htg.symm]; simp
          | true => rw [(ways_iff hlt htg.symm).1 (hall rfl)]; simp
        have bad' : tg = true → ∀ w ∈ waysL x i, ¬ w < (f.length : Int) → oneB x (f.length - 1 - i) = false := by
          intro ht w hm hw'
          rw [one_of h1 hrule]
          rw [ht] at htg
          rw [← Bool.not_eq_true]
          intro h; exact hw' ((ways_iff hlt htg.symm).2 h w hm)
        have loop : ∀ (w : List Int), w.length ≤ 2 → (∀ v ∈ w, v ∈ waysL x i) → True := fun _ _ _ => trivial
        generalize waysL x i = w at hw hwl fin bad' loop
        refine callP_of hw ?_
        simp
        refine W_up w.length (fun j => [(0, FL f), (4, .mp 1), (5, .int .i64 i), (9, .bool tg), (22, FL f), (23, .int .i64 f.length), (24, .int .i64 i), (55, .vs (ints .i64 w) .no), (56, .int .i64 w.length), (57, .int .i64 j)])
          (fun _ => [some (.cells [.fn 149 []]), some (.map rents), some (.cells [.int .i64 x.op, .int .i64 x.jt, .int .i64 x.jf, .int .u32 (x.k : Int)])]) (fun j => tg = true → ∀ v ∈ w.take j, v < (f.length : Int)) ?_ ?_
        · simp [keep_cl, trunc, FL, rents_cl, htg.trans htg5]
        intro j hj hp
        by_cases hjl : j < w.length
        · by_cases hv : tg = true ∧ ¬ w[j] < (f.length : Int)
          · have hb := bad' hv.1 _ (List.getElem_mem hjl) hv.2
            have hv2 : ((f.length : Int) ≤ w[j]) = True := eq_true (by omega)
            simp (disch := omega) [ltT, hjl, hv.1, hv2, FL, get_in, -Int.natCast_add]
            exact bad hb i 4 (by decide)
          · have hp' : tg = true → ∀ v ∈ w.take (j + 1), v < (f.length : Int) := by
              intro ht v hm
              rw [List.take_add_one, List.getElem?_eq_getElem hjl] at hm
              simp only [Option.toList, List.mem_append, List.mem_singleton] at hm
              rcases hm with hm | rfl
              · exact hp ht v hm
              · exact Int.not_le.1 fun h => hv ⟨ht, by omega⟩
            cases htt : tg with
            | false =>
              simp (disch := omega) [ltT, hjl, FL, get_in, keep_cl, trunc, rents_cl, add1', -Int.natCast_add]
            | true =>
              have hv2 : ((f.length : Int) ≤ w[j]) = False := eq_false fun h => hv ⟨htt, by omega⟩
              simp (disch := omega) [ltT, hjl, FL, get_in, hv2, keep_cl, trunc, rents_cl, add1', -Int.natCast_add]
              rw [htt] at hp'
              exact hp' rfl
        · have hjn : j = w.length := by omega
          subst hjn
          rw [List.take_length] at hp
          have hfin := fin hp
          simp (disch := omega) [hlt, keep_cl, trunc, rents_cl, H2, FL, add1', hfin, okAll, -Int.natCast_add]
    | some p =>
      obtain ⟨n, fn⟩ := p
      obtain ⟨e, he, hee⟩ := rule_ok (G := G) x h2
      simp
      simp [RH, In4.cs, IV] at he
      refine callV_of he (by simp) ?_
      by_cases h0e : e = 0
      · have hrule := hee.1 h0e
        subst h0e
        by_cases h5 : x.op = 5
        · have htg5 : (x.op == 5 || isBr x.op) = true := by simp [h5]
          have hb5 : (x.op == 5) = true := by simp [h5]
          simp [hb5, trunc, rents_cl, keep_cl]
          have hw := ways_ok (G := G) x i hkk (right_br h1) (by omega)
          simp [IV, In4.cs] at hw
          have htg : ∃ tg, tg = (x.op == 5 || isBr x.op) := ⟨_, rfl⟩
          obtain ⟨tg, htg⟩ := htg
          have hwl := ways_len x i
          have fin : (tg = true → ∀ w ∈ waysL x i, w < (f.length : Int)) → okAll f = okAll (f.drop (i + 1)) := by
            intro hall
            rw [hn.2, hdr, one_of h1 hrule]
            cases tg with
            | false => rw [ways_none htg.symm]; simp
            | true => rw [(ways_iff hlt htg.symm).1 (hall rfl)]; simp
          have bad' : tg = true → ∀ w ∈ waysL x i, ¬ w < (f.length : Int) → oneB x (f.length - 1 - i) = false := by
            intro ht w hm hw'
            rw [one_of h1 hrule]
            rw [ht] at htg
            rw [← Bool.not_eq_true]
            intro h; exact hw' ((ways_iff hlt htg.symm).2 h w hm)
          have loop : ∀ (w : List Int), w.length ≤ 2 → (∀ v ∈ w, v ∈ waysL x i) → True := fun _ _ _ => trivial
          generalize waysL x i = w at hw hwl fin bad' loop
          refine callP_of hw ?_
          simp
          refine W_up w.length (fun j => [(0, FL f), (4, .mp 1), (5, .int .i64 i), (9, .bool tg), (22, FL f), (23, .int .i64 f.length), (24, .int .i64 i), (55, .vs (ints .i64 w) .no), (56, .int .i64 w.length), (57, .int .i64 j)])
            (fun _ => [some (.cells [.fn 149 []]), some (.map rents), some (.cells [.int .i64 x.op, .int .i64 x.jt, .int .i64 x.jf, .int .u32 (x.k : Int)])]) (fun j => tg = true → ∀ v ∈ w.take j, v < (f.length : Int)) ?_ ?_
          · simp [keep_cl, trunc, FL, rents_cl, htg.trans htg5]
          intro j hj hp
          by_cases hjl : j < w.length
          · by_cases hv : tg = true ∧ ¬ w[j] < (f.length : Int)
            · have hb := bad' hv.1 _ (List.getElem_mem hjl) hv.2
              have hv2 : ((f.length : Int) ≤ w[j]) = True := eq_true (by omega)
              simp (disch := omega) [ltT, hjl, hv.1, hv2, FL, get_in, -Int.natCast_add]
              exact bad hb i 4 (by decide)
            · have hp' : tg = true → ∀ v ∈ w.take (j + 1), v < (f.length : Int) := by
                intro ht v hm
                rw [List.take_add_one, List.getElem?_eq_getElem hjl] at hm
                simp only [Option.toList, List.mem_append, List.mem_singleton] at hm
                rcases hm with hm | rfl
                · exact hp ht v hm
                · exact Int.not_le.1 fun h => hv ⟨ht, by omega⟩
              cases htt : tg with
              | false =>
                simp (disch := omega) [ltT, hjl, FL, get_in, keep_cl, trunc, rents_cl, add1', -Int.natCast_add]
              | true =>
                have hv2 : ((f.length : Int) ≤ w[j]) = False := eq_false fun h => hv ⟨htt, by omega⟩
                simp (disch := omega) [ltT, hjl, FL, get_in, hv2, keep_cl, trunc, rents_cl, add1', -Int.natCast_add]
                rw [htt] at hp'
                exact hp' rfl
          · have hjn : j = w.length := by omega
            subst hjn
            rw [List.take_length] at hp
            have hfin := fin hp
            simp (disch := omega) [hlt, keep_cl, trunc, rents_cl, H2, FL, add1', hfin, okAll, -Int.natCast_add]
        · have htg5 : (x.op == 5 || isBr x.op) = isBr x.op := by simp [h5]
          simp [beqF, h5, trunc, rents_cl, keep_cl]
          refine callP_of hbr ?_
          simp
          have hw := ways_ok (G := G) x i hkk (right_br h1) (by omega)
          simp [IV, In4.cs] at hw
          have htg : ∃ tg, tg = (x.op == 5 || isBr x.op) := ⟨_, rfl⟩
          obtain ⟨tg, htg⟩ := htg
          have hwl := ways_len x i
          have fin : (tg = true → ∀ w ∈ waysL x i, w < (f.length : Int)) → okAll f = okAll (f.drop (i + 1)) := by
            intro hall
            rw [hn.2, hdr, one_of h1 hrule]
            cases tg with
            | false => rw [ways_none htg.symm]; simp
            | true => rw [(ways_iff hlt htg.symm).1 (hall rfl)]; simp
          have bad' : tg = true → ∀ w ∈ waysL x i, ¬ w < (f.length : Int) → oneB x (f.length - 1 - i) = false := by
            intro ht w hm hw'
            rw [one_of h1 hrule]
            rw [ht] at htg
            rw [← Bool.not_eq_true]
            intro h; exact hw' ((ways_iff hlt htg.symm).2 h w hm)
          have loop : ∀ (w : List Int), w.length ≤ 2 → (∀ v ∈ w, v ∈ waysL x i) → True := fun _ _ _ => trivial
          generalize waysL x i = w at hw hwl fin bad' loop
          refine callP_of hw ?_
          simp
          refine W_up w.length (fun j => [(0, FL f), (4, .mp 1), (5, .int .i64 i), (9, .bool tg), (22, FL f), (23, .int .i64 f.length), (24, .int .i64 i), (55, .vs (ints .i64 w) .no), (56, .int .i64 w.length), (57, .int .i64 j)])
            (fun _ => [some (.cells [.fn 149 []]), some (.map rents), some (.cells [.int .i64 x.op, .int .i64 x.jt, .int .i64 x.jf, .int .u32 (x.k : Int)])]) (fun j => tg = true → ∀ v ∈ w.take j, v < (f.length : Int)) ?_ ?_
          · simp [keep_cl, trunc, FL, rents_cl, htg.trans htg5]
          intro j hj hp
          by_cases hjl : j < w.length
          · by_cases hv : tg = true ∧ ¬ w[j] < (f.length : Int)
            · have hb := bad' hv.1 _ (List.getElem_mem hjl) hv.2
              have hv2 : ((f.length : Int) ≤ w[j]) = True := eq_true (by omega)
              simp (disch := omega) [ltT, hjl, hv.1, hv2, FL, get_in, -Int.natCast_add]
              exact bad hb i 4 (by decide)
            · have hp' : tg = true → ∀ v ∈ w.take (j + 1), v < (f.length : Int) := by
                intro ht v hm
                rw [List.take_add_one, List.getElem?_eq_getElem hjl] at hm
                simp only [Option.toList, List.mem_append, List.mem_singleton] at hm
                rcases hm with hm | rfl
                · exact hp ht v hm
                · exact Int.not_le.1 fun h => hv ⟨ht, by omega⟩
              cases htt : tg with
              | false =>
                simp (disch := omega) [ltT, hjl, FL, get_in, keep_cl, trunc, rents_cl, add1', -Int.natCast_add]
              | true =>
                have hv2 : ((f.length : Int) ≤ w[j]) = False := eq_false fun h => hv ⟨htt, by omega⟩
                simp (disch := omega) [ltT, hjl, FL, get_in, hv2, keep_cl, trunc, rents_cl, add1', -Int.natCast_add]
                rw [htt] at hp'
                exact hp' rfl
          · have hjn : j = w.length := by omega
            subst hjn
            rw [List.take_length] at hp
            have hfin := fin hp
            simp (disch := omega) [hlt, keep_cl, trunc, rents_cl, H2, FL, add1', hfin, okAll, -Int.natCast_add]
      · have hrb : ruleB x = false := by rw [← Bool.not_eq_true]; exact fun h => h0e (hee.2 h)
        simp [bneT, h0e, trunc, rents_cl]
        exact bad (by simp [oneB, hrb]) _ _ h0e
  · have hin : i = f.length := by omega
    subst hin
    have hlt : f.length - 1 < f.length := by omega
    have hx := FL_get hlt
    have h2 := hn.2
    rw [List.drop_length] at h2
    have hs1 := sound_of h0 (by omega) h2
    have hs2 := unsound_end h0
    generalize f[f.length - 1] = x at hx hs1 hs2
    have he := Ends_ok (G := G) x
    simp [IV, In4.cs] at he
    have hsub : subI .i64 (f.length : Int) 1 = ((f.length - 1 : Nat) : Int) := sub1' (by have : maxLen ≤ 9223372036854775807 := by decide
                                                                                         omega)
    simp [FL, hsub, hx, In4.cs]
    refine callP_of he ?_
    cases hen : isEnd x.op
    · simp
      exact ⟨_, 5, rfl, by simp [hs2 hen]⟩
    · simp
      exact ⟨_, 0, rfl, by simp [hs1 hen]⟩
theorem Sound_ok [HasIns G] [HasCheck G] (f : List In4) (hf : f.length ≤ maxLen) (hk : ∀ x ∈ f, x.k < 4294967296) : FP G 157 [FL f] (.bool (soundF f)) := by
  refine FP_of HasCheck.h_check_Sound (Nat.le_of_ble_eq_true rfl) ?_
  obtain ⟨v, hv, i, e, rfl, he⟩ := Check_ok (G := G) f hf hk
  simp
  refine callP_of hv ?_
  have : (e == 0) = soundF f := by rw [Bool.eq_iff_iff, beq_iff_eq]; exact he
  simp [this]
end Go.Ev

/- Which filters are sound, by hurdleref05. -/
namespace Go.Ev
open Go Go.RowKit
variable {G : Tbl}
set_option maxRecDepth 10000
set_option maxHeartbeats 2000000
set_option linter.unusedSimpArgs false
set_option linter.unusedVariables false

theorem convU64 (n : Nat) (h : n < 18446744073709551616) : convI .u64 (n : Int) = (n : Int) := by unfold convI; exact IntWalk.u64_in _ ⟨by omega, by omega⟩
theorem One_ok [HasR2 G] [HasR5o G] (x : In4) (at' n : Nat) (hx : x.k < 4294967296) (ha : at' < n) (hn : n ≤ maxLen) : ∃ v, FP G 186 [IV x, .int .i64 at', .int .i64 n] v ∧ ∃ e : Int, v = .int .i64 e ∧ (e = 0 ↔ oneB x (n - 1 - at') = true) := by
  refine FPx_of HasR5o.h_hurdleref05_One (Nat.le_of_ble_eq_true rfl) ?_
  have hr := RightR2_ok (G := G) x
  have hbr := BranchR_ok (G := G) x
  have hm : maxLen ≤ 9223372036854775807 := by decide
  have s1 : subI .i64 (n : Int) 1 = ((n - 1 : Nat) : Int) := sub1' (by omega)
  have s2 : subI .i64 ((n - 1 : Nat) : Int) (at' : Int) = ((n - 1 - at' : Nat) : Int) := by rw [subI64] <;> omega
  have hl : n - 1 - at' < 9223372036854775808 := by omega
  generalize n - 1 - at' = left at s2 hl
  obtain ⟨op, jt, jf, k⟩ := x
  have hx : k < 4294967296 := hx
  have r4 : remI (k : Int) 4 = ((k % 4 : Nat) : Int) := rem64 (b := 4)
  have h4 : (((k % 4 : Nat) : Int) = 0) = (k % 4 = 0) := propext (by omega)
  have h60 : (60 < (k : Int)) = (60 < k) := propext (by omega)
  have h15 : (15 < (k : Int)) = (15 < k) := propext (by omega)
  have h31 : (31 < (k : Int)) = (31 < k) := propext (by omega)
  have c1 : convI .u64 (k : Int) = (k : Int) := convU64 k (by omega)
  have c2 : convI .u64 (left : Int) = (left : Int) := convU64 left (by omega)
  have hle : ((left : Int) ≤ (k : Int)) = (left ≤ k) := propext (by omega)
  simp [IV, In4.cs] at hr hbr ⊢
  refine callP_of hr ?_
  cases h1 : rightI ⟨op, jt, jf, k⟩
  · simp [oneB, h1]
  clear hr
  simp
  by_cases o32 : op = 32
  · subst o32
    have e1 : isBr 32 = false := by decide
    rw [e1] at hbr
    by_cases hk4 : k % 4 = 0
    · by_cases hk : 60 < k
      · simp [r4, h4, hk4, h60, hk, beqI, -Int.natCast_emod, oneB, ruleB]
        intro _ h; omega
      · have : k < 64 := by omega
        simp [r4, h4, hk4, h60, hk, beqI, s1, s2, -Int.natCast_emod]
        refine callP_of hbr ?_
        simp [oneB, ruleB, h1, hk4, this, e1]
    · have h40 : (((k % 4 : Nat) : Int) != 0) = true := by simp [-Int.natCast_emod, h4, hk4]
      simp [r4, h40, hk4, h60, beqI, -Int.natCast_emod, oneB, ruleB]
  by_cases o52 : op = 52
  · subst o52
    have e1 : isBr 52 = false := by decide
    rw [e1] at hbr
    by_cases hk4 : k = 0
    · simp [hk4, beqI, oneB, ruleB]
    · have : ((k : Int) = 0) = False := eq_false (by omega)
      simp [this, hk4, beqI, s1, s2]
      refine callP_of hbr ?_
      simp [oneB, ruleB, h1, hk4, e1]
  by_cases oa : op = 2 ∨ op = 3 ∨ op = 96 ∨ op = 97
  · have e1 : isBr op = false := by rcases oa with rfl | rfl | rfl | rfl <;> decide
    have hru : ruleB ⟨op, jt, jf, k⟩ = decide (k < 16) := by rcases oa with rfl | rfl | rfl | rfl <;> rfl
    have n5 : ¬ op = 5 := by omega
    rw [e1] at hbr
    by_cases hk : 15 < k
    · have : oneB ⟨op, jt, jf, k⟩ left = false := by simp [oneB, hru]; intro _ h; omega
      rcases oa with rfl | rfl | rfl | rfl <;> simp [h15, hk, beqI, this]
    · have : oneB ⟨op, jt, jf, k⟩ left = true := by simp [oneB, hru, h1, e1, n5]; omega
      rcases oa with rfl | rfl | rfl | rfl <;> simp [h15, hk, beqI, s1, s2] <;> refine callP_of hbr ?_ <;> simp [this]
  by_cases ob : op = 100 ∨ op = 116
  · have e1 : isBr op = false := by rcases ob with rfl | rfl <;> decide
    have hru : ruleB ⟨op, jt, jf, k⟩ = decide (k < 32) := by rcases ob with rfl | rfl <;> rfl
    have n5 : ¬ op = 5 := by omega
    rw [e1] at hbr
    by_cases hk : 31 < k
    · have : oneB ⟨op, jt, jf, k⟩ left = false := by simp [oneB, hru]; intro _ h; omega
      rcases ob with rfl | rfl <;> simp [h31, hk, beqI, this]
    · have : oneB ⟨op, jt, jf, k⟩ left = true := by simp [oneB, hru, h1, e1, n5]; omega
      rcases ob with rfl | rfl <;> simp [h31, hk, beqI, s1, s2] <;> refine callP_of hbr ?_ <;> simp [this]
  have hru : ruleB ⟨op, jt, jf, k⟩ = true := by simp [ruleB, o32, o52, oa, ob]
  by_cases o5 : op = 5
  · subst o5
    have e1 : isBr 5 = false := by decide
    rw [e1] at hbr
    by_cases hk : left ≤ k
    · have : oneB ⟨5, jt, jf, k⟩ left = false := by simp [oneB, hru]; intro _ h; omega
      simp [s1, s2, c1, c2, hle, hk, this]
    · have : oneB ⟨5, jt, jf, k⟩ left = true := by simp [oneB, hru, h1, e1]; omega
      simp [s1, s2, c1, c2, hle, hk]
      refine callP_of hbr ?_
      simp [this]
  have ne : ∀ o : Int, op ≠ o → (op == o) = false := fun o h => beqF h
  have n2 := ne 2 (by omega)
  have n3 := ne 3 (by omega)
  have n96 := ne 96 (by omega)
  have n97 := ne 97 (by omega)
  have n100 := ne 100 (by omega)
  have n116 := ne 116 (by omega)
  simp [ne 32 o32, ne 52 o52, ne 5 o5, n2, n3, n96, n97, n100, n116, s1, s2]
  refine callP_of hbr ?_
  cases hb : isBr op
  · simp [oneB, h1, hru, hb, o5]
  · simp
    by_cases ht : (left : Int) ≤ jt
    · have : oneB ⟨op, jt, jf, k⟩ left = false := by simp [oneB, hb]; intros; omega
      simp [ht, this]
    · by_cases hf : (left : Int) ≤ jf
      · have : oneB ⟨op, jt, jf, k⟩ left = false := by simp [oneB, hb]; intros; omega
        simp [ht, hf, this]
      · have : oneB ⟨op, jt, jf, k⟩ left = true := by simp [oneB, hb, h1, hru, o5]; omega
        simp [ht, hf, this]

theorem CheckR_ok [HasR2 G] [HasR5 G] (f : List In4) (hf : f.length ≤ maxLen) (hk : ∀ x ∈ f, x.k < 4294967296) : ∃ v, FP G 187 [FL f] v ∧ Rch f v := by
  refine FPx_of HasR5.h_hurdleref05_Check (Nat.le_of_ble_eq_true rfl) ?_
  by_cases h0 : f = []
  · subst h0
    simp [FL]
    exact ⟨0, 5, rfl, by decide⟩
  have hne : 0 < f.length := List.length_pos_iff.2 h0
  by_cases hbig : f.length > 4096
  · have hb : ((4096 : Int) < (f.length : Int)) = True := eq_true (by omega)
    have : soundF f = false := by simp [soundF, show ¬ f.length ≤ 4096 by omega]
    simp [FL, h0, hb, beqI]
    exact ⟨0, 3, rfl, by simp [this]⟩
  have hb : ((4096 : Int) < (f.length : Int)) = False := eq_false (by omega)
  simp [FL, h0, hb, beqI]
  refine W_up f.length (fun i => [(0, FL f), (4, .int .i64 i)]) (fun _ => []) (fun i => okAll f = okAll (f.drop i)) ?_ ?_
  · simp [keep_cl, trunc, FL]
  intro i hi hn
  by_cases hlt : i < f.length
  · have hx := FL_get hlt
    have hg : f[i] ∈ f := List.getElem_mem hlt
    have hkk := hk _ hg
    have hdr := okAll_drop hlt
    obtain ⟨v, ho, e, rfl, he⟩ := One_ok (G := G) f[i] i f.length hkk hlt hf
    generalize f[i] = x at hx hkk hdr hg ho he
    simp [IV, In4.cs] at ho
    simp (disch := omega) [ltT, FL, hx, In4.cs, hlt, -Int.natCast_add]
    refine callP_of ho ?_
    by_cases h0e : e = 0
    · have := he.1 h0e
      rw [this, Bool.true_and] at hdr
      have hn2 := hn.trans hdr
      simp (disch := omega) [h0e, hlt, add1', keep_cl, trunc, FL, hn2, -Int.natCast_add]
    · have hrb : oneB x (f.length - 1 - i) = false := by rw [← Bool.not_eq_true]; exact fun h => h0e (he.2 h)
      rw [hrb] at hdr
      simp [bneT, h0e]
      exact ⟨_, _, rfl, by simp [h0e, unsound_ok (hn.trans hdr)]⟩
  · have hin : i = f.length := by omega
    subst hin
    have hlt : f.length - 1 < f.length := by omega
    have hx := FL_get hlt
    rw [List.drop_length] at hn
    have hs1 := sound_of h0 (by omega) hn
    have hs2 := unsound_end h0
    generalize f[f.length - 1] = x at hx hs1 hs2
    have he := EndsR_ok (G := G) x
    simp [IV, In4.cs] at he
    have hsub : subI .i64 (f.length : Int) 1 = ((f.length - 1 : Nat) : Int) := sub1' (by have : maxLen ≤ 9223372036854775807 := by decide
                                                                                         omega)
    simp [FL, hsub, hx, In4.cs]
    refine callP_of he ?_
    cases hen : isEnd x.op
    · simp
      exact ⟨_, 5, rfl, by simp [hs2 hen]⟩
    · simp
      exact ⟨_, 0, rfl, by simp [hs1 hen]⟩
theorem SoundR_ok [HasR2 G] [HasR5 G] (f : List In4) (hf : f.length ≤ maxLen) (hk : ∀ x ∈ f, x.k < 4294967296) : FP G 188 [FL f] (.bool (soundF f)) := by
  refine FP_of HasR5.h_hurdleref05_Sound (Nat.le_of_ble_eq_true rfl) ?_
  obtain ⟨v, hv, i, e, rfl, he⟩ := CheckR_ok (G := G) f hf hk
  simp
  refine callP_of hv ?_
  have : (e == 0) = soundF f := by rw [Bool.eq_iff_iff, beq_iff_eq]; exact he
  simp [this]

/-- Does an instruction go over so many to the next one? -/
def wantB (x : In4) (m : Nat) : Bool := !isEnd x.op && (if isBr x.op then decide ((m : Int) = x.jt) || decide ((m : Int) = x.jf) else if x.op = 5 then decide (m = x.k) else decide (m = 0))
/-- The places that are next to one, of so many behind it. -/
def nxL (x : In4) (i m : Nat) : List Int := ((List.range m).filter (wantB x)).map fun (j : Nat) => ((i + 1 + j : Nat) : Int)
theorem nxL_succ (x : In4) (i m : Nat) : nxL x i (m + 1) = nxL x i m ++ (if wantB x m = true then [((i + 1 + m : Nat) : Int)] else []) := by
  unfold nxL
  rw [List.range_succ, List.filter_append, List.map_append]
  congr 1
  simp only [List.filter_cons, List.filter_nil]
  split <;> rfl
theorem nxL_len (x : In4) (i m : Nat) : (nxL x i m).length ≤ m := by
  unfold nxL; rw [List.length_map]; exact Nat.le_trans (List.length_filter_le _ _) (by simp)
theorem Next_ok [HasR2 G] [HasR5 G] [HasR5n G] (f : List In4) (i : Nat) (x : In4) (hi : f[i]? = some x) (hf : f.length ≤ 10000) (hk : x.k < 4294967296) : FP G 189 [FL f, .int .i64 i] (.vs (ints .i64 (nxL x i (f.length - 1 - i))) .no) := by
  refine FP_of HasR5n.h_hurdleref05_Next (Nat.le_of_ble_eq_true rfl) ?_
  have hm : maxLen ≤ 9223372036854775807 := by decide
  obtain ⟨hlt, hx⟩ := List.getElem?_eq_some_iff.1 hi
  have hg := FL_get hlt
  rw [hx] at hg
  have a1 : addI .i64 (i : Int) 1 = ((i + 1 : Nat) : Int) := add1' (by omega)
  have hbr := BranchR_ok (G := G) x
  have he := EndsR_ok (G := G) x
  simp [IV, In4.cs] at hbr he
  have hcs : x.cs = [.int .i64 x.op, .int .i64 x.jt, .int .i64 x.jf, .int .u32 (x.k : Int)] := rfl
  simp (disch := omega) [FL, hg, hcs, ltT, a1, -Int.natCast_add]
  refine W_up (f.length - 1 - i) (fun m => [(0, FL f), (1, .int .i64 i), (5, .ptr 0 0), (6, .vs (ints .i64 (nxL x i m)) (.own 1)), (7, .int .i64 ((i + 1 + m : Nat) : Int))])
    (fun m => [some (.cells x.cs), some (.zone (nxL x i m).length)]) (fun _ => True) ?_ ?_
  · simp [keep_cl, trunc, FL, nxL, In4.cs]
  intro m hml _
  by_cases hmlt : m < f.length - 1 - i
  · have s1 : subI .i64 ((i + 1 + m : Nat) : Int) (i : Int) = ((1 + m : Nat) : Int) := by rw [subI64] <;> omega
    have s2 : subI .i64 ((1 + m : Nat) : Int) 1 = (m : Int) := by rw [subI64] <;> omega
    have a2 : addI .i64 ((i + 1 + m : Nat) : Int) 1 = ((i + 1 + (m + 1) : Nat) : Int) := add1' (by omega)
    have hl : ((i + 1 + m : Nat) : Int) < (f.length : Int) := by omega
    have c1 : convI .u64 (m : Int) = (m : Int) := convU64 m (by omega)
    have c2 : convI .u64 (x.k : Int) = (x.k : Int) := convU64 x.k (by omega)
    have hlen := nxL_len x i m
    have wlast : ∀ w : Bool, wantB x m = w → (if w = true then nxL x i (m + 1) = nxL x i m ++ [((i + 1 + m : Nat) : Int)] else nxL x i (m + 1) = nxL x i m) := by
      intro w hw
      rw [nxL_succ, hw]
      cases w <;> simp
    have tt : (true = true) = True := eq_true rfl
    have hother : isEnd 5 = false := by decide
    have hob : isBr 5 = false := by decide
    have hmz : ((m : Int) = 0) = (m = 0) := propext (by omega)
    have hmk : ((m : Int) = (x.k : Int)) = (m = x.k) := propext (by omega)
    by_cases h5 : x.op = 5
    · have hb5 : (x.op == 5) = true := by simp [h5]
      have hbf : isBr x.op = false := by rw [h5]; decide
      have hef : isEnd x.op = false := by rw [h5]; decide
      rw [hbf] at hbr; rw [hef] at he
      have hw : wantB x m = decide (m = x.k) := by simp [wantB, hbf, hef, h5, hother, hob]
      by_cases hk2 : m = x.k
      · have hk3 : ((m : Int) == (x.k : Int)) = true := by simp [hk2]
        have wl := wlast _ (hw.trans (decide_eq_true hk2))
        simp only [if_true] at wl
        have : (nxL x i (m + 1)).length = (nxL x i m).length + 1 := by rw [wl]; simp
        simp (disch := omega) [FL, ltT hl, s1, s2, hcs, hb5, c1, c2, hk3, -Int.natCast_add]
        refine callP_of hbr ?_
        simp (disch := omega) [-Int.natCast_add]
        refine callP_of he ?_
        simp (disch := omega) [leTn, a2, hmlt, keep_cl, trunc, wl, In4.cs, FL, -Int.natCast_add]
      · have hk3 : ((m : Int) == (x.k : Int)) = false := beqF (by omega)
        have wl := wlast _ (hw.trans (decide_eq_false hk2))
        simp only [Bool.false_eq_true, if_false] at wl
        simp (disch := omega) [FL, ltT hl, s1, s2, hcs, hb5, c1, c2, hk3, -Int.natCast_add]
        refine callP_of hbr ?_
        simp (disch := omega) [leTn, a2, hmlt, keep_cl, trunc, wl, In4.cs, FL, -Int.natCast_add]
    · have hb5 : (x.op == 5) = false := beqF h5
      simp (disch := omega) [FL, ltT hl, s1, s2, hcs, hb5, -Int.natCast_add]
      refine callP_of hbr ?_
      cases hbf : isBr x.op
      · have hw : wantB x m = (decide (m = 0) && !isEnd x.op) := by simp [wantB, hbf, h5, Bool.and_comm]
        by_cases hm0 : m = 0
        · have hm1 : ((m : Int) == 0) = true := by simp [hm0]
          simp (disch := omega) [hm1, -Int.natCast_add]
          refine callP_of he ?_
          rw [decide_eq_true hm0, Bool.true_and] at hw
          cases hef : isEnd x.op
          · have wl := wlast _ (hw.trans (by rw [hef]))
            simp only [Bool.not_false, if_true] at wl
            have : (nxL x i (m + 1)).length = (nxL x i m).length + 1 := by rw [wl]; simp
            simp (disch := omega) [leTn, a2, hmlt, keep_cl, trunc, wl, In4.cs, FL, -Int.natCast_add]
          · have wl := wlast _ (hw.trans (by rw [hef]))
            simp only [Bool.not_true, Bool.false_eq_true, if_false] at wl
            simp (disch := omega) [leTn, a2, hmlt, keep_cl, trunc, wl, In4.cs, FL, -Int.natCast_add]
        · have hm1 : ((m : Int) == 0) = false := beqF (by omega)
          rw [decide_eq_false hm0, Bool.false_and] at hw
          have wl := wlast _ hw
          simp only [Bool.false_eq_true, if_false] at wl
          simp (disch := omega) [hm1, leTn, a2, hmlt, keep_cl, trunc, wl, In4.cs, FL, -Int.natCast_add]
      · have hef : isEnd x.op = false := by
          have key : ∀ p ∈ [21, 37, 53, 69, 29, 45, 61, (77 : Int)], isEnd p = false := by decide
          exact key _ (by simpa [isBr] using hbf)
        rw [hef] at he
        have hw : wantB x m = (decide ((m : Int) = x.jt) || decide ((m : Int) = x.jf)) := by simp [wantB, hbf, hef]
        by_cases h1 : (m : Int) = x.jt
        · have h1b : ((m : Int) == x.jt) = true := by simp [h1]
          have wl := wlast _ (hw.trans (by rw [decide_eq_true h1, Bool.true_or]))
          simp only [if_true] at wl
          have : (nxL x i (m + 1)).length = (nxL x i m).length + 1 := by rw [wl]; simp
          simp (disch := omega) [h1b, -Int.natCast_add]
          refine callP_of he ?_
          simp (disch := omega) [leTn, a2, hmlt, keep_cl, trunc, wl, In4.cs, FL, -Int.natCast_add]
        · have h1b : ((m : Int) == x.jt) = false := beqF h1
          by_cases h2 : (m : Int) = x.jf
          · have h2b : ((m : Int) == x.jf) = true := by simp [h2]
            have wl := wlast _ (hw.trans (by rw [decide_eq_true h2, Bool.or_true]))
            simp only [if_true] at wl
            have : (nxL x i (m + 1)).length = (nxL x i m).length + 1 := by rw [wl]; simp
            simp (disch := omega) [h1b, h2b, -Int.natCast_add]
            refine callP_of he ?_
            simp (disch := omega) [leTn, a2, hmlt, keep_cl, trunc, wl, In4.cs, FL, -Int.natCast_add]
          · have h2b : ((m : Int) == x.jf) = false := beqF h2
            have wl := wlast _ (hw.trans (by rw [decide_eq_false h1, decide_eq_false h2, Bool.or_false]))
            simp only [Bool.false_eq_true, if_false] at wl
            simp (disch := omega) [h1b, h2b, leTn, a2, hmlt, keep_cl, trunc, wl, In4.cs, FL, -Int.natCast_add]
  · have hne : m = f.length - 1 - i := by omega
    subst hne
    have hl : ¬ ((i + 1 + (f.length - 1 - i) : Nat) : Int) < (f.length : Int) := by omega
    simp [FL, ltF hl, -Int.natCast_add]
end Go.Ev
