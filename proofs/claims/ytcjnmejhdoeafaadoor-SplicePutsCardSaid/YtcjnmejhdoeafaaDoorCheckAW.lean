/- Which filters are sound: check. -/
import Derived.Test.YtcjnmejhdoeafaaDoorEvXW
import Derived.Test.YtcjnmejhdoeafaaDoorEvInsCW
set_option linter.unusedVariables false
set_option linter.unusedSimpArgs false
namespace Go.Ev
open Go Go.RowKit
variable {G : Tbl}
set_option maxRecDepth 10000
set_option maxHeartbeats 2000000
set_option linter.unusedSimpArgs false
set_option linter.unusedVariables false
def ruleB (x : In4) : Bool :=
  if x.op = 32 then decide (x.k % 4 = 0 ∧ x.k < 64) else if x.op = 52 then decide (x.k ≠ 0) else if x.op = 2 ∨ x.op = 3 ∨ x.op = 96 ∨ x.op = 97 then decide (x.k < 16) else if x.op = 100 ∨ x.op = 116 then decide (x.k < 32) else true
def oneB (x : In4) (left : Nat) : Bool := rightI x && ruleB x && (if x.op = 5 then decide (x.k < left) else true) && (if isBr x.op then decide (x.jt < left ∧ x.jf < left) else true)
def okAll : List In4 → Bool
  | [] => true
  | x :: f => oneB x f.length && okAll f
def endB (f : List In4) : Bool := match f.getLast? with | some x => isEnd x.op | none => false
def soundF (f : List In4) : Bool := decide (f.length ≤ 4096) && okAll f && endB f
def rents : List (V × V) := [(.int .i64 32, .fn 152 [.ptr 0 0]), (.int .i64 52, .fn 153 [.ptr 0 0]), (.int .i64 2, .fn 150 [.ptr 0 0]), (.int .i64 3, .fn 150 [.ptr 0 0]), (.int .i64 96, .fn 150 [.ptr 0 0]), (.int .i64 97, .fn 150 [.ptr 0 0]),
  (.int .i64 100, .fn 151 [.ptr 0 0]), (.int .i64 116, .fn 151 [.ptr 0 0])]
theorem rules_ok [HasCheck G] : Big G (.F 154 [] [] (.mp 1) [some (.cells [.fn 149 []]), some (.map rents)]) := by
  refine F_of HasCheck.h_check_rules (Nat.le_of_ble_eq_true rfl) ?_
  simp [rents]
theorem if1_ok [HasCheck G] (H : Heap) (b : Bool) (n : Int) : Big G (.F 149 [.bool b, .int .i64 n] H (.int .i64 (if b then 0 else n)) H) := by
  refine F_of HasCheck.h_check_rules_1 (Nat.le_of_ble_eq_true rfl) ?_
  cases b <;> simp
def RH (x : In4) : Heap := [some (.cells [.fn 149 []]), some (.map rents), some (.cells x.cs)]
theorem rents_cl (n : Nat) (h : 0 < n) : rents.map (fun p => (p.1.cl n, p.2.cl n)) = rents := by simp [rents, h]
theorem rule_any {f : Nat} [HasCheck G] (x : In4) (e : Int) (h : f = 150 ∧ e = (if decide (x.k < 16) then 0 else 7) ∨ f = 151 ∧ e = (if decide (x.k < 32) then 0 else 1) ∨ f = 152 ∧ e = (if decide (x.k % 4 = 0 ∧ x.k < 64) then 0 else 6) ∨ f = 153 ∧ e = (if decide (x.k ≠ 0) then 0 else 8)) :
    Big G (.F f [IV x, .ptr 0 0] (RH x) (.int .i64 e) (RH x ++ [some (.cells x.cs)])) := by
  have hr : remI (x.k : Int) 4 = ((x.k % 4 : Nat) : Int) := rem64 (b := 4)
  have l16 : ((x.k : Int) < 16) = (x.k < 16) := propext (by omega)
  have l32 : ((x.k : Int) < 32) = (x.k < 32) := propext (by omega)
  have l64 : ((x.k : Int) < 64) = (x.k < 64) := propext (by omega)
  have ne : ((x.k : Int) != 0) = decide (x.k ≠ 0) := by rw [Bool.eq_iff_iff]; simp
  rcases h with ⟨rfl, rfl⟩ | ⟨rfl, rfl⟩ | ⟨rfl, rfl⟩ | ⟨rfl, rfl⟩
  · refine F_of HasCheck.h_check_rules_2 (Nat.le_of_ble_eq_true rfl) ?_
    simp [IV, In4.cs, RH, l16]
    refine callV_of (if1_ok _ _ _) (by simp) ?_
    simp [trunc, rents_cl]
  · refine F_of HasCheck.h_check_rules_3 (Nat.le_of_ble_eq_true rfl) ?_
    simp [IV, In4.cs, RH, l32]
    refine callV_of (if1_ok _ _ _) (by simp) ?_
    simp [trunc, rents_cl]
  · refine F_of HasCheck.h_check_rules_4 (Nat.le_of_ble_eq_true rfl) ?_
    by_cases h4 : x.k % 4 = 0
    · simp [IV, In4.cs, RH, hr, h4, l64]
      refine callV_of (if1_ok _ _ _) (by simp) ?_
      simp [trunc, rents_cl]
    · have : ((x.k % 4 : Nat) : Int) ≠ 0 := by omega
      simp [IV, In4.cs, RH, hr, h4, beqF this, -Int.natCast_emod]
      refine callV_of (if1_ok _ _ _) (by simp) ?_
      simp [trunc, rents_cl]
  · refine F_of HasCheck.h_check_rules_5 (Nat.le_of_ble_eq_true rfl) ?_
    simp [IV, In4.cs, RH, ne]
    refine callV_of (if1_ok _ _ _) (by simp) ?_
    simp [trunc, rents_cl]
def waysL (x : In4) (at' : Nat) : List Int := if isEnd x.op then [] else if x.op = 5 then [((at' + 1 + x.k : Nat) : Int)] else if isBr x.op then [(at' : Int) + 1 + min x.jt x.jf, (at' : Int) + 1 + max x.jt x.jf] else [((at' + 1 : Nat) : Int)]
def In4.brOk (x : In4) : Prop := isBr x.op = true → 0 ≤ x.jt ∧ x.jt ≤ 255 ∧ 0 ≤ x.jf ∧ x.jf ≤ 255
theorem right_br {x : In4} (h : rightI x = true) : x.brOk := by
  intro hb
  unfold rightI at h
  split at h
  · rename_i r hr
    have key : ∀ r ∈ shapeRows, isBr r.1 = r.2.2.2 := by decide
    obtain ⟨h1, h2⟩ := shape_some hr
    have := key r h2
    rw [h1, hb] at this
    simp only [← this, if_true, Bool.and_eq_true, decide_eq_true_eq] at h
    exact h.2
  · cases h
theorem convI64 (n : Nat) (h : n < 4294967296) : convI .i64 (n : Int) = (n : Int) := by unfold convI; exact IntWalk.i64_in _ ⟨by omega, by omega⟩
theorem ways_ok [HasIns G] [HasCheck G] (x : In4) (at' : Nat) (hx : x.k < 4294967296) (hb : x.brOk) (ha : at' ≤ 5000) : FP G 155 [IV x, .int .i64 at'] (.vs (ints .i64 (waysL x at')) .no) := by
  refine FP_of HasCheck.h_check_ways (Nat.le_of_ble_eq_true rfl) ?_
  have he := Ends_ok (G := G) x
  have hbr := Branch_ok (G := G) x
  have a1 : addI .i64 (at' : Int) 1 = ((at' + 1 : Nat) : Int) := add1' (by omega)
  simp [IV, In4.cs, a1, -Int.natCast_add] at he hbr ⊢
  refine callP_of he ?_
  cases h1 : isEnd x.op
  · have n6 : isEnd x.op = false := h1
    simp
    by_cases h5 : x.op = 5
    · have a2 : addI .i64 ((at' + 1 : Nat) : Int) (x.k : Int) = ((at' + 1 + x.k : Nat) : Int) := addN (by omega)
      have a2' : addI .i64 ((at' : Int) + 1) (x.k : Int) = ((at' + 1 + x.k : Nat) : Int) := by rw [← addN (a := at' + 1) (b := x.k) (by omega)]; rfl
      have h15 : isEnd 5 = false := by decide
      simp [h5, h15, convI64 x.k hx, a2, a2', waysL, ints, -Int.natCast_add]
    · simp [h5, beqF]
      refine callP_of hbr ?_
      cases h2 : isBr x.op
      · simp [waysL, h1, h5, h2, ints]
      · obtain ⟨b1, b2, b3, b4⟩ := hb h2
        have mn : (if x.jf < x.jt then x.jf else x.jt) = min x.jt x.jf := by omega
        have mx : (if x.jf > x.jt then x.jf else x.jt) = max x.jt x.jf := by omega
        have a3 : addI .i64 ((at' + 1 : Nat) : Int) (min x.jt x.jf) = (at' : Int) + 1 + min x.jt x.jf := by rw [addI64] <;> omega
        have a4 : addI .i64 ((at' + 1 : Nat) : Int) (max x.jt x.jf) = (at' : Int) + 1 + max x.jt x.jf := by rw [addI64] <;> omega
        have mx' : (if x.jt < x.jf then x.jf else x.jt) = max x.jt x.jf := by omega
        have mn' : (if x.jt > x.jf then x.jf else x.jt) = min x.jt x.jf := by omega
        have mn2 : (if x.jt ≤ x.jf then x.jt else x.jf) = min x.jt x.jf := by omega
        have a5 : addI .i64 ((at' : Int) + 1) (min x.jt x.jf) = (at' : Int) + 1 + min x.jt x.jf := by rw [addI64] <;> omega
        have a6 : addI .i64 ((at' : Int) + 1) (max x.jt x.jf) = (at' : Int) + 1 + max x.jt x.jf := by rw [addI64] <;> omega
        simp [mn, mx, mx', mn', a3, a4, a5, a6, waysL, h1, h5, h2, ints, -Int.natCast_add]
  · simp [waysL, h1]
def rpos (op : Int) : Option (Nat × Nat) :=
  if op = 32 then some (0, 152) else if op = 52 then some (1, 153) else if op = 2 then some (2, 150) else if op = 3 then some (3, 150) else if op = 96 then some (4, 150) else if op = 97 then some (5, 150) else
  if op = 100 then some (6, 151) else if op = 116 then some (7, 151) else none
theorem rents_find (op : Int) : mfind (.sc .int) (.int .i64 op) rents 0 = some ((rpos op).map fun p => (p.1, .fn p.2 [.ptr 0 0])) := by
  unfold rpos rents
  by_cases h1 : op = 32; · subst h1; rfl
  by_cases h2 : op = 52; · subst h2; rfl
  by_cases h3 : op = 2; · subst h3; rfl
  by_cases h4 : op = 3; · subst h4; rfl
  by_cases h5 : op = 96; · subst h5; rfl
  by_cases h6 : op = 97; · subst h6; rfl
  by_cases h7 : op = 100; · subst h7; rfl
  by_cases h8 : op = 116; · subst h8; rfl
  simp [mfind, keyEq, eqk, h1, h2, h3, h4, h5, h6, h7, h8, beqF]
theorem rule_ok [HasCheck G] (x : In4) {i f : Nat} (h : rpos x.op = some (i, f)) : ∃ e : Int, Big G (.F f [IV x, .ptr 0 0] (RH x) (.int .i64 e) (RH x ++ [some (.cells x.cs)])) ∧ (e = 0 ↔ ruleB x = true) := by
  unfold rpos at h
  have r4 (a : Bool) (n : Int) (hn : n ≠ 0) : ((if a = true then 0 else n) = 0 ↔ a = true) := by cases a <;> simp [hn]
  unfold ruleB
  split at h
  · rename_i h1; cases h; exact ⟨_, rule_any x _ (.inr (.inr (.inl ⟨rfl, rfl⟩))), by rw [r4 _ _ (by decide), if_pos h1]⟩
  split at h
  · rename_i h0 h1; cases h; exact ⟨_, rule_any x _ (.inr (.inr (.inr ⟨rfl, rfl⟩))), by rw [r4 _ _ (by decide), if_neg h0, if_pos h1]⟩
  have two : ¬ x.op = 32 → ¬ x.op = 52 → x.op = 2 ∨ x.op = 3 ∨ x.op = 96 ∨ x.op = 97 → some (i, f) = some (i, 150) → ∃ e : Int, Big G (.F f [IV x, .ptr 0 0] (RH x) (.int .i64 e) (RH x ++ [some (.cells x.cs)])) ∧
      (e = 0 ↔ (if x.op = 32 then decide (x.k % 4 = 0 ∧ x.k < 64) else if x.op = 52 then decide (x.k ≠ 0) else if x.op = 2 ∨ x.op = 3 ∨ x.op = 96 ∨ x.op = 97 then decide (x.k < 16) else if x.op = 100 ∨ x.op = 116 then decide (x.k < 32) else true) = true) := by
    intro h0 h1 h2 h3; cases h3
    exact ⟨_, rule_any x _ (.inl ⟨rfl, rfl⟩), by rw [r4 _ _ (by decide), if_neg h0, if_neg h1, if_pos h2]⟩
  rename_i n1 n2
  split at h
  · rename_i h1; cases h; exact two n1 n2 (.inl h1) rfl
  split at h
  · rename_i h1; cases h; exact two n1 n2 (.inr (.inl h1)) rfl
  split at h
  · rename_i h1; cases h; exact two n1 n2 (.inr (.inr (.inl h1))) rfl
  split at h
  · rename_i h1; cases h; exact two n1 n2 (.inr (.inr (.inr h1))) rfl
  rename_i n3 n4 n5 n6
  have n7 : ¬ (x.op = 2 ∨ x.op = 3 ∨ x.op = 96 ∨ x.op = 97) := by omega
  split at h
  · rename_i h1; cases h; exact ⟨_, rule_any x _ (.inr (.inl ⟨rfl, rfl⟩)), by rw [r4 _ _ (by decide), if_neg n1, if_neg n2, if_neg n7, if_pos (.inl h1)]⟩
  split at h
  · rename_i h1; cases h; exact ⟨_, rule_any x _ (.inr (.inl ⟨rfl, rfl⟩)), by rw [r4 _ _ (by decide), if_neg n1, if_neg n2, if_neg n7, if_pos (.inr h1)]⟩
  cases h
theorem rule_none {x : In4} (h : rpos x.op = none) : ruleB x = true := by
  unfold rpos at h
  unfold ruleB
  repeat' split at h
  all_goals first | (cases h; done) | skip
  rw [if_neg (by omega), if_neg (by omega), if_neg (by omega), if_neg (by omega)]
end Go.Ev
/- Which filters are sound: check.Check. -/
namespace Go.Ev
open Go Go.RowKit
variable {G : Tbl}
set_option maxRecDepth 10000
set_option maxHeartbeats 2000000
set_option linter.unusedSimpArgs false
set_option linter.unusedVariables false
theorem okAll_drop {f : List In4} {i : Nat} (h : i < f.length) : okAll (f.drop i) = (oneB f[i] (f.length - 1 - i) && okAll (f.drop (i + 1))) := by
  rw [List.drop_eq_getElem_cons h]
  simp only [okAll, List.length_drop]
  congr 2; omega
theorem FL_get {f : List In4} {i : Nat} (h : i < f.length) : (IL f)[i]? = some f[i].cs := by simp [List.getElem?_eq_getElem h]
def Rch (f : List In4) (v : V) : Prop := ∃ i e : Int, v = .tup [.int .i64 i, .int .i64 e] ∧ (e = 0 ↔ soundF f = true)
theorem sound_of {f : List In4} (h0 : f ≠ []) (h1 : f.length ≤ 4096) (h2 : okAll f = true) (h3 : isEnd (f[f.length - 1]'(by have := List.length_pos_iff.2 h0; omega)).op = true) : soundF f = true := by
  have : f.getLast? = some (f[f.length - 1]'(by have := List.length_pos_iff.2 h0; omega)) := by rw [List.getLast?_eq_getElem?]; exact List.getElem?_eq_getElem _
  simp [soundF, endB, h1, h2, this, h3]
theorem unsound_end {f : List In4} (h0 : f ≠ []) (h3 : isEnd (f[f.length - 1]'(by have := List.length_pos_iff.2 h0; omega)).op = false) : soundF f = false := by
  have : f.getLast? = some (f[f.length - 1]'(by have := List.length_pos_iff.2 h0; omega)) := by rw [List.getLast?_eq_getElem?]; exact List.getElem?_eq_getElem _
  simp [soundF, endB, this, h3]
theorem unsound_ok {f : List In4} (h : okAll f = false) : soundF f = false := by simp [soundF, h]
def H2 : Heap := [some (.cells [.fn 149 []]), some (.map rents)]
theorem ways_iff {x : In4} {i n : Nat} (h : i < n) (ht : (x.op == 5 || isBr x.op) = true) :
    (∀ w ∈ waysL x i, w < (n : Int)) ↔ ((if x.op = 5 then decide (x.k < n - 1 - i) else true) && (if isBr x.op then decide (x.jt < (n - 1 - i : Nat) ∧ x.jf < (n - 1 - i : Nat)) else true)) = true := by
  by_cases h5 : x.op = 5
  · have e5 : isEnd x.op = false := by rw [h5]; decide
    have b5 : isBr x.op = false := by rw [h5]; decide
    rw [if_pos h5, b5]
    rw [h5] at e5
    simp only [waysL, e5, h5, Bool.false_eq_true, if_false, if_true, List.mem_singleton, forall_eq, Bool.and_true, decide_eq_true_eq]
    omega
  · have hb : isBr x.op = true := by simpa [h5, beqF] using ht
    have he : isEnd x.op = false := by
      have key : ∀ p ∈ [21, 37, 53, 69, 29, 45, 61, (77 : Int)], isEnd p = false := by decide
      exact key _ (by simpa [isBr] using hb)
    rw [if_neg h5, if_pos hb]
    simp only [waysL, he, h5, hb, Bool.false_eq_true, if_false, if_true, List.mem_cons, List.not_mem_nil, or_false, forall_eq_or_imp, forall_eq, Bool.true_and, decide_eq_true_eq]
    omega
theorem ways_none {x : In4} (ht : (x.op == 5 || isBr x.op) = false) (left : Nat) : ((if x.op = 5 then decide (x.k < left) else true) && (if isBr x.op then decide (x.jt < left ∧ x.jf < left) else true)) = true := by
  simp only [Bool.or_eq_false_iff, beq_eq_false_iff_ne] at ht
  simp [ht.1, ht.2]
theorem one_of {x : In4} {left : Nat} (h1 : rightI x = true) (h2 : ruleB x = true) : oneB x left = ((if x.op = 5 then decide (x.k < left) else true) && (if isBr x.op then decide (x.jt < left ∧ x.jf < left) else true)) := by
  simp [oneB, h1, h2]
theorem ways_len (x : In4) (i : Nat) : (waysL x i).length ≤ 2 := by unfold waysL; split; simp; split; simp; split <;> simp
theorem Check_ok [HasIns G] [HasCheck G] (f : List In4) (hf : f.length ≤ maxLen) (hk : ∀ x ∈ f, x.k < 4294967296) : ∃ v, FP G 156 [FL f] v ∧ Rch f v := by
  refine FPx_of HasCheck.h_check_Check (Nat.le_of_ble_eq_true rfl) ?_
  by_cases h0 : f = []
  · subst h0
    simp [FL]
    exact ⟨0, 5, rfl, by decide⟩
  have hne : 0 < f.length := List.length_pos_iff.2 h0
  have hz : ((f.length : Int) = 0) = False := eq_false (by omega)
  by_cases hbig : f.length > 4096
  · have hb : ((4096 : Int) < (f.length : Int)) = True := eq_true (by omega)
    have : soundF f = false := by simp [soundF, show ¬ f.length ≤ 4096 by omega]
    simp [FL, h0, hb, beqI]
    exact ⟨0, 3, rfl, by simp [this]⟩
  have hb : ((4096 : Int) < (f.length : Int)) = False := eq_false (by omega)
  simp [FL, h0, hb, beqI]
  refine callK_of rules_ok (by simp) ?_
  simp
  refine W_up f.length (fun i => [(0, FL f), (4, .mp 1), (22, FL f), (23, .int .i64 f.length), (24, .int .i64 i)]) (fun _ => H2) (fun i => okAll (f.take 0) = true ∧ okAll f = okAll (f.drop i)) ?_ ?_
  · simp [keep_cl, trunc, H2, rents_cl, FL, okAll]
  intro i hi hn
  by_cases hlt : i < f.length
  · have hx := FL_get hlt
    have hg : f[i] ∈ f := List.getElem_mem hlt
    have hkk := hk _ hg
    have hdr := okAll_drop hlt
    have bad : oneB f[i] (f.length - 1 - i) = false → ∀ j e : Int, e ≠ 0 → Rch f (.tup [.int .i64 j, .int .i64 e]) := by
      intro h j e he
      rw [h] at hdr
      exact ⟨j, e, rfl, by simp [he, unsound_ok (hn.2.trans hdr)]⟩
    generalize f[i] = x at hx hkk hdr hg bad
    have hr := RightI_ok (G := G) x
    have hbr := Branch_ok (G := G) x
    simp [IV, In4.cs] at hr hbr
    simp (disch := omega) [H2, ltT, FL, hx, In4.cs, beqI, -Int.natCast_add]
    refine callP_of hr ?_
    cases h1 : rightI x
    · simp
      exact bad (by simp [oneB, h1]) _ _ (by decide)
    simp [rents_find]
    cases h2 : rpos x.op with
    | none =>
      have hrule := rule_none h2
      by_cases h5 : x.op = 5
      · have htg5 : (x.op == 5 || isBr x.op) = true := by simp [h5]
        have hb5 : (x.op == 5) = true := by simp [h5]
        simp [hb5, trunc, rents_cl, keep_cl]
        have hw := ways_ok (G := G) x i hkk (right_br h1) (by omega)
        simp [IV, In4.cs] at hw
        have htg : ∃ tg, tg = (x.op == 5 || isBr x.op) := ⟨_, rfl⟩
        obtain ⟨tg, htg⟩ := htg
        have hwl := ways_len x i
        have fin : (tg = true → ∀ w ∈ waysL x i, w < (f.length : Int)) → okAll f = okAll (f.drop (i + 1)) := by
          intro hall
          rw [hn.2, hdr, one_of h1 hrule]
          cases tg with
          | false => rw [ways_none htg.symm]; simp
          | true => rw [(ways_iff hlt htg.symm).1 (hall rfl)]; simp
        have bad' : tg = true → ∀ w ∈ waysL x i, ¬ w < (f.length : Int) → oneB x (f.length - 1 - i) = false := by
          intro ht w hm hw'
          rw [one_of h1 hrule]
          rw [ht] at htg
          rw [← Bool.not_eq_true]
          intro h; exact hw' ((ways_iff hlt htg.symm).2 h w hm)
        have loop : ∀ (w : List Int), w.length ≤ 2 → (∀ v ∈ w, v ∈ waysL x i) → True := fun _ _ _ => trivial
        generalize waysL x i = w at hw hwl fin bad' loop
        refine callP_of hw ?_
        simp
        refine W_up w.length (fun j => [(0, FL f), (4, .mp 1), (5, .int .i64 i), (9, .bool tg), (22, FL f), (23, .int .i64 f.length), (24, .int .i64 i), (55, .vs (ints .i64 w) .no), (56, .int .i64 w.length), (57, .int .i64 j)])
          (fun _ => [some (.cells [.fn 149 []]), some (.map rents), some (.cells [.int .i64 x.op, .int .i64 x.jt, .int .i64 x.jf, .int .u32 (x.k : Int)])]) (fun j => tg = true → ∀ v ∈ w.take j, v < (f.length : Int)) ?_ ?_
        · simp [keep_cl, trunc, FL, rents_cl, htg.trans htg5]
        intro j hj hp
        by_cases hjl : j < w.length
        · by_cases hv : tg = true ∧ ¬ w[j] < (f.length : Int)
          · have hb := bad' hv.1 _ (List.getElem_mem hjl) hv.2
            have hv2 : ((f.length : Int) ≤ w[j]) = True := eq_true (by omega)
            simp (disch := omega) [ltT, hjl, hv.1, hv2, FL, get_in, -Int.natCast_add]
            exact bad hb i 4 (by decide)
          · have hp' : tg = true → ∀ v ∈ w.take (j + 1), v < (f.length : Int) := by
              intro ht v hm
              rw [List.take_add_one, List.getElem?_eq_getElem hjl] at hm
              simp only [Option.toList, List.mem_append, List.mem_singleton] at hm
              rcases hm with hm | rfl
              · exact hp ht v hm
              · exact Int.not_le.1 fun h => hv ⟨ht, by omega⟩
            cases htt : tg with
            | false =>
              simp (disch := omega) [ltT, hjl, FL, get_in, keep_cl, trunc, rents_cl, add1', -Int.natCast_add]
            | true =>
              have hv2 : ((f.length : Int) ≤ w[j]) = False := eq_false fun h => hv ⟨htt, by omega⟩
              simp (disch := omega) [ltT, hjl, FL, get_in, hv2, keep_cl, trunc, rents_cl, add1', -Int.natCast_add]
              rw [htt] at hp'
              exact hp' rfl
        · have hjn : j = w.length := by omega
          subst hjn
          rw [List.take_length] at hp
          have hfin := fin hp
          simp (disch := omega) [hlt, keep_cl, trunc, rents_cl, H2, FL, add1', hfin, okAll, -Int.natCast_add]
      · have htg5 : (x.op == 5 || isBr x.op) = isBr x.op := by simp [h5]
        simp [beqF, h5, trunc, rents_cl, keep_cl]
        refine callP_of hbr ?_
        simp
        have hw := ways_ok (G := G) x i hkk (right_br h1) (by omega)
        simp [IV, In4.cs] at hw
        have htg : ∃ tg, tg = (x.op == 5 || isBr x.op) := ⟨_, rfl⟩
        obtain ⟨tg, htg⟩ := htg
        have hwl := ways_len x i
        have fin : (tg = true → ∀ w ∈ waysL x i, w < (f.length : Int)) → okAll f = okAll (f.drop (i + 1)) := by
          intro hall
          rw [hn.2, hdr, one_of h1 hrule]
          cases tg with
          | false => rw [ways_none htg.symm]; simp
          | true => rw [(ways_iff hlt htg.symm).1 (hall rfl)]; simp
        have bad' : tg = true → ∀ w ∈ waysL x i, ¬ w < (f.length : Int) → oneB x (f.length - 1 - i) = false := by
          intro ht w hm hw'
          rw [one_of h1 hrule]
          rw [ht] at htg
          rw [← Bool.not_eq_true]
          intro h; exact hw' ((ways_iff hlt htg.symm).2 h w hm)
        have loop : ∀ (w : List Int), w.length ≤ 2 → (∀ v ∈ w, v ∈ waysL x i) → True := fun _ _ _ => trivial
        generalize waysL x i = w at hw hwl fin bad' loop
        refine callP_of hw ?_
        simp
        refine W_up w.length (fun j => [(0, FL f), (4, .mp 1), (5, .int .i64 i), (9, .bool tg), (22, FL f), (23, .int .i64 f.length), (24, .int .i64 i), (55, .vs (ints .i64 w) .no), (56, .int .i64 w.length), (57, .int .i64 j)])
          (fun _ => [some (.cells [.fn 149 []]), some (.map rents), some (.cells [.int .i64 x.op, .int .i64 x.jt, .int .i64 x.jf, .int .u32 (x.k : Int)])]) (fun j => tg = true → ∀ v ∈ w.take j, v < (f.length : Int)) ?_ ?_
        · simp [keep_cl, trunc, FL, rents_cl, htg.trans htg5]
        intro j hj hp
        by_cases hjl : j < w.length
        · by_cases hv : tg = true ∧ ¬ w[j] < (f.length : Int)
          · have hb := bad' hv.1 _ (List.getElem_mem hjl) hv.2
            have hv2 : ((f.length : Int) ≤ w[j]) = True := eq_true (by omega)
            simp (disch := omega) [ltT, hjl, hv.1, hv2, FL, get_in, -Int.natCast_add]
            exact bad hb i 4 (by decide)
          · have hp' : tg = true → ∀ v ∈ w.take (j + 1), v < (f.length : Int) := by
              intro ht v hm
              rw [List.take_add_one, List.getElem?_eq_getElem hjl] at hm
              simp only [Option.toList, List.mem_append, List.mem_singleton] at hm
              rcases hm with hm | rfl
              · exact hp ht v hm
              · exact Int.not_le.1 fun h => hv ⟨ht, by omega⟩
            cases htt : tg with
            | false =>
              simp (disch := omega) [ltT, hjl, FL, get_in, keep_cl, trunc, rents_cl, add1', -Int.natCast_add]
            | true =>
              have hv2 : ((f.length : Int) ≤ w[j]) = False := eq_false fun h => hv ⟨htt, by omega⟩
              simp (disch := omega) [ltT, hjl, FL, get_in, hv2, keep_cl, trunc, rents_cl, add1', -Int.natCast_add]
              rw [htt] at hp'
              exact hp' rfl
        · have hjn : j = w.length := by omega
          subst hjn
          rw [List.take_length] at hp
          have hfin := fin hp
          simp (disch := omega) [hlt, keep_cl, trunc, rents_cl, H2, FL, add1', hfin, okAll, -Int.natCast_add]
    | some p =>
      obtain ⟨n, fn⟩ := p
      obtain ⟨e, he, hee⟩ := rule_ok (G := G) x h2
      simp
      simp [RH, In4.cs, IV] at he
      refine callV_of he (by simp) ?_
      by_cases h0e : e = 0
      · have hrule := hee.1 h0e
        subst h0e
        by_cases h5 : x.op = 5
        · have htg5 : (x.op == 5 || isBr x.op) = true := by simp [h5]
          have hb5 : (x.op == 5) = true := by simp [h5]
          simp [hb5, trunc, rents_cl, keep_cl]
          have hw := ways_ok (G := G) x i hkk (right_br h1) (by omega)
          simp [IV, In4.cs] at hw
          have htg : ∃ tg, tg = (x.op == 5 || isBr x.op) := ⟨_, rfl⟩
          obtain ⟨tg, htg⟩ := htg
          have hwl := ways_len x i
          have fin : (tg = true → ∀ w ∈ waysL x i, w < (f.length : Int)) → okAll f = okAll (f.drop (i + 1)) := by
            intro hall
            rw [hn.2, hdr, one_of h1 hrule]
            cases tg with
            | false => rw [ways_none htg.symm]; simp
            | true => rw [(ways_iff hlt htg.symm).1 (hall rfl)]; simp
          have bad' : tg = true → ∀ w ∈ waysL x i, ¬ w < (f.length : Int) → oneB x (f.length - 1 - i) = false := by
            intro ht w hm hw'
            rw [one_of h1 hrule]
            rw [ht] at htg
            rw [← Bool.not_eq_true]
            intro h; exact hw' ((ways_iff hlt htg.symm).2 h w hm)
          have loop : ∀ (w : List Int), w.length ≤ 2 → (∀ v ∈ w, v ∈ waysL x i) → True := fun _ _ _ => trivial
          generalize waysL x i = w at hw hwl fin bad' loop
          refine callP_of hw ?_
          simp
          refine W_up w.length (fun j => [(0, FL f), (4, .mp 1), (5, .int .i64 i), (9, .bool tg), (22, FL f), (23, .int .i64 f.length), (24, .int .i64 i), (55, .vs (ints .i64 w) .no), (56, .int .i64 w.length), (57, .int .i64 j)])
            (fun _ => [some (.cells [.fn 149 []]), some (.map rents), some (.cells [.int .i64 x.op, .int .i64 x.jt, .int .i64 x.jf, .int .u32 (x.k : Int)])]) (fun j => tg = true → ∀ v ∈ w.take j, v < (f.length : Int)) ?_ ?_
          · simp [keep_cl, trunc, FL, rents_cl, htg.trans htg5]
          intro j hj hp
          by_cases hjl : j < w.length
          · by_cases hv : tg = true ∧ ¬ w[j] < (f.length : Int)
            · have hb := bad' hv.1 _ (List.getElem_mem hjl) hv.2
              have hv2 : ((f.length : Int) ≤ w[j]) = True := eq_true (by omega)
              simp (disch := omega) [ltT, hjl, hv.1, hv2, FL, get_in, -Int.natCast_add]
              exact bad hb i 4 (by decide)
            · have hp' : tg = true → ∀ v ∈ w.take (j + 1), v < (f.length : Int) := by
                intro ht v hm
                rw [List.take_add_one, List.getElem?_eq_getElem hjl] at hm
                simp only [Option.toList, List.mem_append, List.mem_singleton] at hm
                rcases hm with hm | rfl
                · exact hp ht v hm
                · exact Int.not_le.1 fun h => hv ⟨ht, by omega⟩
              cases htt : tg with
              | false =>
                simp (disch := omega) [ltT, hjl, FL, get_in, keep_cl, trunc, rents_cl, add1', -Int.natCast_add]
              | true =>
                have hv2 : ((f.length : Int) ≤ w[j]) = False := eq_false fun h => hv ⟨htt, by omega⟩
                simp (disch := omega) [ltT, hjl, FL, get_in, hv2, keep_cl, trunc, rents_cl, add1', -Int.natCast_add]
                rw [htt] at hp'
                exact hp' rfl
          · have hjn : j = w.length := by omega
            subst hjn
            rw [List.take_length] at hp
            have hfin := fin hp
            simp (disch := omega) [hlt, keep_cl, trunc, rents_cl, H2, FL, add1', hfin, okAll, -Int.natCast_add]
        · have htg5 : (x.op == 5 || isBr x.op) = isBr x.op := by simp [h5]
          simp [beqF, h5, trunc, rents_cl, keep_cl]
          refine callP_of hbr ?_
          simp
          have hw := ways_ok (G := G) x i hkk (right_br h1) (by omega)
          simp [IV, In4.cs] at hw
          have htg : ∃ tg, tg = (x.op == 5 || isBr x.op) := ⟨_, rfl⟩
          obtain ⟨tg, htg⟩ := htg
          have hwl := ways_len x i
          have fin : (tg = true → ∀ w ∈ waysL x i, w < (f.length : Int)) → okAll f = okAll (f.drop (i + 1)) := by
            intro hall
            rw [hn.2, hdr, one_of h1 hrule]
            cases tg with
            | false => rw [ways_none htg.symm]; simp
            | true => rw [(ways_iff hlt htg.symm).1 (hall rfl)]; simp
          have bad' : tg = true → ∀ w ∈ waysL x i, ¬ w < (f.length : Int) → oneB x (f.length - 1 - i) = false := by
            intro ht w hm hw'
            rw [one_of h1 hrule]
            rw [ht] at htg
            rw [← Bool.not_eq_true]
            intro h; exact hw' ((ways_iff hlt htg.symm).2 h w hm)
          have loop : ∀ (w : List Int), w.length ≤ 2 → (∀ v ∈ w, v ∈ waysL x i) → True := fun _ _ _ => trivial
          generalize waysL x i = w at hw hwl fin bad' loop
          refine callP_of hw ?_
          simp
          refine W_up w.length (fun j => [(0, FL f), (4, .mp 1), (5, .int .i64 i), (9, .bool tg), (22, FL f), (23, .int .i64 f.length), (24, .int .i64 i), (55, .vs (ints .i64 w) .no), (56, .int .i64 w.length), (57, .int .i64 j)])
            (fun _ => [some (.cells [.fn 149 []]), some (.map rents), some (.cells [.int .i64 x.op, .int .i64 x.jt, .int .i64 x.jf, .int .u32 (x.k : Int)])]) (fun j => tg = true → ∀ v ∈ w.take j, v < (f.length : Int)) ?_ ?_
          · simp [keep_cl, trunc, FL, rents_cl, htg.trans htg5]
          intro j hj hp
          by_cases hjl : j < w.length
          · by_cases hv : tg = true ∧ ¬ w[j] < (f.length : Int)
            · have hb := bad' hv.1 _ (List.getElem_mem hjl) hv.2
              have hv2 : ((f.length : Int) ≤ w[j]) = True := eq_true (by omega)
              simp (disch := omega) [ltT, hjl, hv.1, hv2, FL, get_in, -Int.natCast_add]
              exact bad hb i 4 (by decide)
            · have hp' : tg = true → ∀ v ∈ w.take (j + 1), v < (f.length : Int) := by
                intro ht v hm
                rw [List.take_add_one, List.getElem?_eq_getElem hjl] at hm
                simp only [Option.toList, List.mem_append, List.mem_singleton] at hm
                rcases hm with hm | rfl
                · exact hp ht v hm
                · exact Int.not_le.1 fun h => hv ⟨ht, by omega⟩
              cases htt : tg with
              | false =>
                simp (disch := omega) [ltT, hjl, FL, get_in, keep_cl, trunc, rents_cl, add1', -Int.natCast_add]
              | true =>
                have hv2 : ((f.length : Int) ≤ w[j]) = False := eq_false fun h => hv ⟨htt, by omega⟩
                simp (disch := omega) [ltT, hjl, FL, get_in, hv2, keep_cl, trunc, rents_cl, add1', -Int.natCast_add]
                rw [htt] at hp'
                exact hp' rfl
          · have hjn : j = w.length := by omega
            subst hjn
            rw [List.take_length] at hp
            have hfin := fin hp
            simp (disch := omega) [hlt, keep_cl, trunc, rents_cl, H2, FL, add1', hfin, okAll, -Int.natCast_add]
      · have hrb : ruleB x = false := by rw [← Bool.not_eq_true]; exact fun h => h0e (hee.2 h)
        simp [bneT, h0e, trunc, rents_cl]
        exact bad (by simp [oneB, hrb]) _ _ h0e
  · have hin : i = f.length := by omega
    subst hin
    have hlt : f.length - 1 < f.length := by omega
    have hx := FL_get hlt
    have h2 := hn.2
    rw [List.drop_length] at h2
    have hs1 := sound_of h0 (by omega) h2
    have hs2 := unsound_end h0
    generalize f[f.length - 1] = x at hx hs1 hs2
    have he := Ends_ok (G := G) x
    simp [IV, In4.cs] at he
    have hsub : subI .i64 (f.length : Int) 1 = ((f.length - 1 : Nat) : Int) := sub1' (by have : maxLen ≤ 9223372036854775807 := by decide
                                                                                         omega)
    simp [FL, hsub, hx, In4.cs]
    refine callP_of he ?_
    cases hen : isEnd x.op
    · simp
      exact ⟨_, 5, rfl, by simp [hs2 hen]⟩
    · simp
      exact ⟨_, 0, rfl, by simp [hs1 hen]⟩
theorem Sound_ok [HasIns G] [HasCheck G] (f : List In4) (hf : f.length ≤ maxLen) (hk : ∀ x ∈ f, x.k < 4294967296) : FP G 157 [FL f] (.bool (soundF f)) := by
  refine FP_of HasCheck.h_check_Sound (Nat.le_of_ble_eq_true rfl) ?_
  obtain ⟨v, hv, i, e, rfl, he⟩ := Check_ok (G := G) f hf hk
  simp
  refine callP_of hv ?_
  have : (e == 0) = soundF f := by rw [Bool.eq_iff_iff, beq_iff_eq]; exact he
  simp [this]
end Go.Ev
/- Which filters are sound, by hurdleref05. -/
namespace Go.Ev
open Go Go.RowKit
variable {G : Tbl}
set_option maxRecDepth 10000
set_option maxHeartbeats 2000000
set_option linter.unusedSimpArgs false
set_option linter.unusedVariables false
theorem convU64 (n : Nat) (h : n < 18446744073709551616) : convI .u64 (n : Int) = (n : Int) := by unfold convI; exact IntWalk.u64_in _ ⟨by omega, by omega⟩
theorem One_ok [HasR2 G] [HasR5o G] (x : In4) (at' n : Nat) (hx : x.k < 4294967296) (ha : at' < n) (hn : n ≤ maxLen) : ∃ v, FP G 186 [IV x, .int .i64 at', .int .i64 n] v ∧ ∃ e : Int, v = .int .i64 e ∧ (e = 0 ↔ oneB x (n - 1 - at') = true) := by
  refine FPx_of HasR5o.h_hurdleref05_One (Nat.le_of_ble_eq_true rfl) ?_
  have hr := RightR2_ok (G := G) x
  have hbr := BranchR_ok (G := G) x
  have hm : maxLen ≤ 9223372036854775807 := by decide
  have s1 : subI .i64 (n : Int) 1 = ((n - 1 : Nat) : Int) := sub1' (by omega)
  have s2 : subI .i64 ((n - 1 : Nat) : Int) (at' : Int) = ((n - 1 - at' : Nat) : Int) := by rw [subI64] <;> omega
  have hl : n - 1 - at' < 9223372036854775808 := by omega
  generalize n - 1 - at' = left at s2 hl
  obtain ⟨op, jt, jf, k⟩ := x
  have hx : k < 4294967296 := hx
  have r4 : remI (k : Int) 4 = ((k % 4 : Nat) : Int) := rem64 (b := 4)
  have h4 : (((k % 4 : Nat) : Int) = 0) = (k % 4 = 0) := propext (by omega)
  have h60 : (60 < (k : Int)) = (60 < k) := propext (by omega)
  have h15 : (15 < (k : Int)) = (15 < k) := propext (by omega)
  have h31 : (31 < (k : Int)) = (31 < k) := propext (by omega)
  have c1 : convI .u64 (k : Int) = (k : Int) := convU64 k (by omega)
  have c2 : convI .u64 (left : Int) = (left : Int) := convU64 left (by omega)
  have hle : ((left : Int) ≤ (k : Int)) = (left ≤ k) := propext (by omega)
  simp [IV, In4.cs] at hr hbr ⊢
  refine callP_of hr ?_
  cases h1 : rightI ⟨op, jt, jf, k⟩
  · simp [oneB, h1]
  clear hr
  simp
  by_cases o32 : op = 32
  · subst o32
    have e1 : isBr 32 = false := by decide
    rw [e1] at hbr
    by_cases hk4 : k % 4 = 0
    · by_cases hk : 60 < k
      · simp [r4, h4, hk4, h60, hk, beqI, -Int.natCast_emod, oneB, ruleB]
        intro _ h; omega
      · have : k < 64 := by omega
        simp [r4, h4, hk4, h60, hk, beqI, s1, s2, -Int.natCast_emod]
        refine callP_of hbr ?_
        simp [oneB, ruleB, h1, hk4, this, e1]
    · have h40 : (((k % 4 : Nat) : Int) != 0) = true := by simp [-Int.natCast_emod, h4, hk4]
      simp [r4, h40, hk4, h60, beqI, -Int.natCast_emod, oneB, ruleB]
  by_cases o52 : op = 52
  · subst o52
    have e1 : isBr 52 = false := by decide
    rw [e1] at hbr
    by_cases hk4 : k = 0
    · simp [hk4, beqI, oneB, ruleB]
    · have : ((k : Int) = 0) = False := eq_false (by omega)
      simp [this, hk4, beqI, s1, s2]
      refine callP_of hbr ?_
      simp [oneB, ruleB, h1, hk4, e1]
  by_cases oa : op = 2 ∨ op = 3 ∨ op = 96 ∨ op = 97
  · have e1 : isBr op = false := by rcases oa with rfl | rfl | rfl | rfl <;> decide
    have hru : ruleB ⟨op, jt, jf, k⟩ = decide (k < 16) := by rcases oa with rfl | rfl | rfl | rfl <;> rfl
    have n5 : ¬ op = 5 := by omega
    rw [e1] at hbr
    by_cases hk : 15 < k
    · have : oneB ⟨op, jt, jf, k⟩ left = false := by simp [oneB, hru]; intro _ h; omega
      rcases oa with rfl | rfl | rfl | rfl <;> simp [h15, hk, beqI, this]
    · have : oneB ⟨op, jt, jf, k⟩ left = true := by simp [oneB, hru, h1, e1, n5]; omega
      rcases oa with rfl | rfl | rfl | rfl <;> simp [h15, hk, beqI, s1, s2] <;> refine callP_of hbr ?_ <;> simp [this]
  by_cases ob : op = 100 ∨ op = 116
  · have e1 : isBr op = false := by rcases ob with rfl | rfl <;> decide
    have hru : ruleB ⟨op, jt, jf, k⟩ = decide (k < 32) := by rcases ob with rfl | rfl <;> rfl
    have n5 : ¬ op = 5 := by omega
    rw [e1] at hbr
    by_cases hk : 31 < k
    · have : oneB ⟨op, jt, jf, k⟩ left = false := by simp [oneB, hru]; intro _ h; omega
      rcases ob with rfl | rfl <;> simp [h31, hk, beqI, this]
    · have : oneB ⟨op, jt, jf, k⟩ left = true := by simp [oneB, hru, h1, e1, n5]; omega
      rcases ob with rfl | rfl <;> simp [h31, hk, beqI, s1, s2] <;> refine callP_of hbr ?_ <;> simp [this]
  have hru : ruleB ⟨op, jt, jf, k⟩ = true := by simp [ruleB, o32, o52, oa, ob]
  by_cases o5 : op = 5
  · subst o5
    have e1 : isBr 5 = false := by decide
    rw [e1] at hbr
    by_cases hk : left ≤ k
    · have : oneB ⟨5, jt, jf, k⟩ left = false := by simp [oneB, hru]; intro _ h; omega
      simp [s1, s2, c1, c2, hle, hk, this]
    · have : oneB ⟨5, jt, jf, k⟩ left = true := by simp [oneB, hru, h1, e1]; omega
      simp [s1, s2, c1, c2, hle, hk]
      refine callP_of hbr ?_
      simp [this]
  have ne : ∀ o : Int, op ≠ o → (op == o) = false := fun o h => beqF h
  have n2 := ne 2 (by omega)
  have n3 := ne 3 (by omega)
  have n96 := ne 96 (by omega)
  have n97 := ne 97 (by omega)
  have n100 := ne 100 (by omega)
  have n116 := ne 116 (by omega)
  simp [ne 32 o32, ne 52 o52, ne 5 o5, n2, n3, n96, n97, n100, n116, s1, s2]
  refine callP_of hbr ?_
  cases hb : isBr op
  · simp [oneB, h1, hru, hb, o5]
  · simp
    by_cases ht : (left : Int) ≤ jt
    · have : oneB ⟨op, jt, jf, k⟩ left = false := by simp [oneB, hb]; intros; omega
      simp [ht, this]
    · by_cases hf : (left : Int) ≤ jf
      · have : oneB ⟨op, jt, jf, k⟩ left = false := by simp [oneB, hb]; intros; omega
        simp [ht, hf, this]
      · have : oneB ⟨op, jt, jf, k⟩ left = true := by simp [oneB, hb, h1, hru, o5]; omega
        simp [ht, hf, this]
theorem CheckR_ok [HasR2 G] [HasR5 G] (f : List In4) (hf : f.length ≤ maxLen) (hk : ∀ x ∈ f, x.k < 4294967296) : ∃ v, FP G 187 [FL f] v ∧ Rch f v := by
  refine FPx_of HasR5.h_hurdleref05_Check (Nat.le_of_ble_eq_true rfl) ?_
  by_cases h0 : f = []
  · subst h0
    simp [FL]
    exact ⟨0, 5, rfl, by decide⟩
  have hne : 0 < f.length := List.length_pos_iff.2 h0
  by_cases hbig : f.length > 4096
  · have hb : ((4096 : Int) < (f.length : Int)) = True := eq_true (by omega)
    have : soundF f = false := by simp [soundF, show ¬ f.length ≤ 4096 by omega]
    simp [FL, h0, hb, beqI]
    exact ⟨0, 3, rfl, by simp [this]⟩
  have hb : ((4096 : Int) < (f.length : Int)) = False := eq_false (by omega)
  simp [FL, h0, hb, beqI]
  refine W_up f.length (fun i => [(0, FL f), (4, .int .i64 i)]) (fun _ => []) (fun i => okAll f = okAll (f.drop i)) ?_ ?_
  · simp [keep_cl, trunc, FL]
  intro i hi hn
  by_cases hlt : i < f.length
  · have hx := FL_get hlt
    have hg : f[i] ∈ f := List.getElem_mem hlt
    have hkk := hk _ hg
    have hdr := okAll_drop hlt
    obtain ⟨v, ho, e, rfl, he⟩ := One_ok (G := G) f[i] i f.length hkk hlt hf
    generalize f[i] = x at hx hkk hdr hg ho he
    simp [IV, In4.cs] at ho
    simp (disch := omega) [ltT, FL, hx, In4.cs, hlt, -Int.natCast_add]
    refine callP_of ho ?_
    by_cases h0e : e = 0
    · have := he.1 h0e
      rw [this, Bool.true_and] at hdr
      have hn2 := hn.trans hdr
      simp (disch := omega) [h0e, hlt, add1', keep_cl, trunc, FL, hn2, -Int.natCast_add]
    · have hrb : oneB x (f.length - 1 - i) = false := by rw [← Bool.not_eq_true]; exact fun h => h0e (he.2 h)
      rw [hrb] at hdr
      simp [bneT, h0e]
      exact ⟨_, _, rfl, by simp [h0e, unsound_ok (hn.trans hdr)]⟩
  · have hin : i = f.length := by omega
    subst hin
    have hlt : f.length - 1 < f.length := by omega
    have hx := FL_get hlt
    rw [List.drop_length] at hn
    have hs1 := sound_of h0 (by omega) hn
    have hs2 := unsound_end h0
    generalize f[f.length - 1] = x at hx hs1 hs2
    have he := EndsR_ok (G := G) x
    simp [IV, In4.cs] at he
    have hsub : subI .i64 (f.length : Int) 1 = ((f.length - 1 : Nat) : Int) := sub1' (by have : maxLen ≤ 9223372036854775807 := by decide
                                                                                         omega)
    simp [FL, hsub, hx, In4.cs]
    refine callP_of he ?_
    cases hen : isEnd x.op
    · simp
      exact ⟨_, 5, rfl, by simp [hs2 hen]⟩
    · simp
      exact ⟨_, 0, rfl, by simp [hs1 hen]⟩
theorem SoundR_ok [HasR2 G] [HasR5 G] (f : List In4) (hf : f.length ≤ maxLen) (hk : ∀ x ∈ f, x.k < 4294967296) : FP G 188 [FL f] (.bool (soundF f)) := by
  refine FP_of HasR5.h_hurdleref05_Sound (Nat.le_of_ble_eq_true rfl) ?_
  obtain ⟨v, hv, i, e, rfl, he⟩ := CheckR_ok (G := G) f hf hk
  simp
  refine callP_of hv ?_
  have : (e == 0) = soundF f := by rw [Bool.eq_iff_iff, beq_iff_eq]; exact he
  simp [this]
end Go.Ev
/- Which instructions are a window: window.Right, hurdleref17.Right; and hurdleref03.Same. -/
namespace Go.Ev
open Go Go.RowKit
variable {G : Tbl}
set_option maxRecDepth 10000
set_option maxHeartbeats 2000000
set_option linter.unusedSimpArgs false
set_option linter.unusedVariables false
def goesOn (x : In4) : Bool := !(x.op == 5) && !isBr x.op && !isEnd x.op
def plainW (x : In4) : Bool := goesOn x && rightI x && ruleB x
def winB (w : List In4) : Bool := decide (w.length ≤ 32) && w.all plainW
def RET : In4 := ⟨22, 0, 0, 0⟩
theorem goesOn_not {x : In4} (h : goesOn x = true) : x.op ≠ 5 ∧ isBr x.op = false ∧ isEnd x.op = false := by
  simp only [goesOn, Bool.and_eq_true, Bool.not_eq_true', beq_eq_false_iff_ne] at h
  exact ⟨h.1.1, h.1.2, h.2⟩
theorem one_plain {x : In4} (h : goesOn x = true) (left : Nat) : oneB x left = (rightI x && ruleB x) := by
  obtain ⟨h1, h2, h3⟩ := goesOn_not h
  simp [oneB, h1, h2]
theorem okAll_win : ∀ {w : List In4} (z : In4), (∀ x ∈ w, goesOn x = true) → okAll (w ++ [z]) = ((w.all fun x => rightI x && ruleB x) && oneB z 0)
  | [], z, _ => by simp [okAll]
  | x :: w, z, h => by
    rw [List.cons_append, okAll, okAll_win z fun y hy => h y (by simp [hy]), one_plain (h x (by simp))]
    simp [Bool.and_assoc]
theorem sound_win {w : List In4} (h : ∀ x ∈ w, goesOn x = true) (hl : w.length ≤ 32) : soundF (w ++ [RET]) = w.all plainW := by
  have h1 : endB (w ++ [RET]) = true := by simp [endB]; decide
  have h2 : oneB RET 0 = true := by decide
  have h3 : (w ++ [RET]).length ≤ 4096 := by simp; omega
  simp only [soundF, okAll_win RET h, h1, h2, h3, Bool.and_true, decide_true, Bool.true_and]
  rw [Bool.eq_iff_iff, List.all_eq_true, List.all_eq_true]
  constructor
  · intro h' x hx
    simp only [plainW, h x hx, Bool.true_and]; exact h' x hx
  · intro h' x hx
    have := h' x hx
    simpa only [plainW, h x hx, Bool.true_and] using this
theorem WRight_ok [HasIns G] [HasCheck G] [HasWRight G] (w : List In4) (hf : w.length ≤ maxLen) (hk : ∀ x ∈ w, x.k < 4294967296) : FP G 202 [FL w] (.bool (winB w)) := by
  refine FP_of HasWRight.h_window_Right (Nat.le_of_ble_eq_true rfl) ?_
  by_cases hb : w.length > 32
  · have h1 : ((32 : Int) < (w.length : Int)) = True := eq_true (by omega)
    simp [FL, h1, winB, show ¬ w.length ≤ 32 by omega]
  have h1 : ((32 : Int) < (w.length : Int)) = False := eq_false (by omega)
  have hle : w.length ≤ 32 := by omega
  simp [FL, h1]
  refine W_up w.length (fun i => [(0, FL w), (8, FL w), (9, .int .i64 w.length), (10, .int .i64 i)]) (fun _ => []) (fun i => ∀ x ∈ w.take i, goesOn x = true) ?_ ?_
  · simp [keep_cl, trunc, FL]
  intro i hi hp
  by_cases hlt : i < w.length
  · obtain ⟨x, hfx⟩ : ∃ x, x = w[i] := ⟨_, rfl⟩
    have hgg := FL_get hlt
    rw [← hfx] at hgg
    have hfx := hfx.symm
    have hxm : x ∈ w := hfx ▸ List.getElem_mem hlt
    have hbr := Branch_ok (G := G) x
    have hen := Ends_ok (G := G) x
    have hcs : x.cs = [.int .i64 x.op, .int .i64 x.jt, .int .i64 x.jf, .int .u32 (x.k : Int)] := rfl
    simp [IV, hcs] at hbr hen
    have bad : goesOn x = false → winB w = false := by
      intro h
      have : w.all plainW = false := by
        rw [← Bool.not_eq_true, List.all_eq_true]
        intro h2
        have := h2 x hxm
        simp only [plainW, h, Bool.false_and, Bool.false_eq_true] at this
      simp [winB, this]
    by_cases h5 : x.op = 5
    · have b5 : (x.op == 5) = true := by simp [h5]
      simp (disch := omega) [ltT, FL, hgg, hfx, hcs, b5, bad (by simp [goesOn, h5])]
    have b5 : (x.op == 5) = false := beqF h5
    simp (disch := omega) [ltT, FL, hgg, hfx, hcs, b5]
    refine callP_of hbr ?_
    cases hb : isBr x.op
    · simp
      refine callP_of hen ?_
      cases he : isEnd x.op
      · have hp' : ∀ y ∈ w.take (i + 1), goesOn y = true := by
          intro y hy
          rw [List.take_add_one, List.getElem?_eq_getElem hlt, hfx] at hy
          simp only [Option.toList, List.mem_append, List.mem_singleton] at hy
          rcases hy with hy | rfl
          · exact hp y hy
          · simp [goesOn, h5, hb, he]
        simp (disch := omega) [hlt, add1', keep_cl, trunc, FL, -Int.natCast_add]
        exact hp'
      · simp [bad (by simp [goesOn, he])]
    · simp [bad (by simp [goesOn, hb])]
  · have hne : i = w.length := by omega
    subst hne
    rw [List.take_length] at hp
    have hs := Sound_ok (G := G) (w ++ [RET]) (by rw [List.length_append]; have : maxLen = 9223372036854775807 := by decide
                                                  simp; omega) (fun x hx => by
      rcases List.mem_append.1 hx with h | h
      · exact hk x h
      · simp only [List.mem_singleton] at h; subst h; decide)
    rw [sound_win hp hle] at hs
    have hw : w.all plainW = winB w := by simp [winB, hle]
    rw [hw] at hs
    have hret : IL w ++ [[V.int .i64 22, .int .i64 0, .int .i64 0, .int .u32 0]] = IL (w ++ [RET]) := IL_snoc w RET
    have hret0 : [[V.int .i64 22, .int .i64 0, .int .i64 0, .int .u32 0]] = IL ([] ++ [RET]) := rfl
    simp only [FL] at hs
    by_cases hw0 : w = []
    · subst hw0
      simp only [List.nil_append, ← hret0] at hs
      simp [FL]
      refine callP_of hs ?_
      simp
    · simp (disch := omega) [FL, IL_eq_nil, hw0, leTn, hret]
      refine callP_of hs ?_
      simp
theorem Right17_ok [HasR2 G] [HasR5o G] [HasR17 G] (w : List In4) (hf : w.length ≤ 1000000) (hk : ∀ x ∈ w, x.k < 4294967296) : FP G 203 [FL w] (.bool (winB w)) := by
  refine FP_of HasR17.h_hurdleref17_Right (Nat.le_of_ble_eq_true rfl) ?_
  simp
  refine W_up w.length (fun i => [(0, FL w), (3, .int .i64 i)]) (fun _ => []) (fun i => (w.take i).all plainW = true) ?_ ?_
  · simp [keep_cl, trunc, FL]
  intro i hi hp
  by_cases hlt : i < w.length
  · obtain ⟨x, hfx⟩ : ∃ x, x = w[i] := ⟨_, rfl⟩
    have hgg := FL_get hlt
    rw [← hfx] at hgg
    have hfx := hfx.symm
    have hxm : x ∈ w := hfx ▸ List.getElem_mem hlt
    have hbr := BranchR_ok (G := G) x
    have hen := EndsR_ok (G := G) x
    obtain ⟨v, hon, e, rfl, he0⟩ := One_ok (G := G) x 0 2 (hk x hxm) (by decide) (by decide)
    have hcs : x.cs = [.int .i64 x.op, .int .i64 x.jt, .int .i64 x.jf, .int .u32 (x.k : Int)] := rfl
    simp [IV, hcs] at hbr hen hon
    have bad : plainW x = false → winB w = false := by
      intro h
      have : w.all plainW = false := by
        rw [← Bool.not_eq_true, List.all_eq_true]
        intro h2
        have := h2 x hxm
        rw [h] at this; cases this
      simp [winB, this]
    by_cases h5 : x.op = 5
    · have b5 : (x.op == 5) = true := by simp [h5]
      simp (disch := omega) [ltT, FL, hgg, hfx, hcs, b5, bad (by simp [plainW, goesOn, h5])]
    have b5 : (x.op == 5) = false := beqF h5
    simp (disch := omega) [ltT, FL, hgg, hfx, hcs, b5]
    refine callP_of hbr ?_
    cases hb : isBr x.op
    · simp (disch := omega) [ltT, FL, hgg, hfx, hcs]
      refine callP_of hen ?_
      cases he : isEnd x.op
      · simp (disch := omega) [ltT, FL, hgg, hfx, hcs]
        refine callP_of hon ?_
        have hgo : goesOn x = true := by simp [goesOn, h5, hb, he]
        rw [one_plain hgo] at he0
        by_cases hez : e = 0
        · have hpl : plainW x = true := by simp only [plainW, hgo, Bool.true_and]; exact he0.1 hez
          have hp' : (w.take (i + 1)).all plainW = true := by
            rw [List.take_add_one, List.getElem?_eq_getElem hlt, hfx, List.all_append, hp]
            simp [hpl]
          simp (disch := omega) [hez, hlt, add1', keep_cl, trunc, FL, -Int.natCast_add]
          simpa using hp'
        · have hpl : plainW x = false := by
            rw [← Bool.not_eq_true]; intro h
            simp only [plainW, hgo, Bool.true_and] at h
            exact hez (he0.2 h)
          simp [bneT hez, bad hpl]
      · simp [bad (by simp [plainW, goesOn, he])]
    · simp [bad (by simp [plainW, goesOn, hb])]
  · have hne : i = w.length := by omega
    subst hne
    rw [List.take_length] at hp
    by_cases hl : w.length ≤ 32
    · simp [FL, winB, hp, hl, leT, show ((w.length : Int) ≤ 32) = True from eq_true (by omega)]
    · simp [FL, winB, hp, hl, show ((w.length : Int) ≤ 32) = False from eq_false (by omega)]
@[simp] theorem cs_take4 (x : In4) : x.cs.take 4 = x.cs := rfl
theorem IL_drop (f : List In4) (n : Nat) : (IL f).drop n = IL (f.drop n) := by simp [IL]
theorem IL_take (f : List In4) (n : Nat) : (IL f).take n = IL (f.take n) := by simp [IL]
theorem aeq4 (x y : In4) : eqks [.int, .int, .int, .int] x.cs y.cs = some (decide (x = y)) := by
  obtain ⟨a, b, c, d⟩ := x
  obtain ⟨a', b', c', d'⟩ := y
  simp only [In4.cs, eqks, eqk, if_true, Bool.and_true, Option.some.injEq, In4.mk.injEq]
  rw [Bool.eq_iff_iff]
  simp only [Bool.and_eq_true, beq_iff_eq, decide_eq_true_eq]
  omega
theorem Same03_ok [HasR3 G] (f g : List In4) (hf : f.length ≤ 1000000) : FP G 201 [FL f, FL g] (.bool (decide (f = g))) := by
  refine FP_of HasR3.h_hurdleref03_Same (Nat.le_of_ble_eq_true rfl) ?_
  by_cases hl : f.length = g.length
  · have hz : ((f.length : Int) != (g.length : Int)) = false := by simp [hl]
    simp [FL, hz]
    refine W_up f.length (fun i => [(0, FL f), (1, FL g), (5, .int .i64 i)]) (fun _ => []) (fun i => f.take i = g.take i) ?_ ?_
    · simp [keep_cl, trunc, FL]
    intro i hi hp
    by_cases hlt : i < f.length
    · obtain ⟨x, hfx⟩ : ∃ x, x = f[i] := ⟨_, rfl⟩
      have hlt2 : i < g.length := by omega
      obtain ⟨y, hfy⟩ : ∃ y, y = g[i] := ⟨_, rfl⟩
      have hgg := FL_get hlt
      have hgg2 := FL_get hlt2
      rw [← hfx] at hgg
      rw [← hfy] at hgg2
      have hfx := hfx.symm
      have hfy := hfy.symm
      have ha := aeq4 x y
      by_cases hxy : x = y
      · rw [decide_eq_true hxy] at ha
        have hp' : f.take (i + 1) = g.take (i + 1) := by
          rw [List.take_add_one, List.take_add_one, hp, List.getElem?_eq_getElem hlt, List.getElem?_eq_getElem hlt2, hfx, hfy, hxy]
        simp (disch := omega) [ltT, FL, hgg, hgg2, hfx, hfy, ha, hlt, add1', keep_cl, trunc, hp', -Int.natCast_add]
      · rw [decide_eq_false hxy] at ha
        have hne : ¬ f = g := by
          rintro rfl
          exact hxy (hfx.symm.trans hfy)
        simp (disch := omega) [ltT, FL, hgg, hgg2, hfx, hfy, ha, hne, -Int.natCast_add]
    · have hne : i = f.length := by omega
      subst hne
      rw [List.take_length, hl, List.take_length] at hp
      simp [FL, hp]
  · have hz : ((f.length : Int) != (g.length : Int)) = true := by simp; omega
    have : ¬ f = g := fun h => hl (by rw [h])
    simp [FL, hz, this]
end Go.Ev
/- What is needed at each place: live.nexts, live.At, live.Behind. -/
namespace Go.Ev
open Go Go.RowKit
variable {G : Tbl}
set_option maxRecDepth 10000
set_option maxHeartbeats 2000000
set_option linter.unusedSimpArgs false
set_option linter.unusedVariables false
def offs (x : In4) : List Nat := if isEnd x.op then [] else if x.op = 5 then [x.k] else if isBr x.op then [x.jt.toNat, x.jf.toNat] else [0]
theorem okAll_at : ∀ {f : List In4} {i : Nat} {x : In4}, okAll f = true → f[i]? = some x → oneB x (f.length - 1 - i) = true
  | y :: f, 0, x, h, hg => by
    simp only [List.getElem?_cons_zero, Option.some.injEq] at hg
    subst hg
    simp only [okAll, Bool.and_eq_true] at h
    simpa using h.1
  | y :: f, i + 1, x, h, hg => by
    simp only [okAll, Bool.and_eq_true] at h
    have := okAll_at h.2 (by simpa using hg)
    rw [← this]
    congr 1
    simp only [List.length_cons]; omega
theorem sound_at {f : List In4} {i : Nat} {x : In4} (h : soundF f = true) (hg : f[i]? = some x) : oneB x (f.length - 1 - i) = true ∧ (isEnd x.op = false → i + 1 < f.length) ∧ f.length ≤ 4096 := by
  simp only [soundF, Bool.and_eq_true, decide_eq_true_eq] at h
  refine ⟨okAll_at h.1.2 hg, fun he => ?_, h.1.1⟩
  obtain ⟨hi, hx⟩ := List.getElem?_eq_some_iff.1 hg
  by_cases hl : i + 1 < f.length
  · exact hl
  · have : i = f.length - 1 := by omega
    have h2 := h.2
    have : f.getLast? = some x := by rw [List.getLast?_eq_getElem?, ← this]; exact hg
    simp only [endB, this] at h2
    rw [h2] at he; cases he
theorem sound_offs {f : List In4} {i : Nat} {x : In4} (h : soundF f = true) (hg : f[i]? = some x) {o : Nat} (ho : o ∈ offs x) : i + 1 + o < f.length := by
  obtain ⟨h1, h2, h3⟩ := sound_at h hg
  simp only [oneB, Bool.and_eq_true] at h1
  unfold offs at ho
  split at ho
  · cases ho
  rename_i he
  have h2 := h2 (by simpa using he)
  split at ho
  · rename_i h5
    simp only [List.mem_singleton] at ho
    subst ho
    have := h1.1.2
    rw [if_pos h5, decide_eq_true_eq] at this
    omega
  split at ho
  · rename_i hb
    have hbr := right_br h1.1.1.1 hb
    have := h1.2
    rw [if_pos hb, decide_eq_true_eq] at this
    simp only [List.mem_cons, List.not_mem_nil, or_false] at ho
    rcases ho with rfl | rfl <;> omega
  · simp only [List.mem_singleton] at ho
    omega
end Go.Ev
/- What hurdleref07 says is needed. -/
namespace Go.Ev
open Go Go.RowKit
variable {G : Tbl}
set_option maxRecDepth 10000
set_option maxHeartbeats 2000000
set_option linter.unusedSimpArgs false
set_option linter.unusedVariables false
def cb (l : List Bool) : List V := l.map V.bool
@[simp] theorem cb_length (l : List Bool) : (cb l).length = l.length := by simp [cb]
@[simp] theorem cb_cl (n : Nat) (l : List Bool) : clL n (cb l) = cb l := by
  rw [clL_eq_map]; simp [cb, Function.comp_def]
theorem cb_set (l : List Bool) (i : Nat) (x : Bool) (h : i < l.length) : (cb l).take i ++ (V.bool x :: (cb l).drop (i + 1)) = cb (l.set i x) := by
  rw [cb, ← List.map_drop, ← List.map_take, List.set_eq_take_append_cons_drop, if_pos h]
  simp [cb]
@[simp] theorem cb_pure (l : List Bool) : (cb l).all V.pure = true := by simp [cb]
@[simp high] theorem ev1_mkslb (base : Nat) (e : Env) (H : Heap) (s bytes : Nat) (n : X) : ev1 base e H (.mksl s bytes [.bool false] n) = (match n.ev e with
    | .int _ m => if isFree H (base + s) = true ∧ 0 ≤ m ∧ m.toNat * bytes ≤ 140737488355328 then some (.rs (base + s) 0 m.toNat 1, H.set (base + s) (some (.cells (cb (List.replicate m.toNat false))))) else none
    | _ => none) := by
  have h : ∀ m : Nat, (List.replicate m [V.bool false]).flatten = cb (List.replicate m false) := fun m => by
    induction m with
    | zero => rfl
    | succ m ih => rw [List.replicate_succ, List.flatten_cons, ih]; simp [cb, List.replicate_succ]
  rw [ev1.eq_27]
  cases n.ev e <;> simp only [h, List.length_singleton]
theorem sound_br {f : List In4} {i : Nat} {x : In4} (h : soundF f = true) (hg : f[i]? = some x) : x.brOk := by
  have := (sound_at h hg).1
  simp only [oneB, Bool.and_eq_true] at this
  exact right_br this.1.1.1
end Go.Ev
/- Where a filter is gone to: splice.targets, hurdleref22.jumps. -/
namespace Go.Ev
open Go Go.RowKit
variable {G : Tbl}
set_option maxRecDepth 10000
set_option maxHeartbeats 2000000
set_option linter.unusedSimpArgs false
set_option linter.unusedVariables false
def jumpB (x : In4) (j i : Nat) : Bool := if x.op = 5 then decide (j + 1 + x.k = i) else isBr x.op && (decide (j + 1 + x.jt.toNat = i) || decide (j + 1 + x.jf.toNat = i))
theorem jumps_ok [HasR2 G] [HasR22 G] (f : List In4) (j i : Nat) (x : In4) (hg : f[j]? = some x) (hb : x.brOk) (hk : x.k < 4294967296) (hf : f.length ≤ 1000000) (hi : i ≤ 4294967296) : FP G 210 [FL f, .int .i64 j, .int .i64 i] (.bool (jumpB x j i)) := by
  refine FP_of HasR22.h_hurdleref22_jumps (Nat.le_of_ble_eq_true rfl) ?_
  obtain ⟨hlt, hfx⟩ := List.getElem?_eq_some_iff.1 hg
  have hgg := FL_get hlt
  rw [hfx] at hgg
  have hbr := BranchR_ok (G := G) x
  have hcs : x.cs = [.int .i64 x.op, .int .i64 x.jt, .int .i64 x.jf, .int .u32 (x.k : Int)] := rfl
  simp [IV, hcs] at hbr
  have c1 := convU64 j (by omega)
  have c2 := convU64 i (by omega)
  have c3 := convU64 x.k (by omega)
  have a1 : addI .u64 (j : Int) 1 = ((j + 1 : Nat) : Int) := by unfold addI; rw [show (j : Int) + 1 = ((j + 1 : Nat) : Int) by omega]; exact IntWalk.u64_in _ ⟨by omega, by omega⟩
  have a2 : addI .u64 ((j + 1 : Nat) : Int) (x.k : Int) = ((j + 1 + x.k : Nat) : Int) := by unfold addI; rw [← Int.natCast_add]; exact IntWalk.u64_in _ ⟨by omega, by omega⟩
  have a3 : addI .i64 (j : Int) 1 = ((j + 1 : Nat) : Int) := add1' (by omega)
  have ez : ∀ a b : Nat, ((a : Int) == (b : Int)) = decide (a = b) := fun a b => by rw [Bool.eq_iff_iff]; simp
  simp (disch := omega) [FL, ltT, hgg, hfx, hcs]
  by_cases h5 : x.op = 5
  · have b5 : (x.op == 5) = true := by simp [h5]
    simp [b5, c1, c2, c3, a1, a2, jumpB, h5, ez, -Int.natCast_add]
  · have b5 : (x.op == 5) = false := beqF h5
    simp [b5]
    refine callP_of hbr ?_
    cases hbx : isBr x.op
    · simp [jumpB, h5, hbx]
    · obtain ⟨b1, b2, b3, b4⟩ := hb hbx
      have a4 : addI .i64 ((j + 1 : Nat) : Int) x.jt = ((j + 1 + x.jt.toNat : Nat) : Int) := by rw [addI64] <;> omega
      have a5 : addI .i64 ((j + 1 : Nat) : Int) x.jf = ((j + 1 + x.jf.toNat : Nat) : Int) := by rw [addI64] <;> omega
      simp [a3, a4, -Int.natCast_add]
      by_cases he : j + 1 + x.jt.toNat = i
      · simp [ez, he, jumpB, h5, hbx, -Int.natCast_add]
      · simp [ez, he, a3, a5, jumpB, h5, hbx, -Int.natCast_add]
def hitB (f : List In4) (m i : Nat) : Bool := (List.range m).any fun j => jumpB (f.getD j RET) j i
def hits (f : List In4) (m : Nat) : List Bool := (List.range f.length).map (hitB f m)
theorem hits_len (f : List In4) (m : Nat) : (hits f m).length = f.length := by simp [hits]
theorem hitB_succ (f : List In4) (m i : Nat) : hitB f (m + 1) i = (hitB f m i || jumpB (f.getD m RET) m i) := by simp [hitB, List.range_succ, List.any_append]
theorem hits_get (f : List In4) (m i : Nat) (h : i < f.length) : (hits f m)[i]? = some (hitB f m i) := by simp [hits, h]
theorem hits_set (f : List In4) (m : Nat) (l : List Bool) (hl : l.length = f.length) (h : ∀ i, i < f.length → l[i]? = some (hitB f (m + 1) i)) : l = hits f (m + 1) := by
  refine List.ext_getElem? fun i => ?_
  by_cases hi : i < f.length
  · rw [h i hi, hits_get _ _ _ hi]
  · rw [List.getElem?_eq_none (by omega), List.getElem?_eq_none (by rw [hits_len]; omega)]
theorem cb_chunks : ∀ l : List Bool, chunks 1 l.length (cb l) = bools l
  | [] => rfl
  | x :: l => by
    have := cb_chunks l
    simp only [cb] at this
    simp [chunks, cb, bools, this]
theorem targets_ok [HasIns G] [HasSpl G] (f : List In4) (hs : soundF f = true) (hk : ∀ x ∈ f, x.k < 4294967296) : FP G 204 [FL f] (.vs (bools (hits f f.length)) .no) := by
  refine FP_of HasSpl.h_splice_targets (Nat.le_of_ble_eq_true rfl) ?_
  have hl : f.length ≤ 4096 := by simp only [soundF, Bool.and_eq_true, decide_eq_true_eq] at hs; exact hs.1.1
  simp (disch := omega) [FL, leTn]
  refine W_up f.length (fun m => [(3, .rs 0 0 f.length 1), (9, FL f), (10, .int .i64 f.length), (11, .int .i64 m)]) (fun m => [some (.cells (cb (hits f m)))]) (fun _ => True) ?_ ?_
  · have : hits f 0 = List.replicate f.length false := by
      refine List.ext_getElem? fun i => ?_
      by_cases hi : i < f.length
      · rw [hits_get _ _ _ hi, List.getElem?_replicate_of_lt hi]; rfl
      · rw [List.getElem?_eq_none (by rw [hits_len]; omega), List.getElem?_eq_none (by simp; omega)]
    simp [keep_cl, trunc, FL, this]
  intro m hm _
  have hhl := hits_len f m
  by_cases hlt : m < f.length
  · obtain ⟨x, hfx⟩ : ∃ x, x = f[m] := ⟨_, rfl⟩
    have hgg := FL_get hlt
    rw [← hfx] at hgg
    have hfx := hfx.symm
    have hg : f[m]? = some x := by rw [List.getElem?_eq_getElem hlt, hfx]
    have hD : f.getD m RET = x := by rw [List.getD, hg]; rfl
    have hkk := hk x (hfx ▸ List.getElem_mem hlt)
    have hbr := Branch_ok (G := G) x
    have hcs : x.cs = [.int .i64 x.op, .int .i64 x.jt, .int .i64 x.jf, .int .u32 (x.k : Int)] := rfl
    simp [IV, hcs] at hbr
    have hbo := sound_br hs hg
    have hofs := fun o => sound_offs (o := o) hs hg
    have a3 : addI .i64 (m : Int) 1 = ((m + 1 : Nat) : Int) := add1' (by omega)
    have hc := convI64 x.k hkk
    simp (disch := omega) [FL, ltT, hgg, hfx, hcs]
    by_cases h5 : x.op = 5
    · have b5 : (x.op == 5) = true := by simp [h5]
      have hnb : isBr x.op = false := by rw [h5]; decide
      have hof := hofs x.k (by simp [offs, h5, show isEnd 5 = false by decide])
      have a4 : addI .i64 ((m + 1 : Nat) : Int) (x.k : Int) = ((m + 1 + x.k : Nat) : Int) := addN (by omega)
      have hst := cb_set (hits f m) (m + 1 + x.k) true (by omega)
      have hnew : (hits f m).set (m + 1 + x.k) true = hits f (m + 1) := by
        refine hits_set f m _ (by simp [hhl]) fun i hi => ?_
        rw [List.getElem?_set, hits_get _ _ _ hi, hitB_succ, hD]
        by_cases he : m + 1 + x.k = i
        · subst he; simp [jumpB, h5, hhl, hi]
        · simp [jumpB, h5, he]
      rw [hnb] at hbr
      rw [hnew] at hst
      simp (disch := omega) [b5, a3, a4, hc, hhl, ltTn, leTn, hst, -Int.natCast_add]
      refine callP_of hbr ?_
      simp (disch := omega) [hlt, add1', keep_cl, trunc, FL, -Int.natCast_add]
    · have b5 : (x.op == 5) = false := beqF h5
      simp (disch := omega) [b5, -Int.natCast_add]
      refine callP_of hbr ?_
      cases hbx : isBr x.op
      · have hnew : hits f m = hits f (m + 1) := by
          refine hits_set f m _ hhl fun i hi => ?_
          rw [hits_get _ _ _ hi, hitB_succ, hD]
          simp [jumpB, h5, hbx]
        rw [hnew]
        simp (disch := omega) [hlt, add1', keep_cl, trunc, FL, -Int.natCast_add]
      · obtain ⟨b1, b2, b3, b4⟩ := hbo hbx
        have hne : isEnd x.op = false := by
          have key : ∀ p ∈ [21, 37, 53, 69, 29, 45, 61, (77 : Int)], isEnd p = false := by decide
          exact key _ (by simpa [isBr] using hbx)
        have ho1 := hofs x.jt.toNat (by simp [offs, hne, h5, hbx])
        have ho2 := hofs x.jf.toNat (by simp [offs, hne, h5, hbx])
        have a4 : addI .i64 ((m + 1 : Nat) : Int) x.jt = ((m + 1 + x.jt.toNat : Nat) : Int) := by rw [addI64] <;> omega
        have a5 : addI .i64 ((m + 1 : Nat) : Int) x.jf = ((m + 1 + x.jf.toNat : Nat) : Int) := by rw [addI64] <;> omega
        have hst := cb_set (hits f m) (m + 1 + x.jt.toNat) true (by omega)
        have hst2 := cb_set ((hits f m).set (m + 1 + x.jt.toNat) true) (m + 1 + x.jf.toNat) true (by rw [List.length_set]; omega)
        have hnew : ((hits f m).set (m + 1 + x.jt.toNat) true).set (m + 1 + x.jf.toNat) true = hits f (m + 1) := by
          refine hits_set f m _ (by simp [hhl]) fun i hi => ?_
          rw [List.getElem?_set, List.getElem?_set, hits_get _ _ _ hi, hitB_succ, hD]
          by_cases he : m + 1 + x.jt.toNat = i <;> by_cases he2 : m + 1 + x.jf.toNat = i <;> simp [jumpB, h5, hbx, he, he2, hhl, hi]
        rw [hnew] at hst2
        simp (maxSteps := 20000) (disch := omega) [a3, a4, a5, hhl, -Int.natCast_add]
        simp [ho1, ho2, hhl, -Int.natCast_add]
        simp (disch := omega) [hhl, leTn, hst, hst2, -Int.natCast_add]
        simp [ho2, -Int.natCast_add]
        simp (disch := omega) [hhl, leTn, hst2, -Int.natCast_add]
        simp (disch := omega) [hlt, add1', keep_cl, trunc, FL, -Int.natCast_add]
  · have hne : m = f.length := by omega
    subst hne
    have hch : chunks 1 f.length (cb (hits f f.length)) = bools (hits f f.length) := by
      have h := cb_chunks (hits f f.length)
      rw [hhl] at h; exact h
    simp (disch := omega) [hhl, leTn, hch]
end Go.Ev
/- Which pieces are free: splice.free, splice.Free, hurdleref22.Free. -/
namespace Go.Ev
open Go Go.RowKit
variable {G : Tbl}
set_option maxRecDepth 10000
set_option maxHeartbeats 2000000
set_option linter.unusedSimpArgs false
set_option linter.unusedVariables false
def noHit (f : List In4) (a m : Nat) : Bool := (List.range m).all fun j => !hitB f f.length (a + 1 + j)
theorem noHit_succ (f : List In4) (a m : Nat) : noHit f a (m + 1) = (noHit f a m && !hitB f f.length (a + 1 + m)) := by simp [noHit, List.range_succ, List.all_append]
theorem noHit_false {f : List In4} {a m n : Nat} (h : hitB f f.length (a + 1 + m) = true) (hm : m < n) : noHit f a n = false := by
  rw [← Bool.not_eq_true, noHit, List.all_eq_true]
  intro h2
  have := h2 m (List.mem_range.2 hm)
  rw [h] at this; cases this
def freeN (f : List In4) (a n : Nat) : Bool := winB ((f.drop a).take n) && noHit f a (n - 1)
def inB (f : List In4) (a n : Int) : Bool := decide (0 ≤ a ∧ 1 ≤ n ∧ a < f.length ∧ n ≤ f.length - a)
def freeR (f : List In4) (a n : Int) : Bool := inB f a n && freeN f a.toNat n.toNat
def freeZ (f : List In4) (a n : Int) : Bool := soundF f && freeR f a n
theorem sound_le {f : List In4} (hs : soundF f = true) : f.length ≤ 4096 := by simp only [soundF, Bool.and_eq_true, decide_eq_true_eq] at hs; exact hs.1.1
theorem slice_k {f : List In4} (hk : ∀ x ∈ f, x.k < 4294967296) (a n : Nat) : ∀ x ∈ (f.drop a).take n, x.k < 4294967296 := fun x hx => hk x (List.mem_of_mem_drop (List.mem_of_mem_take hx))
theorem free_ok [HasIns G] [HasCheck G] [HasWRight G] [HasSpl G] (f : List In4) (a n : Int) (hs : soundF f = true) (hk : ∀ x ∈ f, x.k < 4294967296) :
    FP G 205 [FL f, .vs (bools (hits f f.length)) .no, .int .i64 a, .int .i64 n] (.bool (freeR f a n)) := by
  refine FP_of HasSpl.h_splice_free (Nat.le_of_ble_eq_true rfl) ?_
  have hl := sound_le hs
  have hml : maxLen = 9223372036854775807 := by decide
  by_cases h1 : a < 0
  · have : freeR f a n = false := by simp [freeR, inB, show ¬ 0 ≤ a by omega]
    simp [h1, this]
  by_cases h2 : n < 1
  · have : freeR f a n = false := by simp [freeR, inB, show ¬ 1 ≤ n by omega]
    simp [h1, h2, this]
  by_cases h3 : (f.length : Int) ≤ a
  · have : freeR f a n = false := by simp [freeR, inB, show ¬ a < f.length by omega]
    simp [h1, h2, h3, FL, this]
  have s1 : subI .i64 (f.length : Int) a = (f.length : Int) - a := by rw [subI64] <;> omega
  by_cases h4 : (f.length : Int) - a < n
  · have : freeR f a n = false := by simp [freeR, inB, show ¬ n ≤ f.length - a by omega]
    simp [h1, h2, h3, h4, s1, FL, this]
  have hin : inB f a n = true := by simp only [inB, decide_eq_true_eq]; omega
  obtain ⟨a, rfl⟩ := Int.eq_ofNat_of_zero_le (show 0 ≤ a by omega)
  obtain ⟨n, rfl⟩ := Int.eq_ofNat_of_zero_le (show 0 ≤ n by omega)
  have hfr : freeR f (a : Int) (n : Int) = freeN f a n := by simp [freeR, hin]
  rw [hfr]
  have h1 : ((a : Int) < 0) = False := eq_false h1
  have h2' : ((n : Int) < 1) = False := eq_false h2
  have h2 : (n = 0) = False := eq_false (by omega)
  have h3 : ((f.length : Int) ≤ (a : Int)) = False := eq_false h3
  have h4 : ((f.length : Int) - (a : Int) < (n : Int)) = False := eq_false h4
  have hbd : a + n ≤ f.length := by omega
  have aa : addI .i64 (a : Int) (n : Int) = ((a + n : Nat) : Int) := addN (by omega)
  have a1 : addI .i64 (a : Int) 1 = ((a + 1 : Nat) : Int) := add1' (by omega)
  have hw := WRight_ok (G := G) ((f.drop a).take n) (by rw [List.length_take]; omega) (slice_k hk a n)
  have hsl : List.take n (List.drop a (IL f)) = IL ((f.drop a).take n) := by rw [IL_drop, IL_take]
  have hhl := hits_len f f.length
  simp only [FL] at hw
  simp (disch := omega) [h1, h2, h2', h3, h4, s1, FL, aa, leTn, hsl, -Int.natCast_add]
  refine callP_of hw ?_
  cases hwb : winB ((f.drop a).take n)
  · simp [freeN, hwb]
  have hfn : freeN f a n = noHit f a (n - 1) := by simp [freeN, hwb]
  rw [hfn]
  simp [a1, -Int.natCast_add]
  refine W_up (n - 1) (fun j => [(1, .vs (bools (hits f f.length)) .no), (2, .int .i64 a), (3, .int .i64 n), (9, .int .i64 ((a + 1 + j : Nat) : Int))]) (fun _ => []) (fun j => noHit f a j = true) ?_ ?_
  · simp [keep_cl, trunc, noHit]
  intro j hj hp
  by_cases hlt : j < n - 1
  · have hF : ((a + 1 + j : Nat) : Int) < ((a + n : Nat) : Int) := by omega
    have hg := hits_get f f.length (a + 1 + j) (by omega)
    obtain ⟨_, hgv⟩ := List.getElem?_eq_some_iff.1 hg
    have a2 : addI .i64 ((a + 1 + j : Nat) : Int) 1 = ((a + 1 + (j + 1) : Nat) : Int) := add1' (by omega)
    cases hh : hitB f f.length (a + 1 + j)
    · rw [hh] at hg hgv
      have hp' : noHit f a (j + 1) = true := by rw [noHit_succ, hp, hh]; rfl
      simp (disch := omega) [aa, ltT hF, hg, hgv, hhl, hlt, a2, hp', keep_cl, trunc, -Int.natCast_add]
    · rw [hh] at hg hgv
      have := noHit_false hh hlt
      simp (disch := omega) [aa, ltT hF, hg, hgv, hhl, this, -Int.natCast_add]
  · have hne : j = n - 1 := by omega
    subst hne
    have hF : ¬ ((a + 1 + (n - 1) : Nat) : Int) < ((a + n : Nat) : Int) := by omega
    simp [aa, ltF hF, hp, -Int.natCast_add]
theorem Free_ok [HasIns G] [HasCheck G] [HasWRight G] [HasSpl G] (f : List In4) (a n : Int) (hf : f.length ≤ maxLen) (hk : ∀ x ∈ f, x.k < 4294967296) :
    FP G 206 [FL f, .int .i64 a, .int .i64 n] (.bool (freeZ f a n)) := by
  refine FP_of HasSpl.h_splice_Free (Nat.le_of_ble_eq_true rfl) ?_
  have hso := Sound_ok (G := G) f hf hk
  simp
  refine callP_of hso ?_
  cases hs : soundF f
  · simp [freeZ, hs]
  · simp
    refine callP_of (targets_ok f hs hk) ?_
    simp
    refine callP_of (free_ok f a n hs hk) ?_
    simp [freeZ, hs]
theorem FreeR_ok [HasR2 G] [HasR5 G] [HasR17 G] [HasR22 G] (f : List In4) (a n : Int) (hf : f.length ≤ maxLen) (hk : ∀ x ∈ f, x.k < 4294967296) :
    FP G 211 [FL f, .int .i64 a, .int .i64 n] (.bool (freeZ f a n)) := by
  refine FP_of HasR22.h_hurdleref22_Free (Nat.le_of_ble_eq_true rfl) ?_
  have hso := SoundR_ok (G := G) f hf hk
  simp
  refine callP_of hso ?_
  cases hs : soundF f
  · simp [freeZ, hs]
  have hfz : freeZ f a n = freeR f a n := by simp [freeZ, hs]
  rw [hfz]
  have hl := sound_le hs
  have hml : maxLen = 9223372036854775807 := by decide
  by_cases h1 : a < 0
  · have : freeR f a n = false := by simp [freeR, inB, show ¬ 0 ≤ a by omega]
    simp [h1, this]
  by_cases h2 : n < 1
  · have : freeR f a n = false := by simp [freeR, inB, show ¬ 1 ≤ n by omega]
    simp [h1, h2, this]
  by_cases h3 : (f.length : Int) ≤ a
  · have : freeR f a n = false := by simp [freeR, inB, show ¬ a < f.length by omega]
    simp [h1, h2, h3, FL, this]
  have s1 : subI .i64 (f.length : Int) a = (f.length : Int) - a := by rw [subI64] <;> omega
  by_cases h4 : (f.length : Int) - a < n
  · have : freeR f a n = false := by simp [freeR, inB, show ¬ n ≤ f.length - a by omega]
    simp [h1, h2, h3, h4, s1, FL, this]
  have hin : inB f a n = true := by simp only [inB, decide_eq_true_eq]; omega
  obtain ⟨a, rfl⟩ := Int.eq_ofNat_of_zero_le (show 0 ≤ a by omega)
  obtain ⟨n, rfl⟩ := Int.eq_ofNat_of_zero_le (show 0 ≤ n by omega)
  have hfr : freeR f (a : Int) (n : Int) = freeN f a n := by simp [freeR, hin]
  rw [hfr]
  have h1 : ((a : Int) < 0) = False := eq_false h1
  have h2' : ((n : Int) < 1) = False := eq_false h2
  have h2 : (n = 0) = False := eq_false (by omega)
  have h3 : ((f.length : Int) ≤ (a : Int)) = False := eq_false h3
  have h4 : ((f.length : Int) - (a : Int) < (n : Int)) = False := eq_false h4
  have hbd : a + n ≤ f.length := by omega
  have aa : addI .i64 (a : Int) (n : Int) = ((a + n : Nat) : Int) := addN (by omega)
  have a1 : addI .i64 (a : Int) 1 = ((a + 1 : Nat) : Int) := add1' (by omega)
  have hw := Right17_ok (G := G) ((f.drop a).take n) (by rw [List.length_take]; omega) (slice_k hk a n)
  have hsl : List.take n (List.drop a (IL f)) = IL ((f.drop a).take n) := by rw [IL_drop, IL_take]
  simp only [FL] at hw
  simp (disch := omega) [h1, h2, h2', h3, h4, s1, FL, aa, leTn, hsl, -Int.natCast_add]
  refine callP_of hw ?_
  cases hwb : winB ((f.drop a).take n)
  · simp [freeN, hwb]
  have hfn : freeN f a n = noHit f a (n - 1) := by simp [freeN, hwb]
  rw [hfn]
  simp [a1, -Int.natCast_add]
  refine W_up (n - 1) (fun j => [(0, FL f), (1, .int .i64 a), (2, .int .i64 n), (7, .int .i64 ((a + 1 + j : Nat) : Int))]) (fun _ => []) (fun j => noHit f a j = true) ?_ ?_
  · simp [keep_cl, trunc, noHit, FL]
  intro j hj hp
  by_cases hlt : j < n - 1
  · have hF : ((a + 1 + j : Nat) : Int) < ((a + n : Nat) : Int) := by omega
    have a2 : addI .i64 ((a + 1 + j : Nat) : Int) 1 = ((a + 1 + (j + 1) : Nat) : Int) := add1' (by omega)
    simp (disch := omega) [aa, ltT hF, FL, -Int.natCast_add]
    refine W_up f.length (fun i => [(0, FL f), (1, .int .i64 a), (2, .int .i64 n), (7, .int .i64 ((a + 1 + j : Nat) : Int)), (8, .int .i64 i)]) (fun _ => []) (fun i => hitB f i (a + 1 + j) = false) ?_ ?_
    · simp [keep_cl, trunc, FL, hitB]
    intro i hi hq
    by_cases hil : i < f.length
    · obtain ⟨x, hfx⟩ : ∃ x, x = f[i] := ⟨_, rfl⟩
      have hg : f[i]? = some x := by rw [List.getElem?_eq_getElem hil, hfx]
      have hD : f.getD i RET = x := by rw [List.getD, hg]; rfl
      have hjm := jumps_ok (G := G) f i (a + 1 + j) x hg (sound_br hs hg) (hk x (hfx ▸ List.getElem_mem hil)) (by omega) (by omega)
      simp only [FL] at hjm
      have hsu := hitB_succ f i (a + 1 + j)
      rw [hq, hD, Bool.false_or] at hsu
      simp (disch := omega) [FL, ltT, -Int.natCast_add]
      refine callP_of hjm ?_
      cases hjb : jumpB x i (a + 1 + j)
      · rw [hjb] at hsu
        simp (disch := omega) [hil, add1', keep_cl, trunc, FL, hsu, -Int.natCast_add]
      · rw [hjb] at hsu
        have hh : hitB f f.length (a + 1 + j) = true := by
          rw [hitB, List.any_eq_true]
          exact ⟨i, List.mem_range.2 hil, by rw [hD]; exact hjb⟩
        have := noHit_false hh hlt
        simp [this]
    · have hne : i = f.length := by omega
      subst hne
      have hp' : noHit f a (j + 1) = true := by rw [noHit_succ, hp, hq]; rfl
      simp (disch := omega) [FL, hlt, a2, hp', keep_cl, trunc, -Int.natCast_add]
  · have hne : j = n - 1 := by omega
    subst hne
    have hF : ¬ ((a + 1 + (n - 1) : Nat) : Int) < ((a + n : Nat) : Int) := by omega
    simp [aa, ltF hF, hp, FL, -Int.natCast_add]
end Go.Ev
/- A filter with another window: splice.Put. -/
namespace Go.Ev
open Go Go.RowKit
variable {G : Tbl}
set_option maxRecDepth 10000
set_option maxHeartbeats 2000000
set_option linter.unusedSimpArgs false
set_option linter.unusedVariables false
def adjN (a e less i d : Nat) : Nat := if i < a ∧ e ≤ i + 1 + d then d - less else d
def putI (a e less i : Nat) (x : In4) : In4 := if x.op = 5 then { x with k := adjN a e less i x.k } else if isBr x.op then { x with jt := (adjN a e less i x.jt.toNat : Nat), jf := (adjN a e less i x.jf.toNat : Nat) } else x
def pre (f : List In4) (a e less m : Nat) : List In4 := (List.range m).map fun i => putI a e less i (f.getD i RET)
def putL (f : List In4) (a n : Nat) (w : List In4) : List In4 := pre f a (a + n) (n - w.length) a ++ w ++ f.drop (a + n)
def okPut (f : List In4) (a n : Int) (w : List In4) : Bool := freeZ f a n && winB w && decide ((w.length : Int) ≤ n)
def outAt (f : List In4) (a n : Nat) (w : List In4) (i : Nat) : List In4 :=
  if i ≤ a then pre f a (a + n) (n - w.length) i else pre f a (a + n) (n - w.length) a ++ w ++ (f.take i).drop (a + n)
theorem pre_succ (f : List In4) (a e less m : Nat) : pre f a e less (m + 1) = pre f a e less m ++ [putI a e less m (f.getD m RET)] := by simp [pre, List.range_succ]
theorem pre_len (f : List In4) (a e less m : Nat) : (pre f a e less m).length = m := by simp [pre]
theorem outAt_len {f : List In4} {a n : Nat} {w : List In4} {i : Nat} (hi : i ≤ f.length) (hw : w.length ≤ 32) : (outAt f a n w i).length ≤ i + 32 := by
  unfold outAt
  split
  · rw [pre_len]; omega
  · simp only [List.length_append, pre_len, List.length_drop, List.length_take]; omega
theorem outAt_end {f : List In4} {a n : Nat} {w : List In4} (h : a + n ≤ f.length) (hn : 0 < n) : outAt f a n w f.length = putL f a n w := by
  rw [outAt, if_neg (by omega), List.take_length, putL]
theorem over_ok [HasSpl G] (a e less i d : Nat) (z : Blk) (y : List V) (hi : i ≤ 5000) (hd : d < 4294967296) (hl : less ≤ d + 5000) (hle : i < a → e ≤ i + 1 + d → less ≤ d) :
    Big G (.F 207 [.int .i64 i, .int .i64 d, .ptr 0 0, .ptr 1 0, .ptr 2 0] [some (.cells [.int .i64 a]), some (.cells [.int .i64 e]), some (.cells [.int .i64 less]), some z, some (.cells y)] (.int .i64 (adjN a e less i d : Nat))
      [some (.cells [.int .i64 a]), some (.cells [.int .i64 e]), some (.cells [.int .i64 less]), some z, some (.cells y)]) := by
  refine F_of HasSpl.h_splice_Put_1 (Nat.le_of_ble_eq_true rfl) ?_
  have a1 : addI .i64 (i : Int) 1 = ((i + 1 : Nat) : Int) := add1' (by omega)
  have a2 : addI .i64 ((i + 1 : Nat) : Int) (d : Int) = ((i + 1 + d : Nat) : Int) := addN (by omega)
  by_cases h1 : i < a
  · by_cases h2 : e ≤ i + 1 + d
    · have s1 : subI .i64 (d : Int) (less : Int) = ((adjN a e less i d : Nat) : Int) := by
        have := hle h1 h2
        rw [adjN, if_pos ⟨h1, h2⟩, subI64] <;> omega
      have h2' : ((e : Int) ≤ ((i + 1 + d : Nat) : Int)) = True := eq_true (by omega)
      simp [h1, a1, a2, h2', s1, -Int.natCast_add]
    · have s1 : adjN a e less i d = d := by rw [adjN, if_neg (by omega)]
      have h2' : ((e : Int) ≤ ((i + 1 + d : Nat) : Int)) = False := eq_false (by omega)
      simp [h1, a1, a2, h2', s1, -Int.natCast_add]
  · have s1 : adjN a e less i d = d := by rw [adjN, if_neg (by omega)]
    simp [h1, s1]
theorem Put_no [HasIns G] [HasCheck G] [HasWRight G] [HasSpl G] (f w : List In4) (a n : Int) (hf : f.length ≤ maxLen) (hw : w.length ≤ maxLen) (hk : ∀ x ∈ f, x.k < 4294967296) (hkw : ∀ x ∈ w, x.k < 4294967296) (h : okPut f a n w = false) :
    FP G 208 [FL f, .int .i64 a, .int .i64 n, FL w] (.tup [.vs [] .no, .int .i64 1]) := by
  refine FP_of HasSpl.h_splice_Put (Nat.le_of_ble_eq_true rfl) ?_
  have hfr := Free_ok (G := G) f a n hf hk
  have hwr := WRight_ok (G := G) w hw hkw
  simp only [FL] at hfr hwr
  simp [FL]
  refine callP_of hfr ?_
  cases h1 : freeZ f a n
  · simp
  simp
  refine callP_of hwr ?_
  cases h2 : winB w
  · simp
  have h3 : ((n : Int) < (w.length : Int)) = True := by
    simp only [okPut, h1, h2, Bool.true_and, decide_eq_false_iff_not] at h
    exact eq_true (by omega)
  simp [h3]
theorem Put_ok [HasIns G] [HasCheck G] [HasWRight G] [HasSpl G] (f w : List In4) (a n : Nat) (hf : f.length ≤ maxLen) (hw : w.length ≤ maxLen) (hk : ∀ x ∈ f, x.k < 4294967296) (hkw : ∀ x ∈ w, x.k < 4294967296) (h : okPut f a n w = true) :
    FP G 208 [FL f, .int .i64 a, .int .i64 n, FL w] (.tup [.vs (IL (putL f a n w)) .no, .int .i64 0]) := by
  refine FP_of HasSpl.h_splice_Put (Nat.le_of_ble_eq_true rfl) ?_
  have hfr := Free_ok (G := G) f a n hf hk
  have hwr := WRight_ok (G := G) w hw hkw
  simp only [okPut, Bool.and_eq_true, decide_eq_true_eq] at h
  obtain ⟨⟨h1, h2⟩, h3⟩ := h
  rw [h1] at hfr
  rw [h2] at hwr
  simp only [freeZ, freeR, inB, Bool.and_eq_true, decide_eq_true_eq] at h1
  obtain ⟨hs, ⟨_, i2, i3, i4⟩, hfn⟩ := h1
  simp only [Int.toNat_natCast] at hfn
  have hlen := sound_le hs
  have hw32 : w.length ≤ 32 := by simp only [winB, Bool.and_eq_true, decide_eq_true_eq] at h2; exact h2.1
  have hbd : a + n ≤ f.length := by omega
  have h3' : ((n : Int) < (w.length : Int)) = False := eq_false (by omega)
  have aa : addI .i64 (a : Int) (n : Int) = ((a + n : Nat) : Int) := addN (by omega)
  have ss : subI .i64 (n : Int) (w.length : Int) = ((n - w.length : Nat) : Int) := by rw [subI64] <;> omega
  simp only [FL] at hfr hwr
  simp [FL]
  refine callP_of hfr ?_
  simp
  refine callP_of hwr ?_
  simp [h3', aa, ss, -Int.natCast_add]
  obtain ⟨T, hT⟩ : ∃ T : Nat → List In4, ∀ j, T j = outAt f a n w j := ⟨_, fun _ => rfl⟩
  have hT0 : T 0 = [] := by rw [hT, outAt, if_pos (by omega)]; rfl
  refine W_up f.length (fun i => [(3, FL w), (5, .ptr 0 0), (10, .ptr 1 0), (12, .fn 207 [.ptr 0 0, .ptr 1 0, .ptr 2 0]), (13, .vs (IL (T i)) (.own 3)), (40, FL f), (41, .int .i64 f.length), (42, .int .i64 i)])
    (fun i => [some (.cells [.int .i64 a]), some (.cells [.int .i64 ((a + n : Nat) : Int)]), some (.cells [.int .i64 ((n - w.length : Nat) : Int)]), some (.zone (T i).length)]) (fun _ => True) ?_ ?_
  · simp [keep_cl, trunc, FL, hT0]
  intro i hi _
  by_cases hlt : i < f.length
  · have hTl : (T i).length ≤ i + 32 := by rw [hT]; exact outAt_len hi hw32
    obtain ⟨x, hfx⟩ : ∃ x, x = f[i] := ⟨_, rfl⟩
    have hgg := FL_get hlt
    rw [← hfx] at hgg
    have hfx := hfx.symm
    have hg : f[i]? = some x := by rw [List.getElem?_eq_getElem hlt, hfx]
    have hD : f.getD i RET = x := by rw [List.getD, hg]; rfl
    have hxm : x ∈ f := hfx ▸ List.getElem_mem hlt
    have hkk := hk x hxm
    have hbo := sound_br hs hg
    have hcs : x.cs = [.int .i64 x.op, .int .i64 x.jt, .int .i64 x.jf, .int .u32 (x.k : Int)] := rfl
    have hbr := Branch_ok (G := G) x
    simp [IV, hcs] at hbr
    have hend : ((a : Int) ≤ (i : Int)) = (a ≤ i) := propext (by omega)
    by_cases hia : i = a
    · have e1 : ((i : Int) == (a : Int)) = true := by simp [hia]
      have hTs : T (i + 1) = T i ++ w := by
        rw [hT, hT, outAt, outAt, if_neg (by omega), if_pos (by omega), hia]
        rw [List.drop_eq_nil_of_le (by rw [List.length_take]; omega)]; simp
      have hTl2 : (T (i + 1)).length = (T i).length + w.length := by rw [hTs]; simp
      have hE : ((i : Int) < ((a + n : Nat) : Int)) = True := eq_true (by omega)
      have hG : ((a : Int) ≤ (i : Int)) = True := eq_true (by omega)
      have hap : IL (T i) ++ IL w = IL (T (i + 1)) := by rw [IL_append, hTs]
      by_cases hw0 : w = []
      · subst hw0
        have hTe : T (i + 1) = T i := by rw [hTs]; simp
        simp (disch := omega) [ltT, FL, hgg, hfx, hcs, e1, hE, hG, hTe, hlt, add1', keep_cl, trunc, -Int.natCast_add]
      · simp (disch := omega) [ltT, FL, hgg, hfx, hcs, e1, hE, hG, IL_eq_nil, hw0, leTn, hap, hTl2, hlt, add1', keep_cl, trunc, -Int.natCast_add]
    have e1 : ((i : Int) == (a : Int)) = false := beqF (by omega)
    by_cases hmid : a ≤ i ∧ i < a + n
    · have hTe : T (i + 1) = T i := by
        rw [hT, hT, outAt, outAt, if_neg (by omega), if_neg (by omega)]
        rw [List.drop_eq_nil_of_le (by rw [List.length_take]; omega), List.drop_eq_nil_of_le (by rw [List.length_take]; omega)]
      have hE : ((i : Int) < ((a + n : Nat) : Int)) = True := eq_true (by omega)
      have hG : ((a : Int) ≤ (i : Int)) = True := eq_true (by omega)
      simp (disch := omega) [ltT, FL, hgg, hfx, hcs, e1, hE, hG, hTe, hlt, add1', keep_cl, trunc, -Int.natCast_add]
    have hTs : T (i + 1) = T i ++ [putI a (a + n) (n - w.length) i x] := by
      rw [hT, hT]
      by_cases hlo : i < a
      · rw [outAt, outAt, if_pos (by omega), if_pos (by omega), pre_succ, hD]
      · have hadj : ∀ d, adjN a (a + n) (n - w.length) i d = d := fun d => by rw [adjN, if_neg (by omega)]
        have hpx : putI a (a + n) (n - w.length) i x = x := by
          unfold putI
          simp only [hadj]
          obtain ⟨op, jt, jf, k⟩ := x
          by_cases h5 : op = 5
          · simp [h5]
          · cases hbx : isBr op
            · simp [h5]
            · obtain ⟨b1, b2, b3, b4⟩ := hbo hbx
              simp only at b1 b2 b3 b4
              simp [h5]; omega
        have hdr : (f.take (i + 1)).drop (a + n) = (f.take i).drop (a + n) ++ [x] := by
          rw [List.take_add_one, hg, Option.toList_some, List.drop_append_of_le_length (by rw [List.length_take]; omega)]
        rw [hpx, outAt, outAt, if_neg (by omega), hdr]
        by_cases hia2 : i ≤ a
        · omega
        · rw [if_neg hia2, ← List.append_assoc]
    have hTl2 : (T (i + 1)).length = (T i).length + 1 := by rw [hTs]; simp
    have ho : ∀ d : Nat, d < 4294967296 → _ := fun d hd => over_ok (G := G) a (a + n) (n - w.length) i d (.zone (T i).length) x.cs (by omega) hd (by omega) (fun h1 h2 => by omega)
    have hadl : ∀ d : Nat, adjN a (a + n) (n - w.length) i d ≤ d := fun d => by unfold adjN; split <;> omega
    have hsn : ∀ y : In4, y = putI a (a + n) (n - w.length) i x → IL (T i) ++ [y.cs] = IL (T (i + 1)) := fun y hy => by rw [hTs, hy]; exact IL_snoc _ _
    by_cases hai : a ≤ i
    · have hG : ((a : Int) ≤ (i : Int)) = True := eq_true (by omega)
      have hE : ((i : Int) < ((a + n : Nat) : Int)) = False := eq_false (by omega)
      by_cases h5 : x.op = 5
      · have b5 : (x.op == 5) = true := by simp [h5]
        have hc := convI64 x.k hkk
        have hov := ho x.k hkk
        have hc2 : convI .u32 ((adjN a (a + n) (n - w.length) i x.k : Nat) : Int) = ((adjN a (a + n) (n - w.length) i x.k : Nat) : Int) := by unfold convI; exact wrap_nat32 (by have := hadl x.k; omega)
        have hap := hsn ⟨x.op, x.jt, x.jf, adjN a (a + n) (n - w.length) i x.k⟩ (by simp [putI, h5])
        simp only [In4.cs] at hov hap
        simp (disch := omega) [ltT, FL, hgg, hfx, hcs, e1, hG, hE, b5, hc, -Int.natCast_add]
        refine callV_of hov (by simp) ?_
        simp (disch := omega) [trunc, hc2, leTn, hap, hTl2, hlt, add1', keep_cl, -Int.natCast_add]
      have b5 : (x.op == 5) = false := beqF h5
      simp (disch := omega) [ltT, FL, hgg, hfx, hcs, e1, hG, hE, b5, -Int.natCast_add]
      refine callP_of hbr ?_
      cases hbx : isBr x.op
      · have hap := hsn x (by simp [putI, h5, hbx])
        simp only [In4.cs] at hap
        simp (disch := omega) [leTn, hap, hTl2, hlt, add1', keep_cl, trunc, -Int.natCast_add]
      · obtain ⟨b1, b2, b3, b4⟩ := hbo hbx
        have hov := ho x.jt.toNat (by omega)
        have hov2 := ho x.jf.toNat (by omega)
        have hap := hsn ⟨x.op, (adjN a (a + n) (n - w.length) i x.jt.toNat : Nat), (adjN a (a + n) (n - w.length) i x.jf.toNat : Nat), x.k⟩ (by simp [putI, h5, hbx])
        have j1 : ((x.jt.toNat : Nat) : Int) = x.jt := by omega
        have j2 : ((x.jf.toNat : Nat) : Int) = x.jf := by omega
        simp only [In4.cs, j1, j2] at hov hov2 hap
        simp
        refine callV_of hov (by simp [trunc]) ?_
        simp [trunc]
        refine callV_of hov2 (by simp [trunc]) ?_
        simp (disch := omega) [trunc, leTn, hap, hTl2, hlt, add1', keep_cl, -Int.natCast_add]
        omega
    · have hG : ((a : Int) ≤ (i : Int)) = False := eq_false (by omega)
      by_cases h5 : x.op = 5
      · have b5 : (x.op == 5) = true := by simp [h5]
        have hc := convI64 x.k hkk
        have hov := ho x.k hkk
        have hc2 : convI .u32 ((adjN a (a + n) (n - w.length) i x.k : Nat) : Int) = ((adjN a (a + n) (n - w.length) i x.k : Nat) : Int) := by unfold convI; exact wrap_nat32 (by have := hadl x.k; omega)
        have hap := hsn ⟨x.op, x.jt, x.jf, adjN a (a + n) (n - w.length) i x.k⟩ (by simp [putI, h5])
        simp only [In4.cs] at hov hap
        simp (disch := omega) [ltT, FL, hgg, hfx, hcs, e1, hG, b5, hc, -Int.natCast_add]
        refine callV_of hov (by simp) ?_
        simp (disch := omega) [trunc, hc2, leTn, hap, hTl2, hlt, add1', keep_cl, -Int.natCast_add]
      have b5 : (x.op == 5) = false := beqF h5
      simp (disch := omega) [ltT, FL, hgg, hfx, hcs, e1, hG, b5, -Int.natCast_add]
      refine callP_of hbr ?_
      cases hbx : isBr x.op
      · have hap := hsn x (by simp [putI, h5, hbx])
        simp only [In4.cs] at hap
        simp (disch := omega) [leTn, hap, hTl2, hlt, add1', keep_cl, trunc, -Int.natCast_add]
      · obtain ⟨b1, b2, b3, b4⟩ := hbo hbx
        have hov := ho x.jt.toNat (by omega)
        have hov2 := ho x.jf.toNat (by omega)
        have hap := hsn ⟨x.op, (adjN a (a + n) (n - w.length) i x.jt.toNat : Nat), (adjN a (a + n) (n - w.length) i x.jf.toNat : Nat), x.k⟩ (by simp [putI, h5, hbx])
        have j1 : ((x.jt.toNat : Nat) : Int) = x.jt := by omega
        have j2 : ((x.jf.toNat : Nat) : Int) = x.jf := by omega
        simp only [In4.cs, j1, j2] at hov hov2 hap
        simp
        refine callV_of hov (by simp [trunc]) ?_
        simp [trunc]
        refine callV_of hov2 (by simp [trunc]) ?_
        simp (disch := omega) [trunc, leTn, hap, hTl2, hlt, add1', keep_cl, -Int.natCast_add]
        omega
  · have hne : i = f.length := by omega
    subst hne
    have hTe : T f.length = putL f a n w := by rw [hT, outAt_end hbd (by omega)]
    simp [hTe]
end Go.Ev
/- A filter's free pieces: splice.Pieces, hurdleref22.Pieces. -/
namespace Go.Ev
open Go Go.RowKit
variable {G : Tbl}
set_option maxRecDepth 10000
set_option maxHeartbeats 2000000
set_option linter.unusedSimpArgs false
set_option linter.unusedVariables false
abbrev Pc := Nat × Nat
def rowsV (l : List Pc) : List (List V) := l.map fun p => [.int .i64 (p.1 : Int), .int .i64 (p.2 : Int)]
@[simp] theorem rowsV_length (l : List Pc) : (rowsV l).length = l.length := by simp [rowsV]
@[simp] theorem rowsV_nil : rowsV [] = [] := rfl
@[simp] theorem rowsV_snoc (l : List Pc) (a m : Nat) : rowsV l ++ [[V.int .i64 (a : Int), .int .i64 (m : Int)]] = rowsV (l ++ [(a, m)]) := by simp [rowsV]
@[simp] theorem rowsV_get (l : List Pc) (i : Nat) : (rowsV l)[i]? = (l[i]?).map fun p => [.int .i64 (p.1 : Int), .int .i64 (p.2 : Int)] := by simp [rowsV]
@[simp] theorem rowsV_sz (l : List Pc) : (∀ f ∈ rowsV l, f.length = 2) = True := by
  simp only [eq_iff_iff, iff_true]
  intro f hf
  simp only [rowsV, List.mem_map] at hf
  obtain ⟨x, _, rfl⟩ := hf
  rfl
def rowsW (t : Tk) (l : List Pc) : List (List V) := l.map fun p => [.vs [[.int .i64 (p.1 : Int)], [.int .i64 (p.2 : Int)]] t]
@[simp] theorem rowsW_length (t : Tk) (l : List Pc) : (rowsW t l).length = l.length := by simp [rowsW]
@[simp] theorem rowsW_nil (t : Tk) : rowsW t [] = [] := rfl
@[simp] theorem rowsW_get (t : Tk) (l : List Pc) (i : Nat) : (rowsW t l)[i]? = (l[i]?).map fun p => [.vs [[.int .i64 (p.1 : Int)], [.int .i64 (p.2 : Int)]] t] := by simp [rowsW]
@[simp] theorem rowsW_sz (t : Tk) (l : List Pc) : (∀ f ∈ rowsW t l, f.length = 1) = True := by
  simp only [eq_iff_iff, iff_true]
  intro f hf
  simp only [rowsW, List.mem_map] at hf
  obtain ⟨x, _, rfl⟩ := hf
  rfl
end Go.Ev
/- The laws SpliceSound and SpliceSelf. -/
namespace Go.Ev
open Go Go.RowKit
variable {G : Tbl}
set_option maxRecDepth 10000
set_option maxHeartbeats 2000000
set_option linter.unusedSimpArgs false
set_option linter.unusedVariables false
theorem win_mem {w : List In4} (h : winB w = true) : ∀ x ∈ w, plainW x = true := by
  simp only [winB, Bool.and_eq_true, List.all_eq_true] at h
  exact h.2
theorem free_last {f : List In4} {a n : Nat} (hs : soundF f = true) (hf : freeN f a n = true) (hn : 0 < n) (hbd : a + n ≤ f.length) : a + n < f.length := by
  by_cases h : a + n < f.length
  · exact h
  · exfalso
    have hg : f[a + n - 1]? = some (f[a + n - 1]'(by omega)) := List.getElem?_eq_getElem (by omega)
    obtain ⟨_, h2, _⟩ := sound_at hs hg
    have hm : f[a + n - 1]'(by omega) ∈ (f.drop a).take n := by
      refine List.mem_of_getElem? (i := n - 1) ?_
      rw [List.getElem?_take, if_pos (by omega), List.getElem?_drop, show a + (n - 1) = a + n - 1 by omega]
      exact hg
    simp only [freeN, Bool.and_eq_true] at hf
    have hp := win_mem hf.1 _ hm
    simp only [plainW, Bool.and_eq_true] at hp
    have := h2 (goesOn_not hp.1.1).2.2
    omega
theorem no_hit {f : List In4} {a n : Nat} (hf : freeN f a n = true) {i : Nat} {x : In4} (hg : f[i]? = some x) {t : Nat} (h1 : a < t) (h2 : t < a + n) : jumpB x i t = false := by
  simp only [freeN, Bool.and_eq_true, noHit, List.all_eq_true, List.mem_range, Bool.not_eq_true'] at hf
  have := hf.2 (t - a - 1) (by omega)
  rw [show a + 1 + (t - a - 1) = t by omega, hitB, ← Bool.not_eq_true, List.any_eq_true] at this
  rw [← Bool.not_eq_true]
  intro h
  refine this ⟨i, List.mem_range.2 (List.getElem?_eq_some_iff.1 hg).1, ?_⟩
  rw [List.getD, hg]; exact h
theorem putL_len {f w : List In4} {a n : Nat} (hbd : a + n ≤ f.length) : (putL f a n w).length = f.length - n + w.length := by
  simp only [putL, List.length_append, pre_len, List.length_drop]; omega
theorem great_ok [HasL22 G] (f w : List In4) : FP G 223 [FL f, FL w] (.bool (decide (100 < f.length) || decide (100 < w.length))) := by
  refine FP_of HasL22.h_hurdlelaw22_great (Nat.le_of_ble_eq_true rfl) ?_
  by_cases h : 100 < f.length
  · have h1 : ((100 : Int) < (f.length : Int)) = True := eq_true (by omega)
    simp [FL, h, h1]
  · have h1 : ((100 : Int) < (f.length : Int)) = False := eq_false (by omega)
    have h2 : ((100 : Int) < (w.length : Int)) = (100 < w.length) := propext (by omega)
    simp [FL, h, h1, h2]
theorem okPut_at {f w : List In4} {a n : Int} (h : okPut f a n w = true) : ∃ a' n' : Nat, a = a' ∧ n = n' ∧ soundF f = true ∧ freeN f a' n' = true ∧ 0 < n' ∧ a' + n' ≤ f.length ∧ winB w = true ∧ w.length ≤ n' := by
  simp only [okPut, freeZ, freeR, inB, Bool.and_eq_true, decide_eq_true_eq] at h
  obtain ⟨⟨⟨hs, ⟨h1, h2, h3, h4⟩, hf⟩, hw⟩, hl⟩ := h
  exact ⟨a.toNat, n.toNat, by omega, by omega, hs, hf, by omega, by omega, hw, by omega⟩
end Go.Ev
/- A filter with another window, as the document has it: hurdleref22.Put. -/
namespace Go.Ev
open Go Go.RowKit
variable {G : Tbl}
set_option maxRecDepth 10000
set_option maxHeartbeats 4000000
set_option linter.unusedSimpArgs false
set_option linter.unusedVariables false
def FC (l : List In4) : List V := (IL l).flatten
theorem IL_len4 (l : List In4) : ∀ f ∈ IL l, f.length = 4 := fun f hf => by
  simp only [IL, List.mem_map] at hf
  obtain ⟨x, _, rfl⟩ := hf
  rfl
theorem FC_len (l : List In4) : (FC l).length = l.length * 4 := by rw [FC, flatten_len (IL_len4 l)]; simp [IL]
theorem FC_cons (x : In4) (l : List In4) : FC (x :: l) = x.cs ++ FC l := by simp [FC, IL]
theorem FC_pure (l : List In4) : (FC l).all V.pure = true := by
  induction l with
  | nil => rfl
  | cons x l ih => rw [FC_cons, List.all_append, ih]; rfl
theorem FC_cl (n : Nat) (l : List In4) : clL n (FC l) = FC l := by
  rw [clL_eq_map]
  have : ∀ v ∈ FC l, v.cl n = v := fun v hv => V.cl_pure n v (List.all_eq_true.1 (FC_pure l) v hv)
  exact List.map_id' _ |>.symm ▸ List.map_congr_left this |>.trans (by simp)
theorem FC_chunks : ∀ l : List In4, chunks 4 l.length (FC l) = IL l
  | [] => rfl
  | x :: l => by
    have hx : x.cs.length = 4 := rfl
    rw [List.length_cons, chunks, FC_cons, List.take_left' hx, List.drop_left' hx, FC_chunks l]
    rfl
theorem FC_set : ∀ (l : List In4) (j m : Nat) (x y : In4) (v : V), l[j]? = some x → m < 4 → y.cs = x.cs.set m v →
    (FC l).take (j * 4 + m) ++ v :: (FC l).drop (j * 4 + m + 1) = FC (l.set j y)
  | [], j, m, x, y, v, h, _, _ => by simp at h
  | z :: l, 0, m, x, y, v, h, hm, hy => by
    simp only [List.getElem?_cons_zero, Option.some.injEq] at h
    subst h
    have hz : z.cs.length = 4 := rfl
    rw [List.set_cons_zero, FC_cons, FC_cons, hy, Nat.zero_mul, Nat.zero_add, List.take_append_of_le_length (by omega), List.drop_append_of_le_length (by omega),
      List.set_eq_take_append_cons_drop, if_pos (by omega)]
    simp
  | z :: l, j + 1, m, x, y, v, h, hm, hy => by
    simp only [List.getElem?_cons_succ] at h
    have hz : z.cs.length = 4 := rfl
    have ih := FC_set l j m x y v h hm hy
    rw [List.set_cons_succ, FC_cons, FC_cons, ← ih]
    have e1 : (j + 1) * 4 + m = z.cs.length + (j * 4 + m) := by omega
    have e2 : z.cs.length + (j * 4 + m) + 1 = z.cs.length + (j * 4 + m + 1) := by omega
    rw [e1, e2, List.take_length_add_append, List.drop_length_add_append, List.append_assoc]
def gv (l : List In4) (k : Nat) : V := if l = [] then .vs [] .full else .gs k l.length
def gb (l : List In4) : Option Blk := if l = [] then none else some (.grow (FC l) 4)
def gz (l : List In4) : Option Blk := if l = [] then none else some (.zone 1)
theorem gz_cl (l : List In4) (k : Nat) : (gz l).map (Blk.cl k) = gz l := by unfold gz; split <;> rfl
theorem appA (l : List In4) (tk : Tk) (h : l.length ≤ 1000000) : appGV false 0 4 32 (.vs [] .full) (.vs (IL l) tk) [none, none, none] = some (gv l 0, [gb l, none, none]) := by
  by_cases h0 : l = []
  · subst h0; simp [appGV, gv, gb, IL]
  · have h1 : IL l ≠ [] := by rw [Ne, IL_eq_nil]; exact h0
    have h2 : l.length * 32 ≤ 140737488355328 := by omega
    have h3 := IL_len4 l
    have h4 : (IL l).length = l.length := by simp [IL]
    simp only [appGV, V.elems?, h1, h4, h2, isFree, gv, gb, h0, if_false, growR, growB, Bool.false_eq_true]
    simp [FC]
    exact h1
theorem appB (l m : List In4) (tk : Tk) (h : l.length ≤ 1000000) (h' : m.length ≤ 1000000) : appGV false 1 4 32 (gv l 0) (.vs (IL m) tk) [gb l, none, none] = some (gv (l ++ m) 1, [gz l, gb (l ++ m), none]) := by
  have h3 := IL_len4 m
  have h4 : (IL m).length = m.length := by simp [IL]
  by_cases h0 : l = []
  · subst h0
    by_cases h5 : m = []
    · subst h5; simp [appGV, gv, gb, gz, IL]
    · have h1 : IL m ≠ [] := by rw [Ne, IL_eq_nil]; exact h5
      have h2 : m.length * 32 ≤ 140737488355328 := by omega
      simp only [appGV, V.elems?, h1, h4, h2, isFree, gv, gb, gz, h5, if_false, if_true, growR, growB, Bool.false_eq_true, List.nil_append]
      simp [FC]
      exact h1
  · have h5 : l ++ m ≠ [] := by simp [h0]
    have h2 : (l.length + m.length) * 32 ≤ 140737488355328 := by omega
    simp only [appGV, V.elems?, gv, gb, gz, h0, h5, if_false, h4, growR, growB, Bool.false_eq_true]
    simp [FC_len, h2, isFree, FC, ← IL_append]
    rw [← List.length_flatten]; exact FC_len l
theorem appC (l m : List In4) (tk : Tk) (h : l.length ≤ 1000000) (h' : m.length ≤ 1000000) (hm : m ≠ []) (p : Option Blk) :
    appGV true 2 4 32 (gv l 1) (.vs (IL m) tk) [p, gb l, none] = some (.rs 2 0 (l ++ m).length 4, [p, gz l, some (.cells (FC (l ++ m)))]) := by
  have h3 := IL_len4 m
  have h4 : (IL m).length = m.length := by simp [IL]
  have h1 : IL m ≠ [] := by rw [Ne, IL_eq_nil]; exact hm
  by_cases h0 : l = []
  · subst h0
    have h2 : m.length * 32 ≤ 140737488355328 := by omega
    simp only [appGV, V.elems?, h1, h4, h2, isFree, gv, gb, gz, if_false, if_true, growR, growB, List.nil_append]
    simp [FC]
    exact h1
  · have h2 : (l.length + m.length) * 32 ≤ 140737488355328 := by omega
    simp only [appGV, V.elems?, gv, gb, gz, h0, if_false, if_true, h4, growR, growB]
    simp [FC_len, h2, isFree, FC, ← IL_append]
    rw [← List.length_flatten]; exact FC_len l
theorem placeR_ok [HasR22 G] (p a n m : Nat) (h : p ≤ 5000000000) (hn : p ≤ a ∨ n ≤ p + m) (hn2 : n ≤ 10000) (hm : m ≤ 10000) : FP G 212 [.int .i64 p, .int .i64 a, .int .i64 n, .int .i64 m] (.int .i64 (if p ≤ a then p else p + m - n : Nat)) := by
  refine FP_of HasR22.h_hurdleref22_place (Nat.le_of_ble_eq_true rfl) ?_
  by_cases h1 : p ≤ a
  · have h1' : ((p : Int) ≤ (a : Int)) = True := eq_true (by omega)
    simp [h1, h1']
  · have h1' : ((p : Int) ≤ (a : Int)) = False := eq_false (by omega)
    have e1 : subI .i64 (p : Int) (n : Int) = (p : Int) - n := by rw [subI64] <;> omega
    have e2 : addI .i64 ((p : Int) - n) (m : Int) = ((p + m - n : Nat) : Int) := by rw [addI64] <;> omega
    simp [h1, h1', e1, e2, -Int.natCast_add]
theorem PutR_no [HasR2 G] [HasR5 G] [HasR5o G] [HasR17 G] [HasR22 G] (f w : List In4) (a n : Int) (hf : f.length ≤ maxLen) (hw : w.length ≤ 1000000) (hk : ∀ x ∈ f, x.k < 4294967296) (hkw : ∀ x ∈ w, x.k < 4294967296) (h : okPut f a n w = false) :
    FP G 213 [FL f, .int .i64 a, .int .i64 n, FL w] (.tup [.vs [] .no, .int .i64 1]) := by
  refine FP_of HasR22.h_hurdleref22_Put (Nat.le_of_ble_eq_true rfl) ?_
  have hfr := FreeR_ok (G := G) f a n hf hk
  have hwr := Right17_ok (G := G) w hw hkw
  simp only [FL] at hfr hwr
  simp [FL]
  refine callP_of hfr ?_
  cases h1 : freeZ f a n
  · simp
  simp
  refine callP_of hwr ?_
  cases h2 : winB w
  · simp
  have h3 : ((n : Int) < (w.length : Int)) = True := by
    simp only [okPut, h1, h2, Bool.true_and, decide_eq_false_iff_not] at h
    exact eq_true (by omega)
  simp [h3]
def midAt (f : List In4) (a n : Nat) (w : List In4) (i : Nat) : List In4 :=
  pre f a (a + n) (n - w.length) (min i a) ++ (f.take a).drop i ++ w ++ f.drop (a + n)
theorem mid_zero (f w : List In4) (a n : Nat) : midAt f a n w 0 = f.take a ++ w ++ f.drop (a + n) := by simp [midAt, pre]
theorem mid_len {f w : List In4} {a n : Nat} (hbd : a + n ≤ f.length) (i : Nat) : (midAt f a n w i).length = f.length - n + w.length := by
  simp only [midAt, List.length_append, pre_len, List.length_drop, List.length_take]; omega
theorem mid_end {f w : List In4} {a n i : Nat} (hi : a ≤ i) : midAt f a n w i = putL f a n w := by
  have h : (f.take a).drop i = [] := List.drop_eq_nil_of_le (by rw [List.length_take]; omega)
  rw [midAt, Nat.min_eq_right hi, h, putL, List.append_nil]
theorem mid_low {f w : List In4} {a n i : Nat} {x : In4} (hi : i < a) (hg : f[i]? = some x) :
    (midAt f a n w i)[i]? = some x ∧ (midAt f a n w i).set i (putI a (a + n) (n - w.length) i x) = midAt f a n w (i + 1) := by
  have hd : (f.take a).drop i = x :: (f.take a).drop (i + 1) := by
    have hl : i < (f.take a).length := by have := (List.getElem?_eq_some_iff.1 hg).1; rw [List.length_take]; omega
    rw [List.drop_eq_getElem_cons hl, List.getElem_take, (List.getElem?_eq_some_iff.1 hg).2]
  have hp : (pre f a (a + n) (n - w.length) i).length = i := pre_len ..
  rw [midAt, midAt, Nat.min_eq_left (by omega), Nat.min_eq_left (by omega), hd, pre_succ, List.getD, hg]
  simp only [List.append_assoc, List.cons_append]
  refine ⟨?_, ?_⟩
  · rw [List.getElem?_append_right (by omega), hp, Nat.sub_self]; rfl
  · rw [List.set_append_right _ _ (by omega), hp, Nat.sub_self]
    simp
theorem mid_high {f w : List In4} {a n i : Nat} {x : In4} (hi : a + n ≤ i) (hg : f[i]? = some x) (hbd : a + n ≤ f.length) (hw : w.length ≤ n) :
    (midAt f a n w i)[i - n + w.length]? = some x := by
  have hl := (List.getElem?_eq_some_iff.1 hg).1
  rw [mid_end (by omega), putL, List.getElem?_append_right (by simp only [List.length_append, pre_len]; omega), List.getElem?_drop]
  rw [← hg]; congr 1
  simp only [List.length_append, pre_len]; omega
theorem PutR_ok [HasR2 G] [HasR5 G] [HasR5o G] [HasR17 G] [HasR22 G] (f w : List In4) (a n : Nat) (hf : f.length ≤ maxLen) (hw : w.length ≤ 1000000) (hk : ∀ x ∈ f, x.k < 4294967296) (hkw : ∀ x ∈ w, x.k < 4294967296) (h : okPut f a n w = true) :
    FP G 213 [FL f, .int .i64 a, .int .i64 n, FL w] (.tup [.vs (IL (putL f a n w)) .no, .int .i64 0]) := by
  refine FP_of HasR22.h_hurdleref22_Put (Nat.le_of_ble_eq_true rfl) ?_
  have hfr := FreeR_ok (G := G) f a n hf hk
  have hwr := Right17_ok (G := G) w hw hkw
  simp only [okPut, Bool.and_eq_true, decide_eq_true_eq] at h
  obtain ⟨⟨h1, h2⟩, h3⟩ := h
  rw [h1] at hfr
  rw [h2] at hwr
  simp only [freeZ, freeR, inB, Bool.and_eq_true, decide_eq_true_eq] at h1
  obtain ⟨hs, ⟨_, i2, i3, i4⟩, hfn⟩ := h1
  simp only [Int.toNat_natCast] at hfn
  have hlen := sound_le hs
  have hw32 : w.length ≤ 32 := by simp only [winB, Bool.and_eq_true, decide_eq_true_eq] at h2; exact h2.1
  have hbd : a + n ≤ f.length := by omega
  have h3' : ((n : Int) < (w.length : Int)) = False := eq_false (by omega)
  have aa : addI .i64 (a : Int) (n : Int) = ((a + n : Nat) : Int) := addN (by omega)
  have c1 : ((a : Int) ≤ (f.length : Int)) = True := eq_true (by omega)
  have c2 : (((a + n : Nat) : Int) ≤ (f.length : Int)) = True := eq_true (by omega)
  simp only [FL] at hfr hwr
  simp [FL]
  refine callP_of hfr ?_
  simp
  refine callP_of hwr ?_
  obtain ⟨A, hA⟩ : ∃ A, A = f.take a := ⟨_, rfl⟩
  obtain ⟨B, hB⟩ : ∃ B, B = f.drop (a + n) := ⟨_, rfl⟩
  have hlast := free_last hs hfn (by omega) hbd
  have hB0 : B ≠ [] := by intro h; have := congrArg List.length h; rw [hB, List.length_drop] at this; simp at this; omega
  have hAl : A.length = a := by rw [hA, List.length_take]; omega
  have hBl : B.length = f.length - (a + n) := by rw [hB, List.length_drop]
  have eA : (IL f).take a = IL A := by rw [IL_take, hA]
  have eB : (IL f).drop (a + n) = IL B := by rw [IL_drop, hB]
  have eB2 : List.take (f.length - (a + n)) (IL B) = IL B := by rw [List.take_of_length_le]; simp [IL, hBl]
  have p1 := appA A .no (by omega)
  have p2 := appB A w .no (by omega) hw
  have p3 := appC (A ++ w) B .full (by simp only [List.length_append]; omega) (by omega) hB0 (gz A)
  have p4 := appC (A ++ w) B .no (by simp only [List.length_append]; omega) (by omega) hB0 (gz A)
  obtain ⟨T, hT⟩ : ∃ T : Nat → List In4, ∀ j, T j = midAt f a n w j := ⟨_, fun _ => rfl⟩
  have hT0 : A ++ w ++ B = T 0 := by rw [hT, mid_zero, hA, hB]
  have hTl : ∀ j, (T j).length = f.length - n + w.length := fun j => by rw [hT, mid_len hbd]
  rw [hT0] at p3 p4
  simp [h3', aa, c1, c2, eA, p1, p2, eB, eB2, p3, p4, keep_cl, -Int.natCast_add]
  have g0 := gz_cl A
  have g1 := gz_cl (A ++ w)
  generalize gz A = q0 at *
  generalize gz (A ++ w) = q1 at *
  refine W_up f.length (fun i => [(0, FL f), (1, .int .i64 a), (2, .int .i64 n), (3, FL w), (10, .rs 2 0 (f.length - n + w.length) 4), (11, .int .i64 i)]) (fun i => [q0, q1, some (.cells (FC (T i)))]) (fun _ => True) ?_ ?_
  · simp [keep_cl, trunc, FL, hTl, g0, g1, FC_cl]
  intro i hi _
  by_cases hlt : i < f.length
  · obtain ⟨x, hfx⟩ : ∃ x, x = f[i] := ⟨_, rfl⟩
    have hgg := FL_get hlt
    rw [← hfx] at hgg
    have hfx := hfx.symm
    have hg : f[i]? = some x := by rw [List.getElem?_eq_getElem hlt, hfx]
    have hxm : x ∈ f := hfx ▸ List.getElem_mem hlt
    have hkk := hk x hxm
    have hbo := sound_br hs hg
    have hcs : x.cs = [.int .i64 x.op, .int .i64 x.jt, .int .i64 x.jf, .int .u32 (x.k : Int)] := rfl
    have hbr := BranchR_ok (G := G) x
    simp [IV, hcs] at hbr
    by_cases hmid : a ≤ i ∧ i < a + n
    · have hTe : T (i + 1) = T i := by rw [hT, hT, mid_end (by omega), mid_end (by omega)]
      have hE : ((i : Int) < ((a + n : Nat) : Int)) = True := eq_true (by omega)
      have hG : ((a : Int) ≤ (i : Int)) = True := eq_true (by omega)
      simp (disch := omega) [ltT, FL, aa, hE, hG, hTe, hlt, add1', keep_cl, trunc, g0, g1, FC_cl, -Int.natCast_add]
    -- where the instruction is now
    obtain ⟨now, hnow⟩ : ∃ now, now = if i < a then i else i - n + w.length := ⟨_, rfl⟩
    have hput : (T i)[now]? = some x ∧ (T i).set now (putI a (a + n) (n - w.length) i x) = T (i + 1) := by
      rw [hT, hT]
      by_cases hia : i < a
      · rw [hnow, if_pos hia]; exact mid_low hia hg
      · rw [hnow, if_neg hia]
        have h1 := mid_high (w := w) (show a + n ≤ i by omega) hg hbd (by omega)
        refine ⟨h1, ?_⟩
        have hadj : ∀ d, adjN a (a + n) (n - w.length) i d = d := fun d => by rw [adjN, if_neg (by omega)]
        have hpx : putI a (a + n) (n - w.length) i x = x := by
          unfold putI
          simp only [hadj]
          obtain ⟨op, jt, jf, k⟩ := x
          by_cases h5 : op = 5
          · simp [h5]
          · cases hbx : isBr op
            · simp [h5]
            · obtain ⟨b1, b2, b3, b4⟩ := hbo hbx
              simp only at b1 b2 b3 b4
              simp [h5]; omega
        rw [hpx]
        rw [mid_end (i := i + 1) (by omega), ← mid_end (i := i) (f := f) (w := w) (a := a) (n := n) (by omega)]
        obtain ⟨h2, h3⟩ := List.getElem?_eq_some_iff.1 h1
        rw [← h3]; exact List.set_getElem_self h2
    obtain ⟨hTx, hTs⟩ := hput
    have hnl : now < f.length - n + w.length := by rw [← hTl i]; exact (List.getElem?_eq_some_iff.1 hTx).1
    -- where a jump leads now
    have hno : ∀ k : Nat, jumpB x i (i + 1 + k) = true → i + 1 + k ≤ a ∨ a + n ≤ i + 1 + k := by
      intro k hj
      by_cases h : a < i + 1 + k ∧ i + 1 + k < a + n
      · have := no_hit hfn hg h.1 h.2
        rw [hj] at this; cases this
      · omega
    have hto : ∀ k : Nat, jumpB x i (i + 1 + k) = true → ((if i + 1 + k ≤ a then i + 1 + k else i + 1 + k + w.length - n : Nat) : Int) - now - 1 = ((adjN a (a + n) (n - w.length) i k : Nat) : Int) := by
      intro k hj
      have hno := hno k hj
      unfold adjN
      by_cases hia : i < a
      · rw [if_pos hia] at hnow
        by_cases h1 : i + 1 + k ≤ a
        · rw [if_pos h1, if_neg (by omega)]; omega
        · rw [if_neg h1, if_pos (by omega)]; omega
      · rw [if_neg hia] at hnow
        rw [if_neg (by omega), if_neg (by omega)]; omega
    have hadl : ∀ d : Nat, adjN a (a + n) (n - w.length) i d ≤ d := fun d => by unfold adjN; split <;> omega
    have n1 : subI .i64 (i : Int) (n : Int) = (i : Int) - n := by rw [subI64] <;> omega
    have n2 : addI .i64 ((i : Int) - n) (w.length : Int) = (i : Int) - n + w.length := by rw [addI64] <;> omega
    have a1 : addI .i64 (i : Int) 1 = ((i + 1 : Nat) : Int) := add1' (by omega)
    have hE : a ≤ i → ((i : Int) < ((a + n : Nat) : Int)) = False := fun h => eq_false (by omega)
    by_cases hia : i < a
    · rw [if_pos hia] at hnow
      obtain rfl : i = now := hnow.symm
      have hG : ((a : Int) ≤ (i : Int)) = False := eq_false (by omega)
      have hG2 : ((a : Int) < (i : Int)) = False := eq_false (by omega)
      have hG3 : (a ≤ i) = False := eq_false (by omega)
      have hG4 : (a < i) = False := eq_false (by omega)
      simp (disch := omega) [ltT, FL, hG, hG2, hG3, hG4, hgg, hfx, hcs, keep_cl, trunc, g0, g1, FC_cl, -Int.natCast_add]

      have hroom : ∀ m : Nat, m < 4 → (i * 4 + m + 1 ≤ (f.length - n + w.length) * 4) = True := fun m hm => eq_true (by omega)
      have r1 := hroom 1 (by omega)
      have r2 := hroom 2 (by omega)
      have r3 := hroom 3 (by omega)
      by_cases h5 : x.op = 5
      · have b5 : (x.op == 5) = true := by simp [h5]
        have hnb : isBr x.op = false := by rw [h5]; decide
        have hc := convI64 x.k hkk
        have hjb : jumpB x i (i + 1 + x.k) = true := by simp [jumpB, h5]
        have hpl := placeR_ok (G := G) (i + 1 + x.k) a n w.length (by omega) (by have := hno x.k hjb; omega) (by omega) (by omega)
        have hj := hto x.k hjb
        generalize (if i + 1 + x.k ≤ a then i + 1 + x.k else i + 1 + x.k + w.length - n) = pl at hpl hj
        have a2 : addI .i64 ((i + 1 : Nat) : Int) (x.k : Int) = ((i + 1 + x.k : Nat) : Int) := addN (by omega)
        have hkl := hadl x.k
        have s1 : subI .i64 (pl : Int) (i : Int) = (pl : Int) - i := by rw [subI64] <;> omega
        have s2 : subI .i64 ((pl : Int) - i) 1 = ((adjN a (a + n) (n - w.length) i x.k : Nat) : Int) := by rw [subI64] <;> omega
        have hc2 : convI .u32 ((adjN a (a + n) (n - w.length) i x.k : Nat) : Int) = ((adjN a (a + n) (n - w.length) i x.k : Nat) : Int) := by unfold convI; exact wrap_nat32 (by omega)
        have hst := FC_set (T i) i 3 x (putI a (a + n) (n - w.length) i x) (.int .u32 ((adjN a (a + n) (n - w.length) i x.k : Nat) : Int)) hTx (by omega) (by simp [putI, h5, In4.cs])
        rw [hTs] at hst
        rw [hnb] at hbr
        simp (disch := omega) [b5, hc, a1, a2, -Int.natCast_add]
        refine callP_of hpl ?_
        simp (disch := omega) [s1, s2, hc2, ltT, FC_len, hTl, hst, r3, hlt, add1', keep_cl, trunc, g0, g1, FC_cl, -Int.natCast_add]
        refine callP_of hbr ?_
        simp (disch := omega) [hlt, add1', keep_cl, trunc, g0, g1, FC_cl, -Int.natCast_add]
      have b5 : (x.op == 5) = false := beqF h5
      simp [b5]
      refine callP_of hbr ?_
      cases hbx : isBr x.op with
      | false =>
        have hpx : putI a (a + n) (n - w.length) i x = x := by simp [putI, h5, hbx]
        have hTe : T (i + 1) = T i := by
          rw [← hTs, hpx]
          obtain ⟨h2, h3⟩ := List.getElem?_eq_some_iff.1 hTx
          rw [← h3]; exact List.set_getElem_self h2
        simp (disch := omega) [hTe, hlt, add1', keep_cl, trunc, g0, g1, FC_cl, -Int.natCast_add]
      | true =>
        obtain ⟨b1, b2, b3, b4⟩ := hbo hbx
        have j1 : ((x.jt.toNat : Nat) : Int) = x.jt := by omega
        have j2 : ((x.jf.toNat : Nat) : Int) = x.jf := by omega
        have hjb : jumpB x i (i + 1 + x.jt.toNat) = true := by simp [jumpB, h5, hbx]
        have hjb2 : jumpB x i (i + 1 + x.jf.toNat) = true := by simp [jumpB, h5, hbx]
        have hpl := placeR_ok (G := G) (i + 1 + x.jt.toNat) a n w.length (by omega) (by have := hno _ hjb; omega) (by omega) (by omega)
        have hpl2 := placeR_ok (G := G) (i + 1 + x.jf.toNat) a n w.length (by omega) (by have := hno _ hjb2; omega) (by omega) (by omega)
        have hj := hto _ hjb
        have hj2 := hto _ hjb2
        generalize (if i + 1 + x.jt.toNat ≤ a then i + 1 + x.jt.toNat else i + 1 + x.jt.toNat + w.length - n) = pl at hpl hj
        generalize (if i + 1 + x.jf.toNat ≤ a then i + 1 + x.jf.toNat else i + 1 + x.jf.toNat + w.length - n) = pl2 at hpl2 hj2
        have hkl := hadl x.jt.toNat
        have hkl2 := hadl x.jf.toNat
        have a2 : addI .i64 ((i + 1 : Nat) : Int) x.jt = ((i + 1 + x.jt.toNat : Nat) : Int) := by rw [addI64] <;> omega
        have a3 : addI .i64 ((i + 1 : Nat) : Int) x.jf = ((i + 1 + x.jf.toNat : Nat) : Int) := by rw [addI64] <;> omega
        have s1 : subI .i64 (pl : Int) (i : Int) = (pl : Int) - i := by rw [subI64] <;> omega
        have s2 : subI .i64 ((pl : Int) - i) 1 = ((adjN a (a + n) (n - w.length) i x.jt.toNat : Nat) : Int) := by rw [subI64] <;> omega
        have s3 : subI .i64 (pl2 : Int) (i : Int) = (pl2 : Int) - i := by rw [subI64] <;> omega
        have s4 : subI .i64 ((pl2 : Int) - i) 1 = ((adjN a (a + n) (n - w.length) i x.jf.toNat : Nat) : Int) := by rw [subI64] <;> omega
        obtain ⟨y, hy⟩ : ∃ y : In4, y = { x with jt := (adjN a (a + n) (n - w.length) i x.jt.toNat : Nat) } := ⟨_, rfl⟩
        have hst := FC_set (T i) i 1 x y (.int .i64 ((adjN a (a + n) (n - w.length) i x.jt.toNat : Nat) : Int)) hTx (by omega) (by simp [hy, In4.cs])
        have hTy : ((T i).set i y)[i]? = some y := List.getElem?_set_self (by rw [hTl]; exact hnl)
        have hst2 := FC_set ((T i).set i y) i 2 y (putI a (a + n) (n - w.length) i x) (.int .i64 ((adjN a (a + n) (n - w.length) i x.jf.toNat : Nat) : Int)) hTy (by omega) (by simp [hy, putI, h5, hbx, In4.cs])
        rw [List.set_set, hTs] at hst2
        simp (disch := omega) [a1, a2, -Int.natCast_add]
        refine callP_of hpl ?_
        simp (disch := omega) [s1, s2, ltT, FC_len, hTl, hst, r1, a1, a3, keep_cl, trunc, g0, g1, FC_cl, -Int.natCast_add]
        refine callP_of hpl2 ?_
        simp (disch := omega) [s3, s4, ltT, FC_len, hTl, hst2, r2, hlt, add1', keep_cl, trunc, g0, g1, FC_cl, -Int.natCast_add]

    · have hG : ((a : Int) ≤ (i : Int)) = True := eq_true (by omega)
      have hG2 : ((a : Int) < (i : Int)) = True := eq_true (by omega)
      have hE := hE (by omega)
      have n2 : addI .i64 ((i : Int) - n) (w.length : Int) = (now : Int) := by rw [n2, hnow, if_neg hia]; omega
      simp (disch := omega) [ltT, FL, aa, hE, hG, hG2, hgg, hfx, hcs, n1, n2, keep_cl, trunc, g0, g1, FC_cl, -Int.natCast_add]

      have hroom : ∀ m : Nat, m < 4 → (now * 4 + m + 1 ≤ (f.length - n + w.length) * 4) = True := fun m hm => eq_true (by omega)
      have r1 := hroom 1 (by omega)
      have r2 := hroom 2 (by omega)
      have r3 := hroom 3 (by omega)
      by_cases h5 : x.op = 5
      · have b5 : (x.op == 5) = true := by simp [h5]
        have hnb : isBr x.op = false := by rw [h5]; decide
        have hc := convI64 x.k hkk
        have hjb : jumpB x i (i + 1 + x.k) = true := by simp [jumpB, h5]
        have hpl := placeR_ok (G := G) (i + 1 + x.k) a n w.length (by omega) (by have := hno x.k hjb; omega) (by omega) (by omega)
        have hj := hto x.k hjb
        generalize (if i + 1 + x.k ≤ a then i + 1 + x.k else i + 1 + x.k + w.length - n) = pl at hpl hj
        have a2 : addI .i64 ((i + 1 : Nat) : Int) (x.k : Int) = ((i + 1 + x.k : Nat) : Int) := addN (by omega)
        have hkl := hadl x.k
        have s1 : subI .i64 (pl : Int) (now : Int) = (pl : Int) - now := by rw [subI64] <;> omega
        have s2 : subI .i64 ((pl : Int) - now) 1 = ((adjN a (a + n) (n - w.length) i x.k : Nat) : Int) := by rw [subI64] <;> omega
        have hc2 : convI .u32 ((adjN a (a + n) (n - w.length) i x.k : Nat) : Int) = ((adjN a (a + n) (n - w.length) i x.k : Nat) : Int) := by unfold convI; exact wrap_nat32 (by omega)
        have hst := FC_set (T i) now 3 x (putI a (a + n) (n - w.length) i x) (.int .u32 ((adjN a (a + n) (n - w.length) i x.k : Nat) : Int)) hTx (by omega) (by simp [putI, h5, In4.cs])
        rw [hTs] at hst
        rw [hnb] at hbr
        simp (disch := omega) [b5, hc, a1, a2, -Int.natCast_add]
        refine callP_of hpl ?_
        simp (disch := omega) [s1, s2, hc2, ltT, FC_len, hTl, hst, r3, hlt, add1', keep_cl, trunc, g0, g1, FC_cl, -Int.natCast_add]
        refine callP_of hbr ?_
        simp (disch := omega) [hlt, add1', keep_cl, trunc, g0, g1, FC_cl, -Int.natCast_add]
      have b5 : (x.op == 5) = false := beqF h5
      simp [b5]
      refine callP_of hbr ?_
      cases hbx : isBr x.op with
      | false =>
        have hpx : putI a (a + n) (n - w.length) i x = x := by simp [putI, h5, hbx]
        have hTe : T (i + 1) = T i := by
          rw [← hTs, hpx]
          obtain ⟨h2, h3⟩ := List.getElem?_eq_some_iff.1 hTx
          rw [← h3]; exact List.set_getElem_self h2
        simp (disch := omega) [hTe, hlt, add1', keep_cl, trunc, g0, g1, FC_cl, -Int.natCast_add]
      | true =>
        obtain ⟨b1, b2, b3, b4⟩ := hbo hbx
        have j1 : ((x.jt.toNat : Nat) : Int) = x.jt := by omega
        have j2 : ((x.jf.toNat : Nat) : Int) = x.jf := by omega
        have hjb : jumpB x i (i + 1 + x.jt.toNat) = true := by simp [jumpB, h5, hbx]
        have hjb2 : jumpB x i (i + 1 + x.jf.toNat) = true := by simp [jumpB, h5, hbx]
        have hpl := placeR_ok (G := G) (i + 1 + x.jt.toNat) a n w.length (by omega) (by have := hno _ hjb; omega) (by omega) (by omega)
        have hpl2 := placeR_ok (G := G) (i + 1 + x.jf.toNat) a n w.length (by omega) (by have := hno _ hjb2; omega) (by omega) (by omega)
        have hj := hto _ hjb
        have hj2 := hto _ hjb2
        generalize (if i + 1 + x.jt.toNat ≤ a then i + 1 + x.jt.toNat else i + 1 + x.jt.toNat + w.length - n) = pl at hpl hj
        generalize (if i + 1 + x.jf.toNat ≤ a then i + 1 + x.jf.toNat else i + 1 + x.jf.toNat + w.length - n) = pl2 at hpl2 hj2
        have hkl := hadl x.jt.toNat
        have hkl2 := hadl x.jf.toNat
        have a2 : addI .i64 ((i + 1 : Nat) : Int) x.jt = ((i + 1 + x.jt.toNat : Nat) : Int) := by rw [addI64] <;> omega
        have a3 : addI .i64 ((i + 1 : Nat) : Int) x.jf = ((i + 1 + x.jf.toNat : Nat) : Int) := by rw [addI64] <;> omega
        have s1 : subI .i64 (pl : Int) (now : Int) = (pl : Int) - now := by rw [subI64] <;> omega
        have s2 : subI .i64 ((pl : Int) - now) 1 = ((adjN a (a + n) (n - w.length) i x.jt.toNat : Nat) : Int) := by rw [subI64] <;> omega
        have s3 : subI .i64 (pl2 : Int) (now : Int) = (pl2 : Int) - now := by rw [subI64] <;> omega
        have s4 : subI .i64 ((pl2 : Int) - now) 1 = ((adjN a (a + n) (n - w.length) i x.jf.toNat : Nat) : Int) := by rw [subI64] <;> omega
        obtain ⟨y, hy⟩ : ∃ y : In4, y = { x with jt := (adjN a (a + n) (n - w.length) i x.jt.toNat : Nat) } := ⟨_, rfl⟩
        have hst := FC_set (T i) now 1 x y (.int .i64 ((adjN a (a + n) (n - w.length) i x.jt.toNat : Nat) : Int)) hTx (by omega) (by simp [hy, In4.cs])
        have hTy : ((T i).set now y)[now]? = some y := List.getElem?_set_self (by rw [hTl]; exact hnl)
        have hst2 := FC_set ((T i).set now y) now 2 y (putI a (a + n) (n - w.length) i x) (.int .i64 ((adjN a (a + n) (n - w.length) i x.jf.toNat : Nat) : Int)) hTy (by omega) (by simp [hy, putI, h5, hbx, In4.cs])
        rw [List.set_set, hTs] at hst2
        simp (disch := omega) [a1, a2, -Int.natCast_add]
        refine callP_of hpl ?_
        simp (disch := omega) [s1, s2, ltT, FC_len, hTl, hst, r1, a1, a3, keep_cl, trunc, g0, g1, FC_cl, -Int.natCast_add]
        refine callP_of hpl2 ?_
        simp (disch := omega) [s3, s4, ltT, FC_len, hTl, hst2, r2, hlt, add1', keep_cl, trunc, g0, g1, FC_cl, -Int.natCast_add]

  · have hne : i = f.length := by omega
    subst hne
    have hTe : T f.length = putL f a n w := by rw [hT, mid_end (by omega)]
    have hch := FC_chunks (putL f a n w)
    rw [putL_len hbd] at hch
    simp [hTe, FL, FC_len, FC_pure, putL_len hbd, hch]
end Go.Ev
/- The law SplicePuts. -/
namespace Go.Ev
open Go Go.RowKit
variable {G : Tbl}
set_option maxRecDepth 10000
set_option maxHeartbeats 2000000
set_option linter.unusedSimpArgs false
set_option linter.unusedVariables false
theorem SplicePuts_ok [HasIns G] [HasCheck G] [HasWRight G] [HasSpl G] [HasR2 G] [HasR3 G] [HasR5 G] [HasR5o G] [HasR17 G] [HasR22 G] [HasL22 G] (hkn : FP G 224 [] (.bool true)) (f w : List In4) (a n : Int) (hf : f.length ≤ maxLen) (hw : w.length ≤ maxLen) (hk : ∀ x ∈ f, x.k < 4294967296) (hkw : ∀ x ∈ w, x.k < 4294967296) :
    FP G 225 [FL f, .int .i64 a, .int .i64 n, FL w] (.bool true) := by
  refine FP_of HasL22.h_hurdlelaw22_SplicePuts (Nat.le_of_ble_eq_true rfl) ?_
  have hgr := great_ok (G := G) f w
  simp
  refine callP_of hgr ?_
  by_cases hb : 100 < f.length ∨ 100 < w.length
  · have : (decide (100 < f.length) || decide (100 < w.length)) = true := by simpa using hb
    rw [this]
    simp
    refine callP_of hkn ?_
    simp
  have : (decide (100 < f.length) || decide (100 < w.length)) = false := by simp at hb ⊢; exact hb
  rw [this]
  have hfr := Free_ok (G := G) f a n hf hk
  have hfR := FreeR_ok (G := G) f a n hf hk
  generalize freeZ f a n = z at hfr hfR
  have hz : (z == z) = true := by simp
  simp only [FL] at hfr hfR
  cases hp : okPut f a n w
  · have hs := Same03_ok (G := G) [] [] (by simp)
    have p1 := Put_no (G := G) f w a n hf hw hk hkw hp
    have p2 := PutR_no (G := G) f w a n hf (by omega) hk hkw hp
    simp only [FL, IL, List.map_nil, decide_true] at hs p1 p2
    simp [FL]
    refine callP_of p1 ?_
    simp
    refine callP_of p2 ?_
    simp
    refine callP_of hfr ?_
    simp
    refine callP_of hfR ?_
    simp [IL]
    refine callP_of hs ?_
    simp
    refine callP_of hkn ?_
    simp
  · obtain ⟨a, n, rfl, rfl, hs, hfn, hn, hbd, hwb, hwn⟩ := okPut_at hp
    have hL := putL_len (w := w) hbd
    have hs := Same03_ok (G := G) (putL f a n w) (putL f a n w) (by omega)
    have p1 := Put_ok (G := G) f w a n hf hw hk hkw hp
    have p2 := PutR_ok (G := G) f w a n hf (by omega) hk hkw hp
    simp only [FL, decide_true] at hs p1 p2
    simp [FL]
    refine callP_of p1 ?_
    simp
    refine callP_of p2 ?_
    simp
    refine callP_of hfr ?_
    simp
    refine callP_of hfR ?_
    simp
    refine callP_of hs ?_
    simp
    refine callP_of hkn ?_
    simp
end Go.Ev
