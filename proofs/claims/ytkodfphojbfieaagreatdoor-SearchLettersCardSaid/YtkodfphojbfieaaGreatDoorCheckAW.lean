/- Which filters are sound: check. -/
import Derived.Test.YtkodfphojbfieaaGreatDoorEvXW
import Derived.Test.YtkodfphojbfieaaGreatDoorEvBitsCW
import Derived.Test.YtkodfphojbfieaaGreatDoorEvWinCW
import Derived.Test.YtkodfphojbfieaaGreatDoorSymGW
import Derived.Test.YtkodfphojbfieaaGreatDoorRunAW
set_option linter.unusedVariables false
set_option linter.unusedSimpArgs false
namespace Go.Ev
open Go Go.RowKit
variable {G : Tbl}
set_option maxRecDepth 10000
set_option maxHeartbeats 2000000
set_option linter.unusedSimpArgs false
set_option linter.unusedVariables false
def ruleB (x : In4) : Bool :=
 if x.op = 32 then decide (x.k % 4 = 0 ∧ x.k < 64) else if x.op = 52 then decide (x.k ≠ 0) else if x.op = 2 ∨ x.op = 3 ∨ x.op = 96 ∨ x.op = 97 then decide (x.k < 16) else if x.op = 100 ∨ x.op = 116 then decide (x.k < 32) else true
def oneB (x : In4) (left : Nat) : Bool := rightI x && ruleB x && (if x.op = 5 then decide (x.k < left) else true) && (if isBr x.op then decide (x.jt < left ∧ x.jf < left) else true)
def okAll : List In4 → Bool
 | [] => true
 | x :: f => oneB x f.length && okAll f
def endB (f : List In4) : Bool := match f.getLast? with | some x => isEnd x.op | none => false
def soundF (f : List In4) : Bool := decide (f.length ≤ 4096) && okAll f && endB f
def rents : List (V × V) := [(.int .i64 32, .fn 152 [.ptr 0 0]), (.int .i64 52, .fn 153 [.ptr 0 0]), (.int .i64 2, .fn 150 [.ptr 0 0]), (.int .i64 3, .fn 150 [.ptr 0 0]), (.int .i64 96, .fn 150 [.ptr 0 0]), (.int .i64 97, .fn 150 [.ptr 0 0]),
 (.int .i64 100, .fn 151 [.ptr 0 0]), (.int .i64 116, .fn 151 [.ptr 0 0])]
theorem rules_ok [HasCheck G] : Big G (.F 154 [] [] (.mp 1) [some (.cells [.fn 149 []]), some (.map rents)]) := by
 refine F_of HasCheck.h_check_rules (Nat.le_of_ble_eq_true rfl) ?_
 simp [rents]
theorem if1_ok [HasCheck G] (H : Heap) (b : Bool) (n : Int) : Big G (.F 149 [.bool b, .int .i64 n] H (.int .i64 (if b then 0 else n)) H) := by
 refine F_of HasCheck.h_check_rules_1 (Nat.le_of_ble_eq_true rfl) ?_
 cases b <;> simp
def RH (x : In4) : Heap := [some (.cells [.fn 149 []]), some (.map rents), some (.cells x.cs)]
theorem rents_cl (n : Nat) (h : 0 < n) : rents.map (fun p => (p.1.cl n, p.2.cl n)) = rents := by simp [rents, h]
theorem rule_any {f : Nat} [HasCheck G] (x : In4) (e : Int) (h : f = 150 ∧ e = (if decide (x.k < 16) then 0 else 7) ∨ f = 151 ∧ e = (if decide (x.k < 32) then 0 else 1) ∨ f = 152 ∧ e = (if decide (x.k % 4 = 0 ∧ x.k < 64) then 0 else 6) ∨ f = 153 ∧ e = (if decide (x.k ≠ 0) then 0 else 8)) :
  Big G (.F f [IV x, .ptr 0 0] (RH x) (.int .i64 e) (RH x ++ [some (.cells x.cs)])) := by
 have hr : remI (x.k : Int) 4 = ((x.k % 4 : Nat) : Int) := rem64 (b := 4)
 have l16 : ((x.k : Int) < 16) = (x.k < 16) := propext (by omega)
 have l32 : ((x.k : Int) < 32) = (x.k < 32) := propext (by omega)
 have l64 : ((x.k : Int) < 64) = (x.k < 64) := propext (by omega)
 have ne : ((x.k : Int) != 0) = decide (x.k ≠ 0) := by rw [Bool.eq_iff_iff]; simp
 rcases h with ⟨rfl, rfl⟩ | ⟨rfl, rfl⟩ | ⟨rfl, rfl⟩ | ⟨rfl, rfl⟩
 ·refine F_of HasCheck.h_check_rules_2 (Nat.le_of_ble_eq_true rfl) ?_
  simp [IV, In4.cs, RH, l16]
  refine callV_of (if1_ok _ _ _) (by simp) ?_
  simp [trunc, rents_cl]
 ·refine F_of HasCheck.h_check_rules_3 (Nat.le_of_ble_eq_true rfl) ?_
  simp [IV, In4.cs, RH, l32]
  refine callV_of (if1_ok _ _ _) (by simp) ?_
  simp [trunc, rents_cl]
 ·refine F_of HasCheck.h_check_rules_4 (Nat.le_of_ble_eq_true rfl) ?_
  by_cases h4 : x.k % 4 = 0
  ·simp [IV, In4.cs, RH, hr, h4, l64]
   refine callV_of (if1_ok _ _ _) (by simp) ?_
   simp [trunc, rents_cl]
  ·have : ((x.k % 4 : Nat) : Int) ≠ 0 := by omega
   simp [IV, In4.cs, RH, hr, h4, beqF this, -Int.natCast_emod]
   refine callV_of (if1_ok _ _ _) (by simp) ?_
   simp [trunc, rents_cl]
 ·refine F_of HasCheck.h_check_rules_5 (Nat.le_of_ble_eq_true rfl) ?_
  simp [IV, In4.cs, RH, ne]
  refine callV_of (if1_ok _ _ _) (by simp) ?_
  simp [trunc, rents_cl]
def waysL (x : In4) (at' : Nat) : List Int := if isEnd x.op then [] else if x.op = 5 then [((at' + 1 + x.k : Nat) : Int)] else if isBr x.op then [(at' : Int) + 1 + min x.jt x.jf, (at' : Int) + 1 + max x.jt x.jf] else [((at' + 1 : Nat) : Int)]
def In4.brOk (x : In4) : Prop := isBr x.op = true → 0 ≤ x.jt ∧ x.jt ≤ 255 ∧ 0 ≤ x.jf ∧ x.jf ≤ 255
theorem right_br {x : In4} (h : rightI x = true) : x.brOk := by
 intro hb
 unfold rightI at h
 split at h
 ·rename_i r hr
  have key : ∀ r ∈ shapeRows, isBr r.1 = r.2.2.2 := by decide
  obtain ⟨h1, h2⟩ := shape_some hr
  have := key r h2
  rw [h1, hb] at this
  simp only [← this, if_true, Bool.and_eq_true, decide_eq_true_eq] at h
  exact h.2
 ·cases h
theorem convI64 (n : Nat) (h : n < 4294967296) : convI .i64 (n : Int) = (n : Int) := by unfold convI; exact IntWalk.i64_in _ ⟨by omega, by omega⟩
theorem ways_ok [HasIns G] [HasCheck G] (x : In4) (at' : Nat) (hx : x.k < 4294967296) (hb : x.brOk) (ha : at' ≤ 5000) : FP G 155 [IV x, .int .i64 at'] (.vs (ints .i64 (waysL x at')) .no) := by
 refine FP_of HasCheck.h_check_ways (Nat.le_of_ble_eq_true rfl) ?_
 have he := Ends_ok (G := G) x
 have hbr := Branch_ok (G := G) x
 have a1 : addI .i64 (at' : Int) 1 = ((at' + 1 : Nat) : Int) := add1' (by omega)
 simp [IV, In4.cs, a1, -Int.natCast_add] at he hbr ⊢
 refine callP_of he ?_
 cases h1 : isEnd x.op
 ·have n6 : isEnd x.op = false := h1
  simp
  by_cases h5 : x.op = 5
  ·have a2 : addI .i64 ((at' + 1 : Nat) : Int) (x.k : Int) = ((at' + 1 + x.k : Nat) : Int) := addN (by omega)
   have a2' : addI .i64 ((at' : Int) + 1) (x.k : Int) = ((at' + 1 + x.k : Nat) : Int) := by rw [← addN (a := at' + 1) (b := x.k) (by omega)]; rfl
   have h15 : isEnd 5 = false := by decide
   simp [h5, h15, convI64 x.k hx, a2, a2', waysL, ints, -Int.natCast_add]
  ·simp [h5, beqF]
   refine callP_of hbr ?_
   cases h2 : isBr x.op
   ·simp [waysL, h1, h5, h2, ints]
   ·obtain ⟨b1, b2, b3, b4⟩ := hb h2
    have mn : (if x.jf < x.jt then x.jf else x.jt) = min x.jt x.jf := by omega
    have mx : (if x.jf > x.jt then x.jf else x.jt) = max x.jt x.jf := by omega
    have a3 : addI .i64 ((at' + 1 : Nat) : Int) (min x.jt x.jf) = (at' : Int) + 1 + min x.jt x.jf := by rw [addI64] <;> omega
    have a4 : addI .i64 ((at' + 1 : Nat) : Int) (max x.jt x.jf) = (at' : Int) + 1 + max x.jt x.jf := by rw [addI64] <;> omega
    have mx' : (if x.jt < x.jf then x.jf else x.jt) = max x.jt x.jf := by omega
    have mn' : (if x.jt > x.jf then x.jf else x.jt) = min x.jt x.jf := by omega
    have mn2 : (if x.jt ≤ x.jf then x.jt else x.jf) = min x.jt x.jf := by omega
    have a5 : addI .i64 ((at' : Int) + 1) (min x.jt x.jf) = (at' : Int) + 1 + min x.jt x.jf := by rw [addI64] <;> omega
    have a6 : addI .i64 ((at' : Int) + 1) (max x.jt x.jf) = (at' : Int) + 1 + max x.jt x.jf := by rw [addI64] <;> omega
    simp [mn, mx, mx', mn', a3, a4, a5, a6, waysL, h1, h5, h2, ints, -Int.natCast_add]
 ·simp [waysL, h1]
def rpos (op : Int) : Option (Nat × Nat) :=
 if op = 32 then some (0, 152) else if op = 52 then some (1, 153) else if op = 2 then some (2, 150) else if op = 3 then some (3, 150) else if op = 96 then some (4, 150) else if op = 97 then some (5, 150) else
 if op = 100 then some (6, 151) else if op = 116 then some (7, 151) else none
theorem rents_find (op : Int) : mfind (.sc .int) (.int .i64 op) rents 0 = some ((rpos op).map fun p => (p.1, .fn p.2 [.ptr 0 0])) := by
 unfold rpos rents
 by_cases h1 : op = 32; · subst h1; rfl
 by_cases h2 : op = 52; · subst h2; rfl
 by_cases h3 : op = 2; · subst h3; rfl
 by_cases h4 : op = 3; · subst h4; rfl
 by_cases h5 : op = 96; · subst h5; rfl
 by_cases h6 : op = 97; · subst h6; rfl
 by_cases h7 : op = 100; · subst h7; rfl
 by_cases h8 : op = 116; · subst h8; rfl
 simp [mfind, keyEq, eqk, h1, h2, h3, h4, h5, h6, h7, h8, beqF]
theorem rule_ok [HasCheck G] (x : In4) {i f : Nat} (h : rpos x.op = some (i, f)) : ∃ e : Int, Big G (.F f [IV x, .ptr 0 0] (RH x) (.int .i64 e) (RH x ++ [some (.cells x.cs)])) ∧ (e = 0 ↔ ruleB x = true) := by
 unfold rpos at h
 have r4 (a : Bool) (n : Int) (hn : n ≠ 0) : ((if a = true then 0 else n) = 0 ↔ a = true) := by cases a <;> simp [hn]
 unfold ruleB
 split at h
 ·rename_i h1; cases h; exact ⟨_, rule_any x _ (.inr (.inr (.inl ⟨rfl, rfl⟩))), by rw [r4 _ _ (by decide), if_pos h1]⟩
 split at h
 ·rename_i h0 h1; cases h; exact ⟨_, rule_any x _ (.inr (.inr (.inr ⟨rfl, rfl⟩))), by rw [r4 _ _ (by decide), if_neg h0, if_pos h1]⟩
 have two : ¬ x.op = 32 → ¬ x.op = 52 → x.op = 2 ∨ x.op = 3 ∨ x.op = 96 ∨ x.op = 97 → some (i, f) = some (i, 150) → ∃ e : Int, Big G (.F f [IV x, .ptr 0 0] (RH x) (.int .i64 e) (RH x ++ [some (.cells x.cs)])) ∧
   (e = 0 ↔ (if x.op = 32 then decide (x.k % 4 = 0 ∧ x.k < 64) else if x.op = 52 then decide (x.k ≠ 0) else if x.op = 2 ∨ x.op = 3 ∨ x.op = 96 ∨ x.op = 97 then decide (x.k < 16) else if x.op = 100 ∨ x.op = 116 then decide (x.k < 32) else true) = true) := by
  intro h0 h1 h2 h3; cases h3
  exact ⟨_, rule_any x _ (.inl ⟨rfl, rfl⟩), by rw [r4 _ _ (by decide), if_neg h0, if_neg h1, if_pos h2]⟩
 rename_i n1 n2
 split at h
 ·rename_i h1; cases h; exact two n1 n2 (.inl h1) rfl
 split at h
 ·rename_i h1; cases h; exact two n1 n2 (.inr (.inl h1)) rfl
 split at h
 ·rename_i h1; cases h; exact two n1 n2 (.inr (.inr (.inl h1))) rfl
 split at h
 ·rename_i h1; cases h; exact two n1 n2 (.inr (.inr (.inr h1))) rfl
 rename_i n3 n4 n5 n6
 have n7 : ¬ (x.op = 2 ∨ x.op = 3 ∨ x.op = 96 ∨ x.op = 97) := by omega
 split at h
 ·rename_i h1; cases h; exact ⟨_, rule_any x _ (.inr (.inl ⟨rfl, rfl⟩)), by rw [r4 _ _ (by decide), if_neg n1, if_neg n2, if_neg n7, if_pos (.inl h1)]⟩
 split at h
 ·rename_i h1; cases h; exact ⟨_, rule_any x _ (.inr (.inl ⟨rfl, rfl⟩)), by rw [r4 _ _ (by decide), if_neg n1, if_neg n2, if_neg n7, if_pos (.inr h1)]⟩
 cases h
theorem rule_none {x : In4} (h : rpos x.op = none) : ruleB x = true := by
 unfold rpos at h
 unfold ruleB
 repeat' split at h
 all_goals first | (cases h; done) | skip
 rw [if_neg (by omega), if_neg (by omega), if_neg (by omega), if_neg (by omega)]
end Go.Ev
/- Which filters are sound: check.Check. -/
namespace Go.Ev
open Go Go.RowKit
variable {G : Tbl}
set_option maxRecDepth 10000
set_option maxHeartbeats 2000000
set_option linter.unusedSimpArgs false
set_option linter.unusedVariables false
theorem okAll_drop {f : List In4} {i : Nat} (h : i < f.length) : okAll (f.drop i) = (oneB f[i] (f.length - 1 - i) && okAll (f.drop (i + 1))) := by
 rw [List.drop_eq_getElem_cons h]
 simp only [okAll, List.length_drop]
 congr 2; omega
theorem FL_get {f : List In4} {i : Nat} (h : i < f.length) : (IL f)[i]? = some f[i].cs := by simp [List.getElem?_eq_getElem h]
def Rch (f : List In4) (v : V) : Prop := ∃ i e : Int, v = .tup [.int .i64 i, .int .i64 e] ∧ (e = 0 ↔ soundF f = true)
theorem sound_of {f : List In4} (h0 : f ≠ []) (h1 : f.length ≤ 4096) (h2 : okAll f = true) (h3 : isEnd (f[f.length - 1]'(by have := List.length_pos_iff.2 h0; omega)).op = true) : soundF f = true := by
 have : f.getLast? = some (f[f.length - 1]'(by have := List.length_pos_iff.2 h0; omega)) := by rw [List.getLast?_eq_getElem?]; exact List.getElem?_eq_getElem _
 simp [soundF, endB, h1, h2, this, h3]
theorem unsound_end {f : List In4} (h0 : f ≠ []) (h3 : isEnd (f[f.length - 1]'(by have := List.length_pos_iff.2 h0; omega)).op = false) : soundF f = false := by
 have : f.getLast? = some (f[f.length - 1]'(by have := List.length_pos_iff.2 h0; omega)) := by rw [List.getLast?_eq_getElem?]; exact List.getElem?_eq_getElem _
 simp [soundF, endB, this, h3]
theorem unsound_ok {f : List In4} (h : okAll f = false) : soundF f = false := by simp [soundF, h]
def H2 : Heap := [some (.cells [.fn 149 []]), some (.map rents)]
theorem ways_iff {x : In4} {i n : Nat} (h : i < n) (ht : (x.op == 5 || isBr x.op) = true) :
  (∀ w ∈ waysL x i, w < (n : Int)) ↔ ((if x.op = 5 then decide (x.k < n - 1 - i) else true) && (if isBr x.op then decide (x.jt < (n - 1 - i : Nat) ∧ x.jf < (n - 1 - i : Nat)) else true)) = true := by
 by_cases h5 : x.op = 5
 ·have e5 : isEnd x.op = false := by rw [h5]; decide
  have b5 : isBr x.op = false := by rw [h5]; decide
  rw [if_pos h5, b5]
  rw [h5] at e5
  simp only [waysL, e5, h5, Bool.false_eq_true, if_false, if_true, List.mem_singleton, forall_eq, Bool.and_true, decide_eq_true_eq]
  omega
 ·have hb : isBr x.op = true := by simpa [h5, beqF] using ht
  have he : isEnd x.op = false := by
   have key : ∀ p ∈ [21, 37, 53, 69, 29, 45, 61, (77 : Int)], isEnd p = false := by decide
   exact key _ (by simpa [isBr] using hb)
  rw [if_neg h5, if_pos hb]
  simp only [waysL, he, h5, hb, Bool.false_eq_true, if_false, if_true, List.mem_cons, List.not_mem_nil, or_false, forall_eq_or_imp, forall_eq, Bool.true_and, decide_eq_true_eq]
  omega
theorem ways_none {x : In4} (ht : (x.op == 5 || isBr x.op) = false) (left : Nat) : ((if x.op = 5 then decide (x.k < left) else true) && (if isBr x.op then decide (x.jt < left ∧ x.jf < left) else true)) = true := by
 simp only [Bool.or_eq_false_iff, beq_eq_false_iff_ne] at ht
 simp [ht.1, ht.2]
theorem one_of {x : In4} {left : Nat} (h1 : rightI x = true) (h2 : ruleB x = true) : oneB x left = ((if x.op = 5 then decide (x.k < left) else true) && (if isBr x.op then decide (x.jt < left ∧ x.jf < left) else true)) := by
 simp [oneB, h1, h2]
theorem ways_len (x : In4) (i : Nat) : (waysL x i).length ≤ 2 := by unfold waysL; split; simp; split; simp; split <;> simp
theorem Check_ok [HasIns G] [HasCheck G] (f : List In4) (hf : f.length ≤ maxLen) (hk : ∀ x ∈ f, x.k < 4294967296) : ∃ v, FP G 156 [FL f] v ∧ Rch f v := by
 refine FPx_of HasCheck.h_check_Check (Nat.le_of_ble_eq_true rfl) ?_
 by_cases h0 : f = []
 ·subst h0
  simp [FL]
  exact ⟨0, 5, rfl, by decide⟩
 have hne : 0 < f.length := List.length_pos_iff.2 h0
 have hz : ((f.length : Int) = 0) = False := eq_false (by omega)
 by_cases hbig : f.length > 4096
 ·have hb : ((4096 : Int) < (f.length : Int)) = True := eq_true (by omega)
  have : soundF f = false := by simp [soundF, show ¬ f.length ≤ 4096 by omega]
  simp [FL, h0, hb, beqI]
  exact ⟨0, 3, rfl, by simp [this]⟩
 have hb : ((4096 : Int) < (f.length : Int)) = False := eq_false (by omega)
 simp [FL, h0, hb, beqI]
 refine callK_of rules_ok (by simp) ?_
 simp
 refine W_up f.length (fun i => [(0, FL f), (4, .mp 1), (22, FL f), (23, .int .i64 f.length), (24, .int .i64 i)]) (fun _ => H2) (fun i => okAll (f.take 0) = true ∧ okAll f = okAll (f.drop i)) ?_ ?_
 ·simp [keep_cl, trunc, H2, rents_cl, FL, okAll]
 intro i hi hn
 by_cases hlt : i < f.length
 ·have hx := FL_get hlt
  have hg : f[i] ∈ f := List.getElem_mem hlt
  have hkk := hk _ hg
  have hdr := okAll_drop hlt
  have bad : oneB f[i] (f.length - 1 - i) = false → ∀ j e : Int, e ≠ 0 → Rch f (.tup [.int .i64 j, .int .i64 e]) := by
   intro h j e he
   rw [h] at hdr
   exact ⟨j, e, rfl, by simp [he, unsound_ok (hn.2.trans hdr)]⟩
  generalize f[i] = x at hx hkk hdr hg bad
  have hr := RightI_ok (G := G) x
  have hbr := Branch_ok (G := G) x
  simp [IV, In4.cs] at hr hbr
  simp (disch := omega) [H2, ltT, FL, hx, In4.cs, beqI, -Int.natCast_add]
  refine callP_of hr ?_
  cases h1 : rightI x
  ·simp
   exact bad (by simp [oneB, h1]) _ _ (by decide)
  simp [rents_find]
  cases h2 : rpos x.op with
  | none =>
   have hrule := rule_none h2
   by_cases h5 : x.op = 5
   ·have htg5 : (x.op == 5 || isBr x.op) = true := by simp [h5]
    have hb5 : (x.op == 5) = true := by simp [h5]
    simp [hb5, trunc, rents_cl, keep_cl]
    have hw := ways_ok (G := G) x i hkk (right_br h1) (by omega)
    simp [IV, In4.cs] at hw
    have htg : ∃ tg, tg = (x.op == 5 || isBr x.op) := ⟨_, rfl⟩
    obtain ⟨tg, htg⟩ := htg
    have hwl := ways_len x i
    have fin : (tg = true → ∀ w ∈ waysL x i, w < (f.length : Int)) → okAll f = okAll (f.drop (i + 1)) := by
     intro hall
     rw [hn.2, hdr, one_of h1 hrule]
     cases tg with
     | false => rw [ways_none htg.symm]; simp
     | true => rw [(ways_iff hlt htg.symm).1 (hall rfl)]; simp
    have bad' : tg = true → ∀ w ∈ waysL x i, ¬ w < (f.length : Int) → oneB x (f.length - 1 - i) = false := by
     intro ht w hm hw'
     rw [one_of h1 hrule]
     rw [ht] at htg
     rw [← Bool.not_eq_true]
     intro h; exact hw' ((ways_iff hlt htg.symm).2 h w hm)
    have loop : ∀ (w : List Int), w.length ≤ 2 → (∀ v ∈ w, v ∈ waysL x i) → True := fun _ _ _ => trivial
    generalize waysL x i = w at hw hwl fin bad' loop
    refine callP_of hw ?_
    simp
    refine W_up w.length (fun j => [(0, FL f), (4, .mp 1), (5, .int .i64 i), (9, .bool tg), (22, FL f), (23, .int .i64 f.length), (24, .int .i64 i), (55, .vs (ints .i64 w) .no), (56, .int .i64 w.length), (57, .int .i64 j)])
     (fun _ => [some (.cells [.fn 149 []]), some (.map rents), some (.cells [.int .i64 x.op, .int .i64 x.jt, .int .i64 x.jf, .int .u32 (x.k : Int)])]) (fun j => tg = true → ∀ v ∈ w.take j, v < (f.length : Int)) ?_ ?_
    ·simp [keep_cl, trunc, FL, rents_cl, htg.trans htg5]
    intro j hj hp
    by_cases hjl : j < w.length
    ·by_cases hv : tg = true ∧ ¬ w[j] < (f.length : Int)
     ·have hb := bad' hv.1 _ (List.getElem_mem hjl) hv.2
      have hv2 : ((f.length : Int) ≤ w[j]) = True := eq_true (by omega)
      simp (disch := omega) [ltT, hjl, hv.1, hv2, FL, get_in, -Int.natCast_add]
      exact bad hb i 4 (by decide)
     ·have hp' : tg = true → ∀ v ∈ w.take (j + 1), v < (f.length : Int) := by
       intro ht v hm
       rw [List.take_add_one, List.getElem?_eq_getElem hjl] at hm
       simp only [Option.toList, List.mem_append, List.mem_singleton] at hm
       rcases hm with hm | rfl
       ·exact hp ht v hm
       ·exact Int.not_le.1 fun h => hv ⟨ht, by omega⟩
      cases htt : tg with
      | false =>
       simp (disch := omega) [ltT, hjl, FL, get_in, keep_cl, trunc, rents_cl, add1', -Int.natCast_add]
      | true =>
       have hv2 : ((f.length : Int) ≤ w[j]) = False := eq_false fun h => hv ⟨htt, by omega⟩
       simp (disch := omega) [ltT, hjl, FL, get_in, hv2, keep_cl, trunc, rents_cl, add1', -Int.natCast_add]
       rw [htt] at hp'
       exact hp' rfl
    ·have hjn : j = w.length := by omega
     subst hjn
     rw [List.take_length] at hp
     have hfin := fin hp
     simp (disch := omega) [hlt, keep_cl, trunc, rents_cl, H2, FL, add1', hfin, okAll, -Int.natCast_add]
   ·have htg5 : (x.op == 5 || isBr x.op) = isBr x.op := by simp [h5]
    simp [beqF, h5, trunc, rents_cl, keep_cl]
    refine callP_of hbr ?_
    simp
    have hw := ways_ok (G := G) x i hkk (right_br h1) (by omega)
    simp [IV, In4.cs] at hw
    have htg : ∃ tg, tg = (x.op == 5 || isBr x.op) := ⟨_, rfl⟩
    obtain ⟨tg, htg⟩ := htg
    have hwl := ways_len x i
    have fin : (tg = true → ∀ w ∈ waysL x i, w < (f.length : Int)) → okAll f = okAll (f.drop (i + 1)) := by
     intro hall
     rw [hn.2, hdr, one_of h1 hrule]
     cases tg with
     | false => rw [ways_none htg.symm]; simp
     | true => rw [(ways_iff hlt htg.symm).1 (hall rfl)]; simp
    have bad' : tg = true → ∀ w ∈ waysL x i, ¬ w < (f.length : Int) → oneB x (f.length - 1 - i) = false := by
     intro ht w hm hw'
     rw [one_of h1 hrule]
     rw [ht] at htg
     rw [← Bool.not_eq_true]
     intro h; exact hw' ((ways_iff hlt htg.symm).2 h w hm)
    have loop : ∀ (w : List Int), w.length ≤ 2 → (∀ v ∈ w, v ∈ waysL x i) → True := fun _ _ _ => trivial
    generalize waysL x i = w at hw hwl fin bad' loop
    refine callP_of hw ?_
    simp
    refine W_up w.length (fun j => [(0, FL f), (4, .mp 1), (5, .int .i64 i), (9, .bool tg), (22, FL f), (23, .int .i64 f.length), (24, .int .i64 i), (55, .vs (ints .i64 w) .no), (56, .int .i64 w.length), (57, .int .i64 j)])
     (fun _ => [some (.cells [.fn 149 []]), some (.map rents), some (.cells [.int .i64 x.op, .int .i64 x.jt, .int .i64 x.jf, .int .u32 (x.k : Int)])]) (fun j => tg = true → ∀ v ∈ w.take j, v < (f.length : Int)) ?_ ?_
    ·simp [keep_cl, trunc, FL, rents_cl, htg.trans htg5]
    intro j hj hp
    by_cases hjl : j < w.length
    ·by_cases hv : tg = true ∧ ¬ w[j] < (f.length : Int)
     ·have hb := bad' hv.1 _ (List.getElem_mem hjl) hv.2
      have hv2 : ((f.length : Int) ≤ w[j]) = True := eq_true (by omega)
      simp (disch := omega) [ltT, hjl, hv.1, hv2, FL, get_in, -Int.natCast_add]
      exact bad hb i 4 (by decide)
     ·have hp' : tg = true → ∀ v ∈ w.take (j + 1), v < (f.length : Int) := by
       intro ht v hm
       rw [List.take_add_one, List.getElem?_eq_getElem hjl] at hm
       simp only [Option.toList, List.mem_append, List.mem_singleton] at hm
       rcases hm with hm | rfl
       ·exact hp ht v hm
       ·exact Int.not_le.1 fun h => hv ⟨ht, by omega⟩
      cases htt : tg with
      | false =>
       simp (disch := omega) [ltT, hjl, FL, get_in, keep_cl, trunc, rents_cl, add1', -Int.natCast_add]
      | true =>
       have hv2 : ((f.length : Int) ≤ w[j]) = False := eq_false fun h => hv ⟨htt, by omega⟩
       simp (disch := omega) [ltT, hjl, FL, get_in, hv2, keep_cl, trunc, rents_cl, add1', -Int.natCast_add]
       rw [htt] at hp'
       exact hp' rfl
    ·have hjn : j = w.length := by omega
     subst hjn
     rw [List.take_length] at hp
     have hfin := fin hp
     simp (disch := omega) [hlt, keep_cl, trunc, rents_cl, H2, FL, add1', hfin, okAll, -Int.natCast_add]
  | some p =>
   obtain ⟨n, fn⟩ := p
   obtain ⟨e, he, hee⟩ := rule_ok (G := G) x h2
   simp
   simp [RH, In4.cs, IV] at he
   refine callV_of he (by simp) ?_
   by_cases h0e : e = 0
   ·have hrule := hee.1 h0e
    subst h0e
    by_cases h5 : x.op = 5
    ·have htg5 : (x.op == 5 || isBr x.op) = true := by simp [h5]
     have hb5 : (x.op == 5) = true := by simp [h5]
     simp [hb5, trunc, rents_cl, keep_cl]
     have hw := ways_ok (G := G) x i hkk (right_br h1) (by omega)
     simp [IV, In4.cs] at hw
     have htg : ∃ tg, tg = (x.op == 5 || isBr x.op) := ⟨_, rfl⟩
     obtain ⟨tg, htg⟩ := htg
     have hwl := ways_len x i
     have fin : (tg = true → ∀ w ∈ waysL x i, w < (f.length : Int)) → okAll f = okAll (f.drop (i + 1)) := by
      intro hall
      rw [hn.2, hdr, one_of h1 hrule]
      cases tg with
      | false => rw [ways_none htg.symm]; simp
      | true => rw [(ways_iff hlt htg.symm).1 (hall rfl)]; simp
     have bad' : tg = true → ∀ w ∈ waysL x i, ¬ w < (f.length : Int) → oneB x (f.length - 1 - i) = false := by
      intro ht w hm hw'
      rw [one_of h1 hrule]
      rw [ht] at htg
      rw [← Bool.not_eq_true]
      intro h; exact hw' ((ways_iff hlt htg.symm).2 h w hm)
     have loop : ∀ (w : List Int), w.length ≤ 2 → (∀ v ∈ w, v ∈ waysL x i) → True := fun _ _ _ => trivial
     generalize waysL x i = w at hw hwl fin bad' loop
     refine callP_of hw ?_
     simp
     refine W_up w.length (fun j => [(0, FL f), (4, .mp 1), (5, .int .i64 i), (9, .bool tg), (22, FL f), (23, .int .i64 f.length), (24, .int .i64 i), (55, .vs (ints .i64 w) .no), (56, .int .i64 w.length), (57, .int .i64 j)])
      (fun _ => [some (.cells [.fn 149 []]), some (.map rents), some (.cells [.int .i64 x.op, .int .i64 x.jt, .int .i64 x.jf, .int .u32 (x.k : Int)])]) (fun j => tg = true → ∀ v ∈ w.take j, v < (f.length : Int)) ?_ ?_
     ·simp [keep_cl, trunc, FL, rents_cl, htg.trans htg5]
     intro j hj hp
     by_cases hjl : j < w.length
     ·by_cases hv : tg = true ∧ ¬ w[j] < (f.length : Int)
      ·have hb := bad' hv.1 _ (List.getElem_mem hjl) hv.2
       have hv2 : ((f.length : Int) ≤ w[j]) = True := eq_true (by omega)
       simp (disch := omega) [ltT, hjl, hv.1, hv2, FL, get_in, -Int.natCast_add]
       exact bad hb i 4 (by decide)
      ·have hp' : tg = true → ∀ v ∈ w.take (j + 1), v < (f.length : Int) := by
        intro ht v hm
        rw [List.take_add_one, List.getElem?_eq_getElem hjl] at hm
        simp only [Option.toList, List.mem_append, List.mem_singleton] at hm
        rcases hm with hm | rfl
        ·exact hp ht v hm
        ·exact Int.not_le.1 fun h => hv ⟨ht, by omega⟩
       cases htt : tg with
       | false =>
        simp (disch := omega) [ltT, hjl, FL, get_in, keep_cl, trunc, rents_cl, add1', -Int.natCast_add]
       | true =>
        have hv2 : ((f.length : Int) ≤ w[j]) = False := eq_false fun h => hv ⟨htt, by omega⟩
        simp (disch := omega) [ltT, hjl, FL, get_in, hv2, keep_cl, trunc, rents_cl, add1', -Int.natCast_add]
        rw [htt] at hp'
        exact hp' rfl
     ·have hjn : j = w.length := by omega
      subst hjn
      rw [List.take_length] at hp
      have hfin := fin hp
      simp (disch := omega) [hlt, keep_cl, trunc, rents_cl, H2, FL, add1', hfin, okAll, -Int.natCast_add]
    ·have htg5 : (x.op == 5 || isBr x.op) = isBr x.op := by simp [h5]
     simp [beqF, h5, trunc, rents_cl, keep_cl]
     refine callP_of hbr ?_
     simp
     have hw := ways_ok (G := G) x i hkk (right_br h1) (by omega)
     simp [IV, In4.cs] at hw
     have htg : ∃ tg, tg = (x.op == 5 || isBr x.op) := ⟨_, rfl⟩
     obtain ⟨tg, htg⟩ := htg
     have hwl := ways_len x i
     have fin : (tg = true → ∀ w ∈ waysL x i, w < (f.length : Int)) → okAll f = okAll (f.drop (i + 1)) := by
      intro hall
      rw [hn.2, hdr, one_of h1 hrule]
      cases tg with
      | false => rw [ways_none htg.symm]; simp
      | true => rw [(ways_iff hlt htg.symm).1 (hall rfl)]; simp
     have bad' : tg = true → ∀ w ∈ waysL x i, ¬ w < (f.length : Int) → oneB x (f.length - 1 - i) = false := by
      intro ht w hm hw'
      rw [one_of h1 hrule]
      rw [ht] at htg
      rw [← Bool.not_eq_true]
      intro h; exact hw' ((ways_iff hlt htg.symm).2 h w hm)
     have loop : ∀ (w : List Int), w.length ≤ 2 → (∀ v ∈ w, v ∈ waysL x i) → True := fun _ _ _ => trivial
     generalize waysL x i = w at hw hwl fin bad' loop
     refine callP_of hw ?_
     simp
     refine W_up w.length (fun j => [(0, FL f), (4, .mp 1), (5, .int .i64 i), (9, .bool tg), (22, FL f), (23, .int .i64 f.length), (24, .int .i64 i), (55, .vs (ints .i64 w) .no), (56, .int .i64 w.length), (57, .int .i64 j)])
      (fun _ => [some (.cells [.fn 149 []]), some (.map rents), some (.cells [.int .i64 x.op, .int .i64 x.jt, .int .i64 x.jf, .int .u32 (x.k : Int)])]) (fun j => tg = true → ∀ v ∈ w.take j, v < (f.length : Int)) ?_ ?_
     ·simp [keep_cl, trunc, FL, rents_cl, htg.trans htg5]
     intro j hj hp
     by_cases hjl : j < w.length
     ·by_cases hv : tg = true ∧ ¬ w[j] < (f.length : Int)
      ·have hb := bad' hv.1 _ (List.getElem_mem hjl) hv.2
       have hv2 : ((f.length : Int) ≤ w[j]) = True := eq_true (by omega)
       simp (disch := omega) [ltT, hjl, hv.1, hv2, FL, get_in, -Int.natCast_add]
       exact bad hb i 4 (by decide)
      ·have hp' : tg = true → ∀ v ∈ w.take (j + 1), v < (f.length : Int) := by
        intro ht v hm
        rw [List.take_add_one, List.getElem?_eq_getElem hjl] at hm
        simp only [Option.toList, List.mem_append, List.mem_singleton] at hm
        rcases hm with hm | rfl
        ·exact hp ht v hm
        ·exact Int.not_le.1 fun h => hv ⟨ht, by omega⟩
       cases htt : tg with
       | false =>
        simp (disch := omega) [ltT, hjl, FL, get_in, keep_cl, trunc, rents_cl, add1', -Int.natCast_add]
       | true =>
        have hv2 : ((f.length : Int) ≤ w[j]) = False := eq_false fun h => hv ⟨htt, by omega⟩
        simp (disch := omega) [ltT, hjl, FL, get_in, hv2, keep_cl, trunc, rents_cl, add1', -Int.natCast_add]
        rw [htt] at hp'
        exact hp' rfl
     ·have hjn : j = w.length := by omega
      subst hjn
      rw [List.take_length] at hp
      have hfin := fin hp
      simp (disch := omega) [hlt, keep_cl, trunc, rents_cl, H2, FL, add1', hfin, okAll, -Int.natCast_add]
   ·have hrb : ruleB x = false := by rw [← Bool.not_eq_true]; exact fun h => h0e (hee.2 h)
    simp [bneT, h0e, trunc, rents_cl]
    exact bad (by simp [oneB, hrb]) _ _ h0e
 ·have hin : i = f.length := by omega
  subst hin
  have hlt : f.length - 1 < f.length := by omega
  have hx := FL_get hlt
  have h2 := hn.2
  rw [List.drop_length] at h2
  have hs1 := sound_of h0 (by omega) h2
  have hs2 := unsound_end h0
  generalize f[f.length - 1] = x at hx hs1 hs2
  have he := Ends_ok (G := G) x
  simp [IV, In4.cs] at he
  have hsub : subI .i64 (f.length : Int) 1 = ((f.length - 1 : Nat) : Int) := sub1' (by have : maxLen ≤ 9223372036854775807 := by decide
                                                                                       omega)
  simp [FL, hsub, hx, In4.cs]
  refine callP_of he ?_
  cases hen : isEnd x.op
  ·simp
   exact ⟨_, 5, rfl, by simp [hs2 hen]⟩
  ·simp
   exact ⟨_, 0, rfl, by simp [hs1 hen]⟩
theorem Sound_ok [HasIns G] [HasCheck G] (f : List In4) (hf : f.length ≤ maxLen) (hk : ∀ x ∈ f, x.k < 4294967296) : FP G 157 [FL f] (.bool (soundF f)) := by
 refine FP_of HasCheck.h_check_Sound (Nat.le_of_ble_eq_true rfl) ?_
 obtain ⟨v, hv, i, e, rfl, he⟩ := Check_ok (G := G) f hf hk
 simp
 refine callP_of hv ?_
 have : (e == 0) = soundF f := by rw [Bool.eq_iff_iff, beq_iff_eq]; exact he
 simp [this]
end Go.Ev
/- Which filters are sound, by hurdleref05. -/
namespace Go.Ev
open Go Go.RowKit
variable {G : Tbl}
set_option maxRecDepth 10000
set_option maxHeartbeats 2000000
set_option linter.unusedSimpArgs false
set_option linter.unusedVariables false
theorem convU64 (n : Nat) (h : n < 18446744073709551616) : convI .u64 (n : Int) = (n : Int) := by unfold convI; exact IntWalk.u64_in _ ⟨by omega, by omega⟩
theorem One_ok [HasR2 G] [HasR5o G] (x : In4) (at' n : Nat) (hx : x.k < 4294967296) (ha : at' < n) (hn : n ≤ maxLen) : ∃ v, FP G 186 [IV x, .int .i64 at', .int .i64 n] v ∧ ∃ e : Int, v = .int .i64 e ∧ (e = 0 ↔ oneB x (n - 1 - at') = true) := by
 refine FPx_of HasR5o.h_hurdleref05_One (Nat.le_of_ble_eq_true rfl) ?_
 have hr := RightR2_ok (G := G) x
 have hbr := BranchR_ok (G := G) x
 have hm : maxLen ≤ 9223372036854775807 := by decide
 have s1 : subI .i64 (n : Int) 1 = ((n - 1 : Nat) : Int) := sub1' (by omega)
 have s2 : subI .i64 ((n - 1 : Nat) : Int) (at' : Int) = ((n - 1 - at' : Nat) : Int) := by rw [subI64] <;> omega
 have hl : n - 1 - at' < 9223372036854775808 := by omega
 generalize n - 1 - at' = left at s2 hl
 obtain ⟨op, jt, jf, k⟩ := x
 have hx : k < 4294967296 := hx
 have r4 : remI (k : Int) 4 = ((k % 4 : Nat) : Int) := rem64 (b := 4)
 have h4 : (((k % 4 : Nat) : Int) = 0) = (k % 4 = 0) := propext (by omega)
 have h60 : (60 < (k : Int)) = (60 < k) := propext (by omega)
 have h15 : (15 < (k : Int)) = (15 < k) := propext (by omega)
 have h31 : (31 < (k : Int)) = (31 < k) := propext (by omega)
 have c1 : convI .u64 (k : Int) = (k : Int) := convU64 k (by omega)
 have c2 : convI .u64 (left : Int) = (left : Int) := convU64 left (by omega)
 have hle : ((left : Int) ≤ (k : Int)) = (left ≤ k) := propext (by omega)
 simp [IV, In4.cs] at hr hbr ⊢
 refine callP_of hr ?_
 cases h1 : rightI ⟨op, jt, jf, k⟩
 ·simp [oneB, h1]
 clear hr
 simp
 by_cases o32 : op = 32
 ·subst o32
  have e1 : isBr 32 = false := by decide
  rw [e1] at hbr
  by_cases hk4 : k % 4 = 0
  ·by_cases hk : 60 < k
   ·simp [r4, h4, hk4, h60, hk, beqI, -Int.natCast_emod, oneB, ruleB]
    intro _ h; omega
   ·have : k < 64 := by omega
    simp [r4, h4, hk4, h60, hk, beqI, s1, s2, -Int.natCast_emod]
    refine callP_of hbr ?_
    simp [oneB, ruleB, h1, hk4, this, e1]
  ·have h40 : (((k % 4 : Nat) : Int) != 0) = true := by simp [-Int.natCast_emod, h4, hk4]
   simp [r4, h40, hk4, h60, beqI, -Int.natCast_emod, oneB, ruleB]
 by_cases o52 : op = 52
 ·subst o52
  have e1 : isBr 52 = false := by decide
  rw [e1] at hbr
  by_cases hk4 : k = 0
  ·simp [hk4, beqI, oneB, ruleB]
  ·have : ((k : Int) = 0) = False := eq_false (by omega)
   simp [this, hk4, beqI, s1, s2]
   refine callP_of hbr ?_
   simp [oneB, ruleB, h1, hk4, e1]
 by_cases oa : op = 2 ∨ op = 3 ∨ op = 96 ∨ op = 97
 ·have e1 : isBr op = false := by rcases oa with rfl | rfl | rfl | rfl <;> decide
  have hru : ruleB ⟨op, jt, jf, k⟩ = decide (k < 16) := by rcases oa with rfl | rfl | rfl | rfl <;> rfl
  have n5 : ¬ op = 5 := by omega
  rw [e1] at hbr
  by_cases hk : 15 < k
  ·have : oneB ⟨op, jt, jf, k⟩ left = false := by simp [oneB, hru]; intro _ h; omega
   rcases oa with rfl | rfl | rfl | rfl <;> simp [h15, hk, beqI, this]
  ·have : oneB ⟨op, jt, jf, k⟩ left = true := by simp [oneB, hru, h1, e1, n5]; omega
   rcases oa with rfl | rfl | rfl | rfl <;> simp [h15, hk, beqI, s1, s2] <;> refine callP_of hbr ?_ <;> simp [this]
 by_cases ob : op = 100 ∨ op = 116
 ·have e1 : isBr op = false := by rcases ob with rfl | rfl <;> decide
  have hru : ruleB ⟨op, jt, jf, k⟩ = decide (k < 32) := by rcases ob with rfl | rfl <;> rfl
  have n5 : ¬ op = 5 := by omega
  rw [e1] at hbr
  by_cases hk : 31 < k
  ·have : oneB ⟨op, jt, jf, k⟩ left = false := by simp [oneB, hru]; intro _ h; omega
   rcases ob with rfl | rfl <;> simp [h31, hk, beqI, this]
  ·have : oneB ⟨op, jt, jf, k⟩ left = true := by simp [oneB, hru, h1, e1, n5]; omega
   rcases ob with rfl | rfl <;> simp [h31, hk, beqI, s1, s2] <;> refine callP_of hbr ?_ <;> simp [this]
 have hru : ruleB ⟨op, jt, jf, k⟩ = true := by simp [ruleB, o32, o52, oa, ob]
 by_cases o5 : op = 5
 ·subst o5
  have e1 : isBr 5 = false := by decide
  rw [e1] at hbr
  by_cases hk : left ≤ k
  ·have : oneB ⟨5, jt, jf, k⟩ left = false := by simp [oneB, hru]; intro _ h; omega
   simp [s1, s2, c1, c2, hle, hk, this]
  ·have : oneB ⟨5, jt, jf, k⟩ left = true := by simp [oneB, hru, h1, e1]; omega
   simp [s1, s2, c1, c2, hle, hk]
   refine callP_of hbr ?_
   simp [this]
 have ne : ∀ o : Int, op ≠ o → (op == o) = false := fun o h => beqF h
 have n2 := ne 2 (by omega)
 have n3 := ne 3 (by omega)
 have n96 := ne 96 (by omega)
 have n97 := ne 97 (by omega)
 have n100 := ne 100 (by omega)
 have n116 := ne 116 (by omega)
 simp [ne 32 o32, ne 52 o52, ne 5 o5, n2, n3, n96, n97, n100, n116, s1, s2]
 refine callP_of hbr ?_
 cases hb : isBr op
 ·simp [oneB, h1, hru, hb, o5]
 ·simp
  by_cases ht : (left : Int) ≤ jt
  ·have : oneB ⟨op, jt, jf, k⟩ left = false := by simp [oneB, hb]; intros; omega
   simp [ht, this]
  ·by_cases hf : (left : Int) ≤ jf
   ·have : oneB ⟨op, jt, jf, k⟩ left = false := by simp [oneB, hb]; intros; omega
    simp [ht, hf, this]
   ·have : oneB ⟨op, jt, jf, k⟩ left = true := by simp [oneB, hb, h1, hru, o5]; omega
    simp [ht, hf, this]
end Go.Ev
/- Which instructions are a window: window.Right, hurdleref17.Right; and hurdleref03.Same. -/
namespace Go.Ev
open Go Go.RowKit
variable {G : Tbl}
set_option maxRecDepth 10000
set_option maxHeartbeats 2000000
set_option linter.unusedSimpArgs false
set_option linter.unusedVariables false
def goesOn (x : In4) : Bool := !(x.op == 5) && !isBr x.op && !isEnd x.op
def plainW (x : In4) : Bool := goesOn x && rightI x && ruleB x
def winB (w : List In4) : Bool := decide (w.length ≤ 32) && w.all plainW
def RET : In4 := ⟨22, 0, 0, 0⟩
theorem goesOn_not {x : In4} (h : goesOn x = true) : x.op ≠ 5 ∧ isBr x.op = false ∧ isEnd x.op = false := by
 simp only [goesOn, Bool.and_eq_true, Bool.not_eq_true', beq_eq_false_iff_ne] at h
 exact ⟨h.1.1, h.1.2, h.2⟩
theorem one_plain {x : In4} (h : goesOn x = true) (left : Nat) : oneB x left = (rightI x && ruleB x) := by
 obtain ⟨h1, h2, h3⟩ := goesOn_not h
 simp [oneB, h1, h2]
theorem okAll_win : ∀ {w : List In4} (z : In4), (∀ x ∈ w, goesOn x = true) → okAll (w ++ [z]) = ((w.all fun x => rightI x && ruleB x) && oneB z 0)
 | [], z, _ => by simp [okAll]
 | x :: w, z, h => by
  rw [List.cons_append, okAll, okAll_win z fun y hy => h y (by simp [hy]), one_plain (h x (by simp))]
  simp [Bool.and_assoc]
theorem sound_win {w : List In4} (h : ∀ x ∈ w, goesOn x = true) (hl : w.length ≤ 32) : soundF (w ++ [RET]) = w.all plainW := by
 have h1 : endB (w ++ [RET]) = true := by simp [endB]; decide
 have h2 : oneB RET 0 = true := by decide
 have h3 : (w ++ [RET]).length ≤ 4096 := by simp; omega
 simp only [soundF, okAll_win RET h, h1, h2, h3, Bool.and_true, decide_true, Bool.true_and]
 rw [Bool.eq_iff_iff, List.all_eq_true, List.all_eq_true]
 constructor
 ·intro h' x hx
  simp only [plainW, h x hx, Bool.true_and]; exact h' x hx
 ·intro h' x hx
  have := h' x hx
  simpa only [plainW, h x hx, Bool.true_and] using this
theorem WRight_ok [HasIns G] [HasCheck G] [HasWRight G] (w : List In4) (hf : w.length ≤ maxLen) (hk : ∀ x ∈ w, x.k < 4294967296) : FP G 202 [FL w] (.bool (winB w)) := by
 refine FP_of HasWRight.h_window_Right (Nat.le_of_ble_eq_true rfl) ?_
 by_cases hb : w.length > 32
 ·have h1 : ((32 : Int) < (w.length : Int)) = True := eq_true (by omega)
  simp [FL, h1, winB, show ¬ w.length ≤ 32 by omega]
 have h1 : ((32 : Int) < (w.length : Int)) = False := eq_false (by omega)
 have hle : w.length ≤ 32 := by omega
 simp [FL, h1]
 refine W_up w.length (fun i => [(0, FL w), (8, FL w), (9, .int .i64 w.length), (10, .int .i64 i)]) (fun _ => []) (fun i => ∀ x ∈ w.take i, goesOn x = true) ?_ ?_
 ·simp [keep_cl, trunc, FL]
 intro i hi hp
 by_cases hlt : i < w.length
 ·obtain ⟨x, hfx⟩ : ∃ x, x = w[i] := ⟨_, rfl⟩
  have hgg := FL_get hlt
  rw [← hfx] at hgg
  have hfx := hfx.symm
  have hxm : x ∈ w := hfx ▸ List.getElem_mem hlt
  have hbr := Branch_ok (G := G) x
  have hen := Ends_ok (G := G) x
  have hcs : x.cs = [.int .i64 x.op, .int .i64 x.jt, .int .i64 x.jf, .int .u32 (x.k : Int)] := rfl
  simp [IV, hcs] at hbr hen
  have bad : goesOn x = false → winB w = false := by
   intro h
   have : w.all plainW = false := by
    rw [← Bool.not_eq_true, List.all_eq_true]
    intro h2
    have := h2 x hxm
    simp only [plainW, h, Bool.false_and, Bool.false_eq_true] at this
   simp [winB, this]
  by_cases h5 : x.op = 5
  ·have b5 : (x.op == 5) = true := by simp [h5]
   simp (disch := omega) [ltT, FL, hgg, hfx, hcs, b5, bad (by simp [goesOn, h5])]
  have b5 : (x.op == 5) = false := beqF h5
  simp (disch := omega) [ltT, FL, hgg, hfx, hcs, b5]
  refine callP_of hbr ?_
  cases hb : isBr x.op
  ·simp
   refine callP_of hen ?_
   cases he : isEnd x.op
   ·have hp' : ∀ y ∈ w.take (i + 1), goesOn y = true := by
     intro y hy
     rw [List.take_add_one, List.getElem?_eq_getElem hlt, hfx] at hy
     simp only [Option.toList, List.mem_append, List.mem_singleton] at hy
     rcases hy with hy | rfl
     ·exact hp y hy
     ·simp [goesOn, h5, hb, he]
    simp (disch := omega) [hlt, add1', keep_cl, trunc, FL, -Int.natCast_add]
    exact hp'
   ·simp [bad (by simp [goesOn, he])]
  ·simp [bad (by simp [goesOn, hb])]
 ·have hne : i = w.length := by omega
  subst hne
  rw [List.take_length] at hp
  have hs := Sound_ok (G := G) (w ++ [RET]) (by rw [List.length_append]; have : maxLen = 9223372036854775807 := by decide
                                                simp; omega) (fun x hx => by
   rcases List.mem_append.1 hx with h | h
   ·exact hk x h
   ·simp only [List.mem_singleton] at h; subst h; decide)
  rw [sound_win hp hle] at hs
  have hw : w.all plainW = winB w := by simp [winB, hle]
  rw [hw] at hs
  have hret : IL w ++ [[V.int .i64 22, .int .i64 0, .int .i64 0, .int .u32 0]] = IL (w ++ [RET]) := IL_snoc w RET
  have hret0 : [[V.int .i64 22, .int .i64 0, .int .i64 0, .int .u32 0]] = IL ([] ++ [RET]) := rfl
  simp only [FL] at hs
  by_cases hw0 : w = []
  ·subst hw0
   simp only [List.nil_append, ← hret0] at hs
   simp [FL]
   refine callP_of hs ?_
   simp
  ·simp (disch := omega) [FL, IL_eq_nil, hw0, leTn, hret]
   refine callP_of hs ?_
   simp
theorem Right17_ok [HasR2 G] [HasR5o G] [HasR17 G] (w : List In4) (hf : w.length ≤ 1000000) (hk : ∀ x ∈ w, x.k < 4294967296) : FP G 203 [FL w] (.bool (winB w)) := by
 refine FP_of HasR17.h_hurdleref17_Right (Nat.le_of_ble_eq_true rfl) ?_
 simp
 refine W_up w.length (fun i => [(0, FL w), (3, .int .i64 i)]) (fun _ => []) (fun i => (w.take i).all plainW = true) ?_ ?_
 ·simp [keep_cl, trunc, FL]
 intro i hi hp
 by_cases hlt : i < w.length
 ·obtain ⟨x, hfx⟩ : ∃ x, x = w[i] := ⟨_, rfl⟩
  have hgg := FL_get hlt
  rw [← hfx] at hgg
  have hfx := hfx.symm
  have hxm : x ∈ w := hfx ▸ List.getElem_mem hlt
  have hbr := BranchR_ok (G := G) x
  have hen := EndsR_ok (G := G) x
  obtain ⟨v, hon, e, rfl, he0⟩ := One_ok (G := G) x 0 2 (hk x hxm) (by decide) (by decide)
  have hcs : x.cs = [.int .i64 x.op, .int .i64 x.jt, .int .i64 x.jf, .int .u32 (x.k : Int)] := rfl
  simp [IV, hcs] at hbr hen hon
  have bad : plainW x = false → winB w = false := by
   intro h
   have : w.all plainW = false := by
    rw [← Bool.not_eq_true, List.all_eq_true]
    intro h2
    have := h2 x hxm
    rw [h] at this; cases this
   simp [winB, this]
  by_cases h5 : x.op = 5
  ·have b5 : (x.op == 5) = true := by simp [h5]
   simp (disch := omega) [ltT, FL, hgg, hfx, hcs, b5, bad (by simp [plainW, goesOn, h5])]
  have b5 : (x.op == 5) = false := beqF h5
  simp (disch := omega) [ltT, FL, hgg, hfx, hcs, b5]
  refine callP_of hbr ?_
  cases hb : isBr x.op
  ·simp (disch := omega) [ltT, FL, hgg, hfx, hcs]
   refine callP_of hen ?_
   cases he : isEnd x.op
   ·simp (disch := omega) [ltT, FL, hgg, hfx, hcs]
    refine callP_of hon ?_
    have hgo : goesOn x = true := by simp [goesOn, h5, hb, he]
    rw [one_plain hgo] at he0
    by_cases hez : e = 0
    ·have hpl : plainW x = true := by simp only [plainW, hgo, Bool.true_and]; exact he0.1 hez
     have hp' : (w.take (i + 1)).all plainW = true := by
      rw [List.take_add_one, List.getElem?_eq_getElem hlt, hfx, List.all_append, hp]
      simp [hpl]
     simp (disch := omega) [hez, hlt, add1', keep_cl, trunc, FL, -Int.natCast_add]
     simpa using hp'
    ·have hpl : plainW x = false := by
      rw [← Bool.not_eq_true]; intro h
      simp only [plainW, hgo, Bool.true_and] at h
      exact hez (he0.2 h)
     simp [bneT hez, bad hpl]
   ·simp [bad (by simp [plainW, goesOn, he])]
  ·simp [bad (by simp [plainW, goesOn, hb])]
 ·have hne : i = w.length := by omega
  subst hne
  rw [List.take_length] at hp
  by_cases hl : w.length ≤ 32
  ·simp [FL, winB, hp, hl, leT, show ((w.length : Int) ≤ 32) = True from eq_true (by omega)]
  ·simp [FL, winB, hp, hl, show ((w.length : Int) ≤ 32) = False from eq_false (by omega)]
@[simp] theorem cs_take4 (x : In4) : x.cs.take 4 = x.cs := rfl
theorem aeq4 (x y : In4) : eqks [.int, .int, .int, .int] x.cs y.cs = some (decide (x = y)) := by
 obtain ⟨a, b, c, d⟩ := x
 obtain ⟨a', b', c', d'⟩ := y
 simp only [In4.cs, eqks, eqk, if_true, Bool.and_true, Option.some.injEq, In4.mk.injEq]
 rw [Bool.eq_iff_iff]
 simp only [Bool.and_eq_true, beq_iff_eq, decide_eq_true_eq]
 omega
theorem Same03_ok [HasR3 G] (f g : List In4) (hf : f.length ≤ 1000000) : FP G 201 [FL f, FL g] (.bool (decide (f = g))) := by
 refine FP_of HasR3.h_hurdleref03_Same (Nat.le_of_ble_eq_true rfl) ?_
 by_cases hl : f.length = g.length
 ·have hz : ((f.length : Int) != (g.length : Int)) = false := by simp [hl]
  simp [FL, hz]
  refine W_up f.length (fun i => [(0, FL f), (1, FL g), (5, .int .i64 i)]) (fun _ => []) (fun i => f.take i = g.take i) ?_ ?_
  ·simp [keep_cl, trunc, FL]
  intro i hi hp
  by_cases hlt : i < f.length
  ·obtain ⟨x, hfx⟩ : ∃ x, x = f[i] := ⟨_, rfl⟩
   have hlt2 : i < g.length := by omega
   obtain ⟨y, hfy⟩ : ∃ y, y = g[i] := ⟨_, rfl⟩
   have hgg := FL_get hlt
   have hgg2 := FL_get hlt2
   rw [← hfx] at hgg
   rw [← hfy] at hgg2
   have hfx := hfx.symm
   have hfy := hfy.symm
   have ha := aeq4 x y
   by_cases hxy : x = y
   ·rw [decide_eq_true hxy] at ha
    have hp' : f.take (i + 1) = g.take (i + 1) := by
     rw [List.take_add_one, List.take_add_one, hp, List.getElem?_eq_getElem hlt, List.getElem?_eq_getElem hlt2, hfx, hfy, hxy]
    simp (disch := omega) [ltT, FL, hgg, hgg2, hfx, hfy, ha, hlt, add1', keep_cl, trunc, hp', -Int.natCast_add]
   ·rw [decide_eq_false hxy] at ha
    have hne : ¬ f = g := by
     rintro rfl
     exact hxy (hfx.symm.trans hfy)
    simp (disch := omega) [ltT, FL, hgg, hgg2, hfx, hfy, ha, hne, -Int.natCast_add]
  ·have hne : i = f.length := by omega
   subst hne
   rw [List.take_length, hl, List.take_length] at hp
   simp [FL, hp]
 ·have hz : ((f.length : Int) != (g.length : Int)) = true := by simp; omega
  have : ¬ f = g := fun h => hl (by rw [h])
  simp [FL, hz, this]
end Go.Ev
/- The values behind an instruction of a window. -/
namespace Go.Ev
open Go Go.RowKit
variable {G : Tbl}
set_option maxRecDepth 10000
set_option maxHeartbeats 4000000
set_option linter.unusedSimpArgs false
set_option linter.unusedVariables false
variable {H : Heap} {b z m : Nat} {L : List Nd}
structure VS where
 L : List Nd
 p : List Int
 st : List Int
def vcs (p st : List Int) (tk : Tk) : List V := cints .i64 p ++ [.vs (ints .i64 st) tk]
section
variable {p st : List Int} {tk : Tk}
theorem vcs_len (hp : p.length = 18) : (vcs p st tk).length = 19 := by simp [vcs, hp]
theorem vcs_get {i : Nat} (hp : p.length = 18) (hi : i < 18) : ((vcs p st tk).drop i).take 1 = [.int .i64 (p[i]'(by omega))] := by
 rw [vcs, List.drop_append_of_le_length (by simp; omega), cints_drop, List.drop_eq_getElem_cons (by omega)]
 rfl
theorem vcs_set {i : Nat} (x : Int) (hp : p.length = 18) (hi : i < 18) : (vcs p st tk).take i ++ (.int .i64 x :: (vcs p st tk).drop (i + 1)) = vcs (p.set i x) st tk := by
 rw [vcs, vcs, List.take_append_of_le_length (by simp; omega), List.drop_append_of_le_length (by simp; omega), ← cints_set .i64 p i x (by omega)]
 simp
theorem vcs_get0 (hp : p.length = 18) : (vcs p st tk).take 1 = [.int .i64 (p[0]'(by omega))] := vcs_get (i := 0) hp (by omega)
theorem vcs_get1 (hp : p.length = 18) : (vcs p st tk).tail.take 1 = [.int .i64 (p[1]'(by omega))] := by rw [← List.drop_one]; exact vcs_get hp (by omega)
theorem vcs_set0 (x : Int) (hp : p.length = 18) : .int .i64 x :: (vcs p st tk).tail = vcs (p.set 0 x) st tk := by rw [← List.drop_one]; exact vcs_set (i := 0) x hp (by omega)
theorem vcs_set1 (x : Int) (hp : p.length = 18) : (vcs p st tk).take 1 ++ (.int .i64 x :: (vcs p st tk).drop 2) = vcs (p.set 1 x) st tk := vcs_set (i := 1) x hp (by omega)
theorem vcs_st (hp : p.length = 18) : ((vcs p st tk).drop 18).take 1 = [.vs (ints .i64 st) tk] := by
 rw [vcs, List.drop_left' (by simp [hp])]; rfl
theorem vcs_setst (st' : List Int) (tk' : Tk) (hp : p.length = 18) : (vcs p st tk).take 18 ++ (.vs (ints .i64 st') tk' :: (vcs p st tk).drop 19) = vcs p st' tk' := by
 rw [vcs, vcs, List.take_left' (by simp [hp]), List.drop_eq_nil_of_le (by simp [hp])]
theorem vcs_take (hp : p.length = 18) : (vcs p st tk).take 19 = vcs p st tk := List.take_of_length_le (by rw [vcs_len hp]; omega)
theorem vcs_cl (n z2 : Nat) (h : z2 < n) : clL n (vcs p st (.own z2)) = vcs p st (.own z2) := by
 rw [clL_eq_map, vcs]
 simp [cints, Function.comp_def, V.cl, Tk.cl, h]
end
noncomputable def byV (s : VS) (x : In4) : Int × List Nd := if (aluT x.op).2.1 = true then (s.p.getD 1 0, s.L) else putN s.L (sumNd (x.k :: zeros 34))
noncomputable def stepV (s : VS) (x : In4) : VS :=
 if (aluT x.op).2.2 = true then
  ⟨(bAlu (byV s x).2 (aluT x.op).1 (s.p.getD 0 0) (byV s x).1).2, s.p.set 0 (bAlu (byV s x).2 (aluT x.op).1 (s.p.getD 0 0) (byV s x).1).1,
   if (aluT x.op).2.1 = true ∧ (aluT x.op).1 = 52 then s.st ++ [s.p.getD 1 0] else s.st⟩
 else if x.op = 0 then ⟨(putN s.L (sumNd (x.k :: zeros 34))).2, s.p.set 0 (putN s.L (sumNd (x.k :: zeros 34))).1, s.st⟩
 else if x.op = 1 then ⟨(putN s.L (sumNd (x.k :: zeros 34))).2, s.p.set 1 (putN s.L (sumNd (x.k :: zeros 34))).1, s.st⟩
 else if x.op = 32 then ⟨(varN s.L (18 + (x.k / 4 : Nat))).2, s.p.set 0 (varN s.L (18 + (x.k / 4 : Nat))).1, s.st⟩
 else if x.op = 96 then ⟨s.L, s.p.set 0 (s.p.getD (2 + x.k) 0), s.st⟩
 else if x.op = 97 then ⟨s.L, s.p.set 1 (s.p.getD (2 + x.k) 0), s.st⟩
 else if x.op = 2 then ⟨s.L, s.p.set (2 + x.k) (s.p.getD 0 0), s.st⟩
 else if x.op = 3 then ⟨s.L, s.p.set (2 + x.k) (s.p.getD 1 0), s.st⟩
 else if x.op = 132 then ⟨(bNeg s.L (s.p.getD 0 0)).2, s.p.set 0 (bNeg s.L (s.p.getD 0 0)).1, s.st⟩
 else if x.op = 7 then ⟨s.L, (s.p.set 1 (s.p.getD 0 0)).set 0 (s.p.getD 0 0), s.st⟩
 else if x.op = 135 then ⟨s.L, s.p.set 0 (s.p.getD 1 0), s.st⟩
 else s
theorem Bk.setz {z2 k n : Nat} (h : Bk H b z m L) (h2 : H[z2]? = some (some (.zone k))) (hne : z2 ≠ z) : Bk (H.set z2 (some (.zone n))) b z m L := by
 have e1 : z2 ≠ b := fun e => by rw [e, h.hb] at h2; simp [bookC] at h2
 have e2 : z2 ≠ m := fun e => by rw [e, h.hm] at h2; simp at h2
 refine ⟨by rw [List.getElem?_set_ne e1]; exact h.hb, by rw [List.getElem?_set_ne hne]; exact h.hz, by rw [List.getElem?_set_ne e2]; exact h.hm, fun n hn => ?_, h.ok, h.small⟩
 rw [List.length_set] at hn
 rw [map_set', h.shut n hn]
 rfl
theorem upd_setz {z2 k : Nat} (h : Bk H b z m L) (h2 : H[z2]? = some (some (.zone k))) (hne : z2 ≠ z) (x : Option Blk) (L' : List Nd) : upd (H.set z2 x) b z m L' = (upd H b z m L').set z2 x := by
 have e1 : z2 ≠ b := fun e => by rw [e, h.hb] at h2; simp [bookC] at h2
 have e2 : z2 ≠ m := fun e => by rw [e, h.hm] at h2; simp at h2
 unfold upd
 rw [List.set_comm _ _ e1, List.set_comm _ _ hne, List.set_comm _ _ e2]
theorem upd_zone {z2 k : Nat} (h : Bk H b z m L) (h2 : H[z2]? = some (some (.zone k))) (hne : z2 ≠ z) (L' : List Nd) : (upd H b z m L')[z2]? = some (some (.zone k)) := by
 have e1 : b ≠ z2 := fun e => by rw [← e, h.hb] at h2; simp [bookC] at h2
 have e2 : m ≠ z2 := fun e => by rw [← e, h.hm] at h2; simp at h2
 unfold upd
 rw [List.getElem?_set_ne e2, List.getElem?_set_ne (Ne.symm hne), List.getElem?_set_ne e1]
 exact h2
section
variable {α : Type} {H l : List α} {n : Nat} (h : H.length = n)
include h
theorem apn0 : (H ++ l)[n]? = l[0]? := by subst h; exact ap0 H l
theorem apnk (k : Nat) : (H ++ l)[n + k]? = l[k]? := by subst h; exact apk H l k
theorem setn0 (x : α) : (H ++ l).set n x = H ++ l.set 0 x := by subst h; exact set0 H l x
theorem setnk (k : Nat) (x : α) : (H ++ l).set (n + k) x = H ++ l.set k x := by subst h; exact setk H l k x
end
theorem step17_ok [HasWd G] [HasNeg G] [HasIns G] [HasAffine G] [HasBits G] [HasSym G] [HasWinOf G] (s : VS) (x : In4) (z2 : Nat) (h : Bk H b z m s.L) (hz2 : H[z2]? = some (some (.zone s.st.length))) (hne : z2 ≠ z) (hi : Inv s.L) (hs : s.L.length < 900000)
  (hp : s.p.length = 18) (hst : s.st.length ≤ 1000) (hk : x.k < 4294967296) (hx : plainW x = true) :
  SF G 295 [.ptr b 0, .agg (vcs s.p s.st (.own z2)), IV x] H (.agg (vcs (stepV s x).p (stepV s x).st (.own z2))) ((upd H b z m (stepV s x).L).set z2 (some (.zone (stepV s x).st.length))) := by
 refine SF_of HasWinOf.h_window_step (Nat.le_of_ble_eq_true rfl) ?_
 have hlz := (List.getElem?_eq_some_iff.1 hz2).1
 have hlb := h.lb
 obtain ⟨Z, hZ⟩ : ∃ Z : List V, Z = vcs (List.replicate 18 0) [] .full := ⟨_, rfl⟩
 have lZ : Z.length = 19 := by rw [hZ]; rfl
 have drop19 : Z.drop 19 = [] := List.drop_eq_nil_of_le (by omega)
 have kZ : ∀ n, clL n Z = Z := fun n => by rw [hZ]; simp [vcs, cints, clL, V.cl]
 have hal := Alu_ok (G := G) x
 have hxl : x.cs.length = 4 := rfl
 have hxt : x.cs.take 4 = x.cs := rfl
 have kx : ∀ n, clL n x.cs = x.cs := fun n => by simp [In4.cs, clL, V.cl]
 have x0 : x.cs.take 1 = [.int .i64 x.op] := rfl
 have x3 : (x.cs.drop 3).take 1 = [.int .u32 (x.k : Int)] := rfl
 have hZz : [V.int .i64 0, .int .i64 0, .int .i64 0, .int .i64 0, .int .i64 0, .int .i64 0, .int .i64 0, .int .i64 0, .int .i64 0, .int .i64 0, .int .i64 0, .int .i64 0, .int .i64 0, .int .i64 0, .int .i64 0, .int .i64 0, .int .i64 0, .int .i64 0, .vs [] .full] = Z := by rw [hZ]; rfl
 -- the cells of values
 obtain ⟨W, hW⟩ : ∃ W : List Int → List Int → List V, ∀ p st, W p st = vcs p st (.own z2) := ⟨_, fun _ _ => rfl⟩
 have Wl : ∀ p st, p.length = 18 → (W p st).length = 19 := fun p st hp => by rw [hW]; exact vcs_len hp
 have Wt : ∀ p st, p.length = 18 → (W p st).take 19 = W p st := fun p st hp => by rw [hW]; exact vcs_take hp
 have Wc : ∀ p st n, z2 < n → clL n (W p st) = W p st := fun p st n hn => by rw [hW]; exact vcs_cl n z2 hn
 have W0 : ∀ p st, (hp : p.length = 18) → (W p st).take 1 = [.int .i64 (p[0]'(by omega))] := fun p st hp => by rw [hW]; exact vcs_get0 hp
 have W1 : ∀ p st, (hp : p.length = 18) → (W p st).tail.take 1 = [.int .i64 (p[1]'(by omega))] := fun p st hp => by rw [hW]; exact vcs_get1 hp
 have Ws : ∀ p st, p.length = 18 → ((W p st).drop 18).take 1 = [.vs (ints .i64 st) (.own z2)] := fun p st hp => by rw [hW]; exact vcs_st hp
 have S0 : ∀ p st (v : Int), p.length = 18 → .int .i64 v :: (W p st).tail = W (p.set 0 v) st := fun p st v hp => by rw [hW, hW]; exact vcs_set0 v hp
 have S1 : ∀ p st (v : Int), p.length = 18 → (W p st).take 1 ++ (.int .i64 v :: (W p st).drop 2) = W (p.set 1 v) st := fun p st v hp => by rw [hW, hW]; exact vcs_set1 v hp
 have Ss : ∀ p st st', p.length = 18 → (W p st).take 18 ++ (.vs (ints .i64 st') (.own z2) :: (W p st).drop 19) = W p st' := fun p st st' hp => by rw [hW, hW]; exact vcs_setst st' _ hp
 have Wg : ∀ p st (k : Nat), (hp : p.length = 18) → (hk : k < 16) → ((W p st).drop (2 + k)).take 1 = [.int .i64 (p[2 + k]'(by omega))] := fun p st k hp hk => by rw [hW]; exact vcs_get hp (by omega)
 have Wk : ∀ p st (k : Nat) (v : Int), p.length = 18 → k < 16 → (W p st).take (2 + k) ++ (.int .i64 v :: (W p st).drop (2 + k + 1)) = W (p.set (2 + k) v) st := fun p st k v hp hk => by rw [hW, hW]; exact vcs_set v hp (by omega)
 have S1b : ∀ v : Int, V.int .i64 (s.p[0]'(by omega)) :: .int .i64 v :: (W s.p s.st).drop 2 = W (s.p.set 1 v) s.st := fun v => by
  have := S1 s.p s.st v hp
  rw [W0 _ _ hp] at this
  exact this
 have g0 : s.p.getD 0 0 = s.p[0]'(by omega) := by rw [List.getD_eq_getElem?_getD, get_in (by omega)]; rfl
 have g1 : s.p.getD 1 0 = s.p[1]'(by omega) := by rw [List.getD_eq_getElem?_getD, get_in (by omega)]; rfl
 have hsp : ∀ (i : Nat) (v : Int), (s.p.set i v).length = 18 := fun i v => by rw [List.length_set]; exact hp
 have bR : ∀ (H' : Heap) (L' : List Nd) (C' : List V), H'.length = H.length → Bk H' b z m L' → (∀ n, z2 < n → clL n C' = C') → Bk (H' ++ [some (.cells C'), some (.cells x.cs), some (.cells Z)]) b z m L' := fun H' L' C' hl hB hc =>
  hB.app2 fun n hn => by simp at hn; simp [Blk.cl, kx, kZ, hc n (by omega)]
 have bk' : ∀ (L' : List Nd), (upd H b z m L').set z2 (some (.zone s.st.length)) = upd H b z m L' := fun L' => set_same (upd_zone h hz2 hne L')
 rw [← hW, ← hW]
 simp [IV, Wl _ _ hp, hxl, hxt, hZz, ap0, apk, set0, setk, leTn, leFn]
 refine callP_of hal ?_
 cases hal2 : (aluT x.op).2.2 with
 | true =>
  cases hal1 : (aluT x.op).2.1 with
  | false =>
   obtain ⟨q, hq⟩ : ∃ q, q = putN s.L (sumNd (x.k :: zeros 34)) := ⟨_, rfl⟩
   have hby : byV s x = q := by rw [byV, hal1, hq]; rfl
   obtain ⟨r, hr⟩ : ∃ r, r = bAlu q.2 (aluT x.op).1 s.p[0] q.1 := ⟨_, rfl⟩
   have hV : stepV s x = ⟨r.2, s.p.set 0 r.1, s.st⟩ := by rw [stepV, if_pos hal2, hby, g0, ← hr, hal1]; rfl
   have e1 : Ext s.L q.2 1 := by rw [hq]; exact (put_ext hi (sum_good (by simp) (const_lt hk) _)).1
   have l1 := e1.len
   obtain ⟨H1, hH1⟩ : ∃ H1, H1 = upd H b z m q.2 := ⟨_, rfl⟩
   have n1 : H1.length = H.length := by rw [hH1, upd_len]
   have B1 : Bk H1 b z m q.2 := by rw [hH1]; exact h.to e1.inv (by omega)
   have c1 := BConst_ok (G := G) x.k (bR H s.L (W s.p s.st) rfl h (fun n hn => Wc _ _ n hn)) (by omega)
   rw [BF, ← hq, h.upd_app, ← hH1] at c1
   obtain ⟨H2, hH2⟩ : ∃ H2, H2 = upd H b z m r.2 := ⟨_, rfl⟩
   have n2 : H2.length = H.length := by rw [hH2, upd_len]
   have c2 := BAlu_ok (G := G) (aluT x.op).1 s.p[0] q.1 (bR H1 q.2 (W s.p s.st) n1 B1 (fun n hn => Wc _ _ n hn)) e1.inv (by omega)
   rw [BF, ← hr, B1.upd_app, show upd H1 b z m r.2 = H2 by rw [hH1, hH2, h.upd_upd]] at c2
   have fin : ∀ r', trunc H.length (H2 ++ r') = H2 := fun r' => by rw [hH2]; exact h.back _ r'
   have bz : H2.set z2 (some (.zone s.st.length)) = H2 := by rw [hH2]; exact bk' _
   rw [hV]
   simp only [← hH2]
   simp [IV, Wl _ _ hp, Wl _ _ (hsp _ _), Wt _ _ hp, Wt _ _ (hsp _ _), W0 _ _ hp, W1 _ _ hp, Ws _ _ hp, S0 _ _ _ hp, S1 _ _ _ hp, S1b, Ss _ _ _ hp, hxl, hxt, lZ, drop19, x0, x3, leTn, leFn, ap0, apk, set0, setk]
   refine callSF_of c1 ?_
   simp [IV, Wl _ _ hp, Wl _ _ (hsp _ _), Wt _ _ hp, Wt _ _ (hsp _ _), W0 _ _ hp, W1 _ _ hp, Ws _ _ hp, S0 _ _ _ hp, S1 _ _ _ hp, S1b, Ss _ _ _ hp, hxl, hxt, lZ, drop19, x0, x3, leTn, leFn, n1, apn0 n1, apnk n1, setn0 n1, setnk n1]
   refine callSF_of c2 ?_
   simp [IV, Wl _ _ hp, Wl _ _ (hsp _ _), Wt _ _ hp, Wt _ _ (hsp _ _), W0 _ _ hp, W1 _ _ hp, Ws _ _ hp, S0 _ _ _ hp, S1 _ _ _ hp, S1b, Ss _ _ _ hp, hxl, hxt, lZ, drop19, x0, x3, leTn, leFn, n2, apn0 n2, apnk n2, setn0 n2, setnk n2, fin, Wc _ _ _ hlz, bz]
  | true =>
   obtain ⟨r, hr⟩ : ∃ r, r = bAlu s.L (aluT x.op).1 s.p[0] s.p[1] := ⟨_, rfl⟩
   by_cases h52 : (aluT x.op).1 = 52
   ·have hr' := hr
    rw [h52] at hr'
    have hV : stepV s x = ⟨r.2, s.p.set 0 r.1, s.st ++ [s.p[1]]⟩ := by rw [stepV, if_pos hal2]; simp only [byV, hal1, if_true, g0, g1, h52, ← hr', and_self]
    obtain ⟨Hz, hHz⟩ : ∃ Hz, Hz = H.set z2 (some (.zone (s.st.length + 1))) := ⟨_, rfl⟩
    have nz' : Hz.length = H.length := by rw [hHz, List.length_set]
    have Bz : Bk Hz b z m s.L := by rw [hHz]; exact h.setz hz2 hne
    obtain ⟨H2, hH2⟩ : ∃ H2, H2 = upd Hz b z m r.2 := ⟨_, rfl⟩
    have n2 : H2.length = H.length := by rw [hH2, upd_len, nz']
    have B4 : Bk (Hz ++ [some (.cells (W s.p (s.st ++ [s.p[1]]))), some (.cells x.cs), some (.cells Z), none]) b z m s.L := Bz.app2 fun n hn => by simp at hn; simp [Blk.cl, kx, kZ, Wc _ _ n (show z2 < n by omega)]
    have c2 := BAlu_ok (G := G) (aluT x.op).1 s.p[0] s.p[1] B4 hi (by omega)
    rw [BF, ← hr, Bz.upd_app, ← hH2] at c2
    have h8 : ((s.st.length + 1) * 8 ≤ 140737488355328) = True := eq_true (by omega)
    have fin : ∀ r', trunc H.length (H2 ++ r') = H2 := fun r' => by rw [hH2, ← nz']; exact Bz.back _ r'
    have bz : (upd H b z m r.2).set z2 (some (.zone (s.st.length + 1))) = H2 := by rw [hH2, hHz, upd_setz h hz2 hne]
    have gz : ∀ r', (H ++ r')[z2]? = some (some (.zone s.st.length)) := fun r' => by rw [List.getElem?_append_left hlz]; exact hz2
    have sz : ∀ (y : Option Blk) (r' : Heap), (H ++ r').set z2 y = H.set z2 y ++ r' := fun y r' => List.set_append_left _ _ hlz
    have e52 : ((aluT x.op).1 == 52) = true := beqT h52
    have hpp : ∀ st : List Int, True := fun _ => trivial
    rw [hV]
    simp [IV, Wl _ _ hp, Wl _ _ (hsp _ _), Wt _ _ hp, Wt _ _ (hsp _ _), W0 _ _ hp, W1 _ _ hp, Ws _ _ hp, S0 _ _ _ hp, S1 _ _ _ hp, S1b, Ss _ _ _ hp, hxl, hxt, lZ, drop19, x0, x3, leTn, leFn, ap0, apk, set0, setk, e52, gz, sz, ← hHz, h8, nz', apn0 nz', apnk nz', setn0 nz', setnk nz']
    refine callSF_of c2 ?_
    simp [IV, Wl _ _ hp, Wl _ _ (hsp _ _), Wt _ _ hp, Wt _ _ (hsp _ _), W0 _ _ hp, W1 _ _ hp, Ws _ _ hp, S0 _ _ _ hp, S1 _ _ _ hp, S1b, Ss _ _ _ hp, hxl, hxt, lZ, drop19, x0, x3, leTn, leFn, n2, apn0 n2, apnk n2, setn0 n2, setnk n2, fin, Wc _ _ _ hlz, bz]
   ·have hV : stepV s x = ⟨r.2, s.p.set 0 r.1, s.st⟩ := by rw [stepV, if_pos hal2]; simp only [byV, hal1, if_true, g0, g1, ← hr, h52, and_false, if_false]
    have e52 : ((aluT x.op).1 == 52) = false := beqF h52
    obtain ⟨H2, hH2⟩ : ∃ H2, H2 = upd H b z m r.2 := ⟨_, rfl⟩
    have n2 : H2.length = H.length := by rw [hH2, upd_len]
    have c2 := BAlu_ok (G := G) (aluT x.op).1 s.p[0] s.p[1] (bR H s.L (W s.p s.st) rfl h (fun n hn => Wc _ _ n hn)) hi (by omega)
    rw [BF, ← hr, h.upd_app, ← hH2] at c2
    have fin : ∀ r', trunc H.length (H2 ++ r') = H2 := fun r' => by rw [hH2]; exact h.back _ r'
    have bz : H2.set z2 (some (.zone s.st.length)) = H2 := by rw [hH2]; exact bk' _
    rw [hV]
    simp only [← hH2]
    simp [IV, Wl _ _ hp, Wl _ _ (hsp _ _), Wt _ _ hp, Wt _ _ (hsp _ _), W0 _ _ hp, W1 _ _ hp, Ws _ _ hp, S0 _ _ _ hp, S1 _ _ _ hp, S1b, Ss _ _ _ hp, hxl, hxt, lZ, drop19, x0, x3, leTn, leFn, ap0, apk, set0, setk, e52]
    refine callSF_of c2 ?_
    simp [IV, Wl _ _ hp, Wl _ _ (hsp _ _), Wt _ _ hp, Wt _ _ (hsp _ _), W0 _ _ hp, W1 _ _ hp, Ws _ _ hp, S0 _ _ _ hp, S1 _ _ _ hp, S1b, Ss _ _ _ hp, hxl, hxt, lZ, drop19, x0, x3, leTn, leFn, n2, apn0 n2, apnk n2, setn0 n2, setnk n2, fin, Wc _ _ _ hlz, bz]
 | false =>
  have hmem : x.op = 96 ∨ x.op = 97 ∨ x.op = 2 ∨ x.op = 3 → x.k < 16 := fun ho => by
   simp only [plainW, Bool.and_eq_true] at hx
   have h2 := hx.2
   rcases ho with ho | ho | ho | ho <;> simp [ruleB, ho] at h2 <;> exact h2
  have hbk := h.shut.back
  have cvk : convI .i64 (x.k : Int) = (x.k : Int) := wrap_nat64 (by omega)
  have hus := h.upd_self
  have bz0 : H.set z2 (some (.zone s.st.length)) = H := set_same hz2
  have bRK := bR H s.L (W s.p s.st) rfl h (fun n hn => Wc _ _ n hn)
  simp [IV, Wl _ _ hp, Wl _ _ (hsp _ _), Wt _ _ hp, Wt _ _ (hsp _ _), W0 _ _ hp, W1 _ _ hp, Ws _ _ hp, S0 _ _ _ hp, S1 _ _ _ hp, S1b, Ss _ _ _ hp, hxl, hxt, lZ, drop19, x0, x3, leTn, leFn, ap0, apk, set0, setk]
  by_cases o0 : x.op = 0
  ·have hV : ∀ q, q = putN s.L (sumNd (x.k :: zeros 34)) → stepV s x = ⟨q.2, s.p.set 0 q.1, s.st⟩ := fun q hq => by rw [stepV, if_neg (by simp [hal2]), if_pos o0, ← hq]
   obtain ⟨q, hq⟩ : ∃ q, q = putN s.L (sumNd (x.k :: zeros 34)) := ⟨_, rfl⟩
   have e1 : Ext s.L q.2 3 := by rw [hq]; exact (put_ext hi (sum_good (by simp) (const_lt hk) _)).1.mono (by omega)
   have l1 := e1.len
   obtain ⟨H2, hH2⟩ : ∃ H2, H2 = upd H b z m q.2 := ⟨_, rfl⟩
   have n2 : H2.length = H.length := by rw [hH2, upd_len]
   have c2 := BConst_ok (G := G) x.k bRK (by omega)
   rw [BF, ← hq, h.upd_app, ← hH2] at c2
   have fin : ∀ r', trunc H.length (H2 ++ r') = H2 := fun r' => by rw [hH2]; exact h.back _ r'
   have bz : H2.set z2 (some (.zone s.st.length)) = H2 := by rw [hH2]; exact bk' _
   rw [hV q hq]
   simp only [← hH2]
   simp (disch := omega) [IV, Wl _ _ hp, Wl _ _ (hsp _ _), Wt _ _ hp, Wt _ _ (hsp _ _), W0 _ _ hp, W1 _ _ hp, Ws _ _ hp, S0 _ _ _ hp, S1 _ _ _ hp, S1b, Ss _ _ _ hp, hxl, hxt, lZ, drop19, x0, x3, leTn, leFn, ap0, apk, set0, setk, o0]
   refine callSF_of c2 ?_
   simp [IV, Wl _ _ hp, Wl _ _ (hsp _ _), Wt _ _ hp, Wt _ _ (hsp _ _), W0 _ _ hp, W1 _ _ hp, Ws _ _ hp, S0 _ _ _ hp, S1 _ _ _ hp, S1b, Ss _ _ _ hp, hxl, hxt, lZ, drop19, x0, x3, leTn, leFn, n2, apn0 n2, apnk n2, setn0 n2, setnk n2, fin, Wc _ _ _ hlz, bz]
  have b0 : (x.op == 0) = false := beqF o0
  by_cases o1 : x.op = 1
  ·have hV : ∀ q, q = putN s.L (sumNd (x.k :: zeros 34)) → stepV s x = ⟨q.2, s.p.set 1 q.1, s.st⟩ := fun q hq => by rw [stepV, if_neg (by simp [hal2]), if_neg o0, if_pos o1, ← hq]
   obtain ⟨q, hq⟩ : ∃ q, q = putN s.L (sumNd (x.k :: zeros 34)) := ⟨_, rfl⟩
   have e1 : Ext s.L q.2 3 := by rw [hq]; exact (put_ext hi (sum_good (by simp) (const_lt hk) _)).1.mono (by omega)
   have l1 := e1.len
   obtain ⟨H2, hH2⟩ : ∃ H2, H2 = upd H b z m q.2 := ⟨_, rfl⟩
   have n2 : H2.length = H.length := by rw [hH2, upd_len]
   have c2 := BConst_ok (G := G) x.k bRK (by omega)
   rw [BF, ← hq, h.upd_app, ← hH2] at c2
   have fin : ∀ r', trunc H.length (H2 ++ r') = H2 := fun r' => by rw [hH2]; exact h.back _ r'
   have bz : H2.set z2 (some (.zone s.st.length)) = H2 := by rw [hH2]; exact bk' _
   rw [hV q hq]
   simp only [← hH2]
   simp (disch := omega) [IV, Wl _ _ hp, Wl _ _ (hsp _ _), Wt _ _ hp, Wt _ _ (hsp _ _), W0 _ _ hp, W1 _ _ hp, Ws _ _ hp, S0 _ _ _ hp, S1 _ _ _ hp, S1b, Ss _ _ _ hp, hxl, hxt, lZ, drop19, x0, x3, leTn, leFn, ap0, apk, set0, setk, o1]
   refine callSF_of c2 ?_
   simp [IV, Wl _ _ hp, Wl _ _ (hsp _ _), Wt _ _ hp, Wt _ _ (hsp _ _), W0 _ _ hp, W1 _ _ hp, Ws _ _ hp, S0 _ _ _ hp, S1 _ _ _ hp, S1b, Ss _ _ _ hp, hxl, hxt, lZ, drop19, x0, x3, leTn, leFn, n2, apn0 n2, apnk n2, setn0 n2, setnk n2, fin, Wc _ _ _ hlz, bz]
  have b1 : (x.op == 1) = false := beqF o1
  by_cases o32 : x.op = 32
  ·have hV : ∀ q, q = varN s.L (18 + (x.k / 4 : Nat)) → stepV s x = ⟨q.2, s.p.set 0 q.1, s.st⟩ := fun q hq => by rw [stepV, if_neg (by simp [hal2]), if_neg o0, if_neg o1, if_pos o32, ← hq]
   have qd : quoI .i64 (x.k : Int) 4 = ((x.k / 4 : Nat) : Int) := quo64 (b := 4) (by omega)
   have ad : addI .i64 18 ((x.k / 4 : Nat) : Int) = 18 + ((x.k / 4 : Nat) : Int) := addI64 (by omega) (by omega)
   obtain ⟨q, hq⟩ : ∃ q, q = varN s.L (18 + (x.k / 4 : Nat)) := ⟨_, rfl⟩
   have e1 : Ext s.L q.2 3 := by rw [hq]; exact (var_ext hi).mono (by omega)
   have l1 := e1.len
   obtain ⟨H2, hH2⟩ : ∃ H2, H2 = upd H b z m q.2 := ⟨_, rfl⟩
   have n2 : H2.length = H.length := by rw [hH2, upd_len]
   have c2 := BVar_ok (G := G) (18 + ((x.k / 4 : Nat) : Int)) bRK (by omega)
   rw [BF, ← hq, h.upd_app, ← hH2] at c2
   have fin : ∀ r', trunc H.length (H2 ++ r') = H2 := fun r' => by rw [hH2]; exact h.back _ r'
   have bz : H2.set z2 (some (.zone s.st.length)) = H2 := by rw [hH2]; exact bk' _
   rw [hV q hq]
   simp only [← hH2]
   simp (disch := omega) [IV, Wl _ _ hp, Wl _ _ (hsp _ _), Wt _ _ hp, Wt _ _ (hsp _ _), W0 _ _ hp, W1 _ _ hp, Ws _ _ hp, S0 _ _ _ hp, S1 _ _ _ hp, S1b, Ss _ _ _ hp, hxl, hxt, lZ, drop19, x0, x3, leTn, leFn, ap0, apk, set0, setk, o32, cvk, qd, ad, -Int.natCast_ediv]
   refine callSF_of c2 ?_
   simp [IV, Wl _ _ hp, Wl _ _ (hsp _ _), Wt _ _ hp, Wt _ _ (hsp _ _), W0 _ _ hp, W1 _ _ hp, Ws _ _ hp, S0 _ _ _ hp, S1 _ _ _ hp, S1b, Ss _ _ _ hp, hxl, hxt, lZ, drop19, x0, x3, leTn, leFn, n2, apn0 n2, apnk n2, setn0 n2, setnk n2, fin, Wc _ _ _ hlz, bz]
  have b32 : (x.op == 32) = false := beqF o32
  have flat : ∀ (p' : List Int), p'.length = 18 → stepV s x = ⟨s.L, p', s.st⟩ → V.agg (W p' s.st) = V.agg (vcs (stepV s x).p (stepV s x).st (.own z2)) ∧ (upd H b z m (stepV s x).L).set z2 (some (.zone (stepV s x).st.length)) = H := fun p' hp' e => by
   rw [e]
   refine ⟨by rw [hW], ?_⟩
   show (upd H b z m s.L).set z2 (some (.zone s.st.length)) = H
   rw [hus, bz0]
  by_cases o96 : x.op = 96
  ·have hk16 := hmem (by omega)
   have ad : addI .i64 2 (x.k : Int) = ((2 + x.k : Nat) : Int) := by rw [addI64 (by omega) (by omega)]; omega
   have gk : s.p.getD (2 + x.k) 0 = s.p[2 + x.k]'(by omega) := by rw [List.getD_eq_getElem?_getD, get_in (by omega)]; rfl
   have hV : stepV s x = ⟨s.L, s.p.set 0 (s.p[2 + x.k]'(by have := hmem (by omega); omega)), s.st⟩ := by rw [stepV, if_neg (by simp [hal2]), if_neg o0, if_neg o1, if_neg o32, if_pos o96, gk]
   have hw1 := Wg s.p s.st x.k hp hk16
   have hw2 := fun v => Wk s.p s.st x.k v hp hk16
   rw [hV]
   simp (disch := omega) [IV, Wl _ _ hp, Wl _ _ (hsp _ _), Wt _ _ hp, Wt _ _ (hsp _ _), W0 _ _ hp, W1 _ _ hp, Ws _ _ hp, S0 _ _ _ hp, S1 _ _ _ hp, S1b, Ss _ _ _ hp, hxl, hxt, lZ, drop19, x0, x3, leTn, leFn, ap0, apk, set0, setk, o96, cvk, ad, ltT, ltF, leF, leT, hw1, hw2, -Int.natCast_add, hus, bz0, hbk, Wc _ _ _ hlz]
  have b96 : (x.op == 96) = false := beqF o96
  by_cases o97 : x.op = 97
  ·have hk16 := hmem (by omega)
   have ad : addI .i64 2 (x.k : Int) = ((2 + x.k : Nat) : Int) := by rw [addI64 (by omega) (by omega)]; omega
   have gk : s.p.getD (2 + x.k) 0 = s.p[2 + x.k]'(by omega) := by rw [List.getD_eq_getElem?_getD, get_in (by omega)]; rfl
   have hV : stepV s x = ⟨s.L, s.p.set 1 (s.p[2 + x.k]'(by have := hmem (by omega); omega)), s.st⟩ := by rw [stepV, if_neg (by simp [hal2]), if_neg o0, if_neg o1, if_neg o32, if_neg o96, if_pos o97, gk]
   have hw1 := Wg s.p s.st x.k hp hk16
   have hw2 := fun v => Wk s.p s.st x.k v hp hk16
   rw [hV]
   simp (disch := omega) [IV, Wl _ _ hp, Wl _ _ (hsp _ _), Wt _ _ hp, Wt _ _ (hsp _ _), W0 _ _ hp, W1 _ _ hp, Ws _ _ hp, S0 _ _ _ hp, S1 _ _ _ hp, S1b, Ss _ _ _ hp, hxl, hxt, lZ, drop19, x0, x3, leTn, leFn, ap0, apk, set0, setk, o97, cvk, ad, ltT, ltF, leF, leT, hw1, hw2, -Int.natCast_add, hus, bz0, hbk, Wc _ _ _ hlz]
  have b97 : (x.op == 97) = false := beqF o97
  by_cases o2 : x.op = 2
  ·have hk16 := hmem (by omega)
   have ad : addI .i64 2 (x.k : Int) = ((2 + x.k : Nat) : Int) := by rw [addI64 (by omega) (by omega)]; omega
   have gk : s.p.getD (2 + x.k) 0 = s.p[2 + x.k]'(by omega) := by rw [List.getD_eq_getElem?_getD, get_in (by omega)]; rfl
   have hV : stepV s x = ⟨s.L, s.p.set (2 + x.k) s.p[0], s.st⟩ := by rw [stepV, if_neg (by simp [hal2]), if_neg o0, if_neg o1, if_neg o32, if_neg o96, if_neg o97, if_pos o2, g0]
   have hw1 := Wg s.p s.st x.k hp hk16
   have hw2 := fun v => Wk s.p s.st x.k v hp hk16
   rw [hV]
   simp (disch := omega) [IV, Wl _ _ hp, Wl _ _ (hsp _ _), Wt _ _ hp, Wt _ _ (hsp _ _), W0 _ _ hp, W1 _ _ hp, Ws _ _ hp, S0 _ _ _ hp, S1 _ _ _ hp, S1b, Ss _ _ _ hp, hxl, hxt, lZ, drop19, x0, x3, leTn, leFn, ap0, apk, set0, setk, o2, cvk, ad, ltT, ltF, leF, leT, hw1, hw2, -Int.natCast_add, hus, bz0, hbk, Wc _ _ _ hlz]
  have b2 : (x.op == 2) = false := beqF o2
  by_cases o3 : x.op = 3
  ·have hk16 := hmem (by omega)
   have ad : addI .i64 2 (x.k : Int) = ((2 + x.k : Nat) : Int) := by rw [addI64 (by omega) (by omega)]; omega
   have gk : s.p.getD (2 + x.k) 0 = s.p[2 + x.k]'(by omega) := by rw [List.getD_eq_getElem?_getD, get_in (by omega)]; rfl
   have hV : stepV s x = ⟨s.L, s.p.set (2 + x.k) s.p[1], s.st⟩ := by rw [stepV, if_neg (by simp [hal2]), if_neg o0, if_neg o1, if_neg o32, if_neg o96, if_neg o97, if_neg o2, if_pos o3, g1]
   have hw1 := Wg s.p s.st x.k hp hk16
   have hw2 := fun v => Wk s.p s.st x.k v hp hk16
   rw [hV]
   simp (disch := omega) [IV, Wl _ _ hp, Wl _ _ (hsp _ _), Wt _ _ hp, Wt _ _ (hsp _ _), W0 _ _ hp, W1 _ _ hp, Ws _ _ hp, S0 _ _ _ hp, S1 _ _ _ hp, S1b, Ss _ _ _ hp, hxl, hxt, lZ, drop19, x0, x3, leTn, leFn, ap0, apk, set0, setk, o3, cvk, ad, ltT, ltF, leF, leT, hw1, hw2, -Int.natCast_add, hus, bz0, hbk, Wc _ _ _ hlz]
  have b3 : (x.op == 3) = false := beqF o3
  by_cases o132 : x.op = 132
  ·have hV : ∀ q, q = bNeg s.L s.p[0] → stepV s x = ⟨q.2, s.p.set 0 q.1, s.st⟩ := fun q hq => by rw [stepV, if_neg (by simp [hal2]), if_neg o0, if_neg o1, if_neg o32, if_neg o96, if_neg o97, if_neg o2, if_neg o3, if_pos o132, g0, ← hq]
   obtain ⟨q, hq⟩ : ∃ q, q = bNeg s.L s.p[0] := ⟨_, rfl⟩
   have e1 : Ext s.L q.2 3 := by rw [hq]; exact neg_ext hi
   have l1 := e1.len
   obtain ⟨H2, hH2⟩ : ∃ H2, H2 = upd H b z m q.2 := ⟨_, rfl⟩
   have n2 : H2.length = H.length := by rw [hH2, upd_len]
   have c2 := BNeg_ok (G := G) s.p[0] bRK hi (by omega)
   rw [BF, ← hq, h.upd_app, ← hH2] at c2
   have fin : ∀ r', trunc H.length (H2 ++ r') = H2 := fun r' => by rw [hH2]; exact h.back _ r'
   have bz : H2.set z2 (some (.zone s.st.length)) = H2 := by rw [hH2]; exact bk' _
   rw [hV q hq]
   simp only [← hH2]
   simp (disch := omega) [IV, Wl _ _ hp, Wl _ _ (hsp _ _), Wt _ _ hp, Wt _ _ (hsp _ _), W0 _ _ hp, W1 _ _ hp, Ws _ _ hp, S0 _ _ _ hp, S1 _ _ _ hp, S1b, Ss _ _ _ hp, hxl, hxt, lZ, drop19, x0, x3, leTn, leFn, ap0, apk, set0, setk, o132]
   refine callSF_of c2 ?_
   simp [IV, Wl _ _ hp, Wl _ _ (hsp _ _), Wt _ _ hp, Wt _ _ (hsp _ _), W0 _ _ hp, W1 _ _ hp, Ws _ _ hp, S0 _ _ _ hp, S1 _ _ _ hp, S1b, Ss _ _ _ hp, hxl, hxt, lZ, drop19, x0, x3, leTn, leFn, n2, apn0 n2, apnk n2, setn0 n2, setnk n2, fin, Wc _ _ _ hlz, bz]
  have b132 : (x.op == 132) = false := beqF o132
  by_cases o7 : x.op = 7
  ·have hV : stepV s x = ⟨s.L, (s.p.set 1 s.p[0]).set 0 s.p[0], s.st⟩ := by rw [stepV, if_neg (by simp [hal2]), if_neg o0, if_neg o1, if_neg o32, if_neg o96, if_neg o97, if_neg o2, if_neg o3, if_neg o132, if_pos o7, g0]
   have hp1 : (s.p.set 1 s.p[0]).length = 18 := hsp _ _
   have w1 := W1 (s.p.set 1 s.p[0]) s.st hp1
   have w0 := S0 (s.p.set 1 s.p[0]) s.st s.p[0] hp1
   have hp2 : ((s.p.set 1 s.p[0]).set 0 s.p[0]).length = 18 := by rw [List.length_set]; exact hp1
   have w2 := Wl ((s.p.set 1 s.p[0]).set 0 s.p[0]) s.st hp2
   have w3 := Wt ((s.p.set 1 s.p[0]).set 0 s.p[0]) s.st hp2
   simp at w1
   rw [hV]
   simp (disch := omega) [IV, Wl _ _ hp, Wl _ _ (hsp _ _), Wt _ _ hp, Wt _ _ (hsp _ _), W0 _ _ hp, W1 _ _ hp, Ws _ _ hp, S0 _ _ _ hp, S1 _ _ _ hp, S1b, Ss _ _ _ hp, hxl, hxt, lZ, drop19, x0, x3, leTn, leFn, ap0, apk, set0, setk, o7, hus, bz0, hbk, Wc _ _ _ hlz, w0, w1, w2, w3]
  have b7 : (x.op == 7) = false := beqF o7
  by_cases o135 : x.op = 135
  ·have hV : stepV s x = ⟨s.L, s.p.set 0 s.p[1], s.st⟩ := by rw [stepV, if_neg (by simp [hal2]), if_neg o0, if_neg o1, if_neg o32, if_neg o96, if_neg o97, if_neg o2, if_neg o3, if_neg o132, if_neg o7, if_pos o135, g1]
   rw [hV]
   simp (disch := omega) [IV, Wl _ _ hp, Wl _ _ (hsp _ _), Wt _ _ hp, Wt _ _ (hsp _ _), W0 _ _ hp, W1 _ _ hp, Ws _ _ hp, S0 _ _ _ hp, S1 _ _ _ hp, S1b, Ss _ _ _ hp, hxl, hxt, lZ, drop19, x0, x3, leTn, leFn, ap0, apk, set0, setk, o135, hus, bz0, hbk, Wc _ _ _ hlz]
  have b135 : (x.op == 135) = false := beqF o135
  have hV : stepV s x = s := by rw [stepV, if_neg (by simp [hal2]), if_neg o0, if_neg o1, if_neg o32, if_neg o96, if_neg o97, if_neg o2, if_neg o3, if_neg o132, if_neg o7, if_neg o135]
  rw [hV]
  simp (disch := omega) [IV, Wl _ _ hp, Wl _ _ (hsp _ _), Wt _ _ hp, Wt _ _ (hsp _ _), W0 _ _ hp, W1 _ _ hp, Ws _ _ hp, S0 _ _ _ hp, S1 _ _ _ hp, S1b, Ss _ _ _ hp, hxl, hxt, lZ, drop19, x0, x3, leTn, leFn, ap0, apk, set0, setk, b0, b1, b32, b96, b97, b2, b3, b132, b7, b135, cvk, hus, bz0, hbk, Wc _ _ _ hlz]
end Go.Ev
/- The values of a window. -/
namespace Go.Ev
open Go Go.RowKit
variable {G : Tbl}
set_option maxRecDepth 10000
set_option maxHeartbeats 1000000
set_option linter.unusedSimpArgs false
set_option linter.unusedVariables false
variable {H : Heap} {b z m : Nat} {L : List Nd}
noncomputable def varV (s : VS) (i : Nat) : VS := ⟨(varN s.L i).2, s.p.set i (varN s.L i).1, s.st⟩
noncomputable def varsV (L : List Nd) (n : Nat) : VS := (List.range n).foldl varV ⟨L, List.replicate 18 0, []⟩
theorem varsV_succ (L : List Nd) (n : Nat) : varsV L (n + 1) = varV (varsV L n) n := by simp [varsV, List.range_succ]
noncomputable def winV (L : List Nd) (w : List In4) : VS := w.foldl stepV (varsV L 18)
theorem winV_snoc (L : List Nd) (w : List In4) (x : In4) : winV L (w ++ [x]) = stepV (winV L w) x := by simp [winV]
structure VOk (L : List Nd) (s : VS) (k n : Nat) : Prop where
 ext : Ext L s.L k
 len : s.p.length = 18
 st : s.st.length ≤ n
theorem stepV_ok {s : VS} {k n : Nat} (h : VOk L s k n) {x : In4} (hk : x.k < 4294967296) : VOk L (stepV s x) (k + 3) (n + 1) := by
 have hi := h.ext.inv
 have flat : ∀ p : List Int, p.length = 18 → VOk L ⟨s.L, p, s.st⟩ (k + 3) (n + 1) := fun p hp => ⟨h.ext.mono (by omega), hp, by have := h.st; show s.st.length ≤ _; omega⟩
 have put : ∀ (q : Int × List Nd) (p : List Int) (st : List Int), Ext s.L q.2 3 → p.length = 18 → st.length ≤ n + 1 → VOk L ⟨q.2, p, st⟩ (k + 3) (n + 1) := fun q p st e hp hs => ⟨h.ext.trans e, hp, hs⟩
 have hst := h.st
 have ec : Ext s.L (putN s.L (sumNd (x.k :: zeros 34))).2 1 := (put_ext hi (sum_good (by simp) (const_lt hk) _)).1
 rw [stepV]
 split
 ·have eb : Ext s.L (byV s x).2 1 := by
   rw [byV]
   split
   ·exact .refl hi 1
   ·exact ec
  refine put (bAlu (byV s x).2 (aluT x.op).1 (s.p.getD 0 0) (byV s x).1) _ _ (eb.trans (alu_ext eb.inv)) (by rw [List.length_set]; exact h.len) ?_
  split
  ·simp; omega
  ·omega
 ·split
  ·exact put _ _ _ (ec.mono (by omega)) (by rw [List.length_set]; exact h.len) (by omega)
  ·split
   ·exact put _ _ _ (ec.mono (by omega)) (by rw [List.length_set]; exact h.len) (by omega)
   ·split
    ·exact put _ _ _ ((var_ext hi).mono (by omega)) (by rw [List.length_set]; exact h.len) (by omega)
    ·split
     ·exact flat _ (by rw [List.length_set]; exact h.len)
     ·split
      ·exact flat _ (by rw [List.length_set]; exact h.len)
      ·split
       ·exact flat _ (by rw [List.length_set]; exact h.len)
       ·split
        ·exact flat _ (by rw [List.length_set]; exact h.len)
        ·split
         ·exact put _ _ _ (neg_ext hi) (by rw [List.length_set]; exact h.len) (by omega)
         ·split
          ·exact flat _ (by rw [List.length_set, List.length_set]; exact h.len)
          ·split
           ·exact flat _ (by rw [List.length_set]; exact h.len)
           ·exact flat _ h.len
theorem varsV_ok (h : Inv L) : ∀ n, VOk L (varsV L n) n 0
 | 0 => ⟨.refl h 0, by simp [varsV], by simp [varsV]⟩
 | n + 1 => by
  have ih := varsV_ok h n
  rw [varsV_succ]
  exact ⟨ih.ext.trans (var_ext ih.ext.inv), by show (List.set _ _ _).length = 18; rw [List.length_set]; exact ih.len, ih.st⟩
theorem varsV_st (L : List Nd) : ∀ n, (varsV L n).st = []
 | 0 => by simp [varsV]
 | n + 1 => by rw [varsV_succ]; exact varsV_st L n
theorem winV_ok (h : Inv L) : ∀ (w : List In4), (∀ x ∈ w, x.k < 4294967296) → VOk L (winV L w) (18 + 3 * w.length) w.length := fun w => by
 have : ∀ (w : List In4) (s : VS) (k n : Nat), VOk L s k n → (∀ x ∈ w, x.k < 4294967296) → VOk L (w.foldl stepV s) (k + 3 * w.length) (n + w.length) := fun w => by
  induction w with
  | nil => intro s k n h _; exact h
  | cons x w ih =>
   intro s k n h hw
   have := ih (stepV s x) (k + 3) (n + 1) (stepV_ok h (hw x (by simp))) fun y hy => hw y (by simp [hy])
   have e1 : k + 3 + 3 * w.length = k + 3 * (x :: w).length := by simp; omega
   have e2 : n + 1 + w.length = n + (x :: w).length := by simp; omega
   rw [e1, e2] at this
   exact this
 intro hw
 have := this w (varsV L 18) 18 0 (varsV_ok h 18) hw
 rwa [Nat.zero_add] at this
theorem Of_no [HasIns G] [HasCheck G] [HasWRight G] [HasWinOf G] (w : List In4) (h : Bk H b z m L) (hf : w.length ≤ maxLen) (hk : ∀ x ∈ w, x.k < 4294967296) (hw : winB w = false) :
  SF G 296 [.ptr b 0, FL w] H (.tup [.agg (vcs (List.replicate 18 0) [] .full), .bool false]) H := by
 refine SF_of HasWinOf.h_window_Of (Nat.le_of_ble_eq_true rfl) ?_
 have hbk := h.shut.back
 have hr := WRight_ok (G := G) w hf hk
 simp [FL] at hr ⊢
 refine callP_of hr ?_
 simp [hw, ap0, apk, set0, setk, hbk, vcs, cints]
theorem Of_ok [HasWd G] [HasNeg G] [HasIns G] [HasCheck G] [HasWRight G] [HasAffine G] [HasBits G] [HasSym G] [HasWinOf G] (w : List In4) (h : Bk H b z m L) (hi : Inv L) (hs : L.length ≤ 800000) (hf : w.length ≤ maxLen) (hk : ∀ x ∈ w, x.k < 4294967296) (hw : winB w = true) :
  SF G 296 [.ptr b 0, FL w] H (.tup [.agg (vcs (winV L w).p (winV L w).st .no), .bool true]) (upd H b z m (winV L w).L) := by
 refine SF_of HasWinOf.h_window_Of (Nat.le_of_ble_eq_true rfl) ?_
 have hlz := h.lz
 have hlb := h.lb
 have hus := h.upd_self
 have hr := WRight_ok (G := G) w hf hk
 have hw32 : w.length ≤ 32 := by simp only [winB, Bool.and_eq_true, decide_eq_true_eq] at hw; exact hw.1
 have hwp : ∀ x ∈ w, plainW x = true := by simp only [winB, Bool.and_eq_true, List.all_eq_true] at hw; exact hw.2
 obtain ⟨Z, hZ⟩ : ∃ Z : List V, Z = vcs (List.replicate 18 0) [] .full := ⟨_, rfl⟩
 have lZ : Z.length = 19 := by rw [hZ]; rfl
 have drop19 : Z.drop 19 = [] := List.drop_eq_nil_of_le (by omega)
 have kZ : ∀ n, clL n Z = Z := fun n => by rw [hZ]; simp [vcs, cints, clL, V.cl]
 have z18 : Z[18]? = some (.vs [] .full) := by rw [hZ]; rfl
 have z18' := (List.getElem?_eq_some_iff.1 z18).2
 have hZz : [V.int .i64 0, .int .i64 0, .int .i64 0, .int .i64 0, .int .i64 0, .int .i64 0, .int .i64 0, .int .i64 0, .int .i64 0, .int .i64 0, .int .i64 0, .int .i64 0, .int .i64 0, .int .i64 0, .int .i64 0, .int .i64 0, .int .i64 0, .int .i64 0, .vs [] .full] = Z := by rw [hZ]; rfl
 obtain ⟨z2, hz2⟩ : ∃ z2, z2 = H.length + 2 := ⟨_, rfl⟩
 obtain ⟨W, hW⟩ : ∃ W : List Int → List Int → List V, ∀ p st, W p st = vcs p st (.own z2) := ⟨_, fun _ _ => rfl⟩
 have Wl : ∀ p st, p.length = 18 → (W p st).length = 19 := fun p st hp => by rw [hW]; exact vcs_len hp
 have Wt : ∀ p st, p.length = 18 → (W p st).take 19 = W p st := fun p st hp => by rw [hW]; exact vcs_take hp
 have Wc : ∀ p st n, z2 < n → clL n (W p st) = W p st := fun p st n hn => by rw [hW]; exact vcs_cl n z2 hn
 have Wd : ∀ p st, p.length = 18 → (W p st).drop 19 = [] := fun p st hp => List.drop_eq_nil_of_le (by rw [Wl _ _ hp]; omega)
 have Wn : ∀ p st, clL H.length (W p st) = vcs p st .no := fun p st => by
  rw [hW, clL_eq_map, vcs, vcs, hz2]
  simp [cints, Function.comp_def, V.cl, Tk.cl]
 have zset : Z.set 18 (.vs [] (.own z2)) = W (List.replicate 18 0) [] := by rw [hZ, hW]; rfl
 -- the blocks
 obtain ⟨BB, hBB⟩ : ∃ BB : VS → Heap, ∀ s, BB s = upd H b z m s.L ++ [some (.cells Z), some (.cells (W s.p s.st)), some (.zone s.st.length)] := ⟨_, fun _ => rfl⟩
 have bl : ∀ s, (BB s).length = H.length + 3 := fun s => by rw [hBB]; simp [upd_len]
 have bK : ∀ (s : VS) (r : Heap), Inv s.L → s.L.length ≤ 1000000 → (∀ n, r.map (Option.map (Blk.cl n)) = r) → Bk (upd H b z m s.L ++ some (.cells Z) :: some (.cells (W s.p s.st)) :: some (.zone s.st.length) :: r) b z m s.L := fun s r hi' hs' hr =>
  (h.to hi' hs').app2 fun n hn => by
   simp [upd_len] at hn
   simp only [List.map_cons, Option.map_some, Blk.cl, kZ, Wc s.p s.st n (by omega), hr n]
 have tr : ∀ (s : VS) (r : Heap), Inv s.L → s.L.length ≤ 1000000 → trunc (H.length + 3) (upd H b z m s.L ++ some (.cells Z) :: some (.cells (W s.p s.st)) :: some (.zone s.st.length) :: r) = BB s := fun s r hi' hs' => by
  have := (bK s [] hi' hs' fun n => rfl).shut.back r
  simp [upd_len] at this
  rw [hBB]; exact this
 have nU : ∀ L', (upd H b z m L').length = H.length := fun L' => upd_len _ _ _ _ _
 have g0 : ∀ (L' : List Nd) (r : Heap), (upd H b z m L' ++ r)[H.length]? = r[0]? := fun L' r => apn0 (nU L')
 have gk : ∀ (L' : List Nd) (r : Heap) (k : Nat), (upd H b z m L' ++ r)[H.length + k]? = r[k]? := fun L' r k => apnk (nU L') k
 have sk : ∀ (L' : List Nd) (r : Heap) (k : Nat) (x : Option Blk), (upd H b z m L' ++ r).set (H.length + k) x = upd H b z m L' ++ r.set k x := fun L' r k x => setnk (nU L') k x
 have s0 : ∀ (L' : List Nd) (r : Heap) (x : Option Blk), (upd H b z m L' ++ r).set H.length x = upd H b z m L' ++ r.set 0 x := fun L' r x => setn0 (nU L') x
 have fin : ∀ L' r, trunc H.length (upd H b z m L' ++ r) = upd H b z m L' := fun L' r => h.back L' r
 have hb3 : (b < H.length + 3) = True := eq_true (by omega)
 simp [FL] at hr ⊢
 refine callP_of hr ?_
 simp [hw, hZz, lZ, ap0, apk, set0, setk, z18, z18', ← hz2, zset]
 have V1 := varsV_ok hi
 refine W_up 18 (fun i => [(0, .ptr b 0), (1, .vs (IL w) .no), (4, .ptr H.length 0), (6, .ptr (H.length + 1) 0), (18, .int .i64 i)]) (fun i => BB (varsV L i)) (fun _ => True) ?_ ?_
 ·have := tr (varsV L 0) [] hi (by show L.length ≤ _; omega)
  simp [varsV, hus] at this
  simp [keep_cl, varsV, hb3, this]
 ·intro i hi1 _
  have hV := V1 i
  have hLi := hV.ext.len
  by_cases hlt : i < 18
  ·have hB := bK (varsV L i) [] hV.ext.inv (by omega) fun n => rfl
   obtain ⟨q, hq⟩ : ∃ q, q = varN (varsV L i).L i := ⟨_, rfl⟩
   have hs1 : varsV L (i + 1) = ⟨q.2, (varsV L i).p.set i q.1, (varsV L i).st⟩ := by rw [varsV_succ, varV, ← hq]
   have c1 := BVar_ok (G := G) (i : Int) hB (by omega)
   rw [BF, ← hq, (h.to hV.ext.inv (by omega)).upd_app, h.upd_upd] at c1
   have e1 : Ext (varsV L i).L q.2 1 := by rw [hq]; exact var_ext hV.ext.inv
   have l1 := e1.len
   have t1 := tr ⟨q.2, (varsV L i).p.set i q.1, (varsV L i).st⟩ [] e1.inv (by show q.2.length ≤ _; omega)
   simp only at t1
   have wl := Wl (varsV L i).p (varsV L i).st hV.len
   have ws := vcs_set (i := i) (p := (varsV L i).p) (st := (varsV L i).st) (tk := .own z2) q.1 hV.len hlt
   rw [← hW, ← hW] at ws
   have hi18 : ((i : Int) < 18) = True := eq_true (by omega)
   have tb := tr (varsV L i) [] hV.ext.inv (by omega)
   rw [hBB]
   simp (disch := omega) [ltT, hlt, hi18]
   refine callSF_of c1 ?_
   simp (disch := omega) [g0, gk, s0, sk, nU, hlt, hi18, leTn, leFn, wl, ws, keep_cl, hb3, t1, hs1, add1', -Int.natCast_add]
  ·obtain rfl : i = 18 := by omega
   have wt := Wt (varsV L 18).p (varsV L 18).st hV.len
   have w18 : (W (varsV L 18).p (varsV L 18).st)[18]? = some (.vs (ints .i64 (varsV L 18).st) (.own z2)) := by
    rw [hW, vcs, List.getElem?_append_right (by simp [hV.len])]
    simp [hV.len]
   have w18' := (List.getElem?_eq_some_iff.1 w18).2
   rw [hBB]
   simp [g0, gk, s0, sk, nU, w18, w18', Wl _ _ hV.len]
   obtain ⟨T, hT⟩ : ∃ T : Nat → VS, ∀ j, T j = winV L (w.take j) := ⟨_, fun _ => rfl⟩
   have T0 : T 0 = varsV L 18 := by rw [hT, List.take_zero, winV, List.foldl_nil]
   have TN : T w.length = winV L w := by rw [hT, List.take_length]
   have Tok : ∀ j, VOk L (T j) (18 + 3 * 32) 32 := fun j => by
    rw [hT]
    have := winV_ok hi (w.take j) fun x hx => hk x (List.mem_of_mem_take hx)
    exact ⟨this.ext.mono (by simp; omega), this.len, Nat.le_trans this.st (by simp; omega)⟩
   have Ts : ∀ (j : Nat) (x : In4), w[j]? = some x → T (j + 1) = stepV (T j) x := fun j x hx => by rw [hT, hT, List.take_add_one, hx]; exact winV_snoc _ _ _
   refine W_up w.length (fun j => [(0, .ptr b 0), (4, .ptr H.length 0), (6, .ptr (H.length + 1) 0), (28, .vs (IL w) .no), (29, .int .i64 w.length), (30, .int .i64 j)]) (fun j => BB (T j)) (fun _ => True) ?_ ?_
   ·have := tr (varsV L 18) [] hV.ext.inv (by omega)
    simp [keep_cl, nU, hb3, this, T0]
   intro j hj _
   have ok := Tok j
   have lT := ok.ext.len
   have sT := ok.st
   by_cases hjt : j < w.length
   ·obtain ⟨x, hx⟩ : ∃ x, w[j]? = some x := ⟨_, get_in hjt⟩
    have hxm := List.mem_of_getElem? hx
    have hxc : x.cs.length = 4 := rfl
    have hxt : x.cs.take 4 = x.cs := rfl
    have gx : (IL w)[j]? = some x.cs := by simp [hx]
    have gx' := (List.getElem?_eq_some_iff.1 gx).2
    have hjl : ((j : Int) < (w.length : Int)) = True := eq_true (by omega)
    have hB := bK (T j) [some (.cells x.cs)] ok.ext.inv (by omega) fun n => by simp [Blk.cl, In4.cs, clL, V.cl]
    have hzz : (upd H b z m (T j).L ++ [some (.cells Z), some (.cells (W (T j).p (T j).st)), some (.zone (T j).st.length), some (.cells x.cs)])[z2]? = some (some (.zone (T j).st.length)) := by rw [hz2, gk]; rfl
    have c1 := step17_ok (G := G) (T j) x z2 hB hzz (by omega) ok.ext.inv (by omega) ok.len (by omega) (hk x hxm) (hwp x hxm)
    obtain ⟨s', hs'⟩ : ∃ s', s' = stepV (T j) x := ⟨_, rfl⟩
    rw [← hs', ← hW, ← hW, (h.to ok.ext.inv (by omega)).upd_app, h.upd_upd, hz2, sk] at c1
    have hTs : T (j + 1) = s' := by rw [hs']; exact Ts j x hx
    have ok' := Tok (j + 1)
    rw [hTs] at ok'
    have lT' := ok'.ext.len
    have t1 := tr s' [some (.cells x.cs)] ok'.ext.inv (by omega)
    rw [hBB]
    simp (disch := omega) [ltT, hjl, hjt, gx, gx', hxc, hxt, g0, gk, s0, sk, nU, leTn, leFn, Wl _ _ ok.len, Wt _ _ ok.len]
    refine callSF_of c1 ?_
    simp (disch := omega) [g0, gk, s0, sk, nU, leTn, leFn, Wl _ _ ok.len, Wt _ _ ok.len, Wl _ _ ok'.len, Wt _ _ ok'.len, Wd _ _ ok.len, keep_cl, hb3, t1, hTs, add1', hjt, -Int.natCast_add]
   ·obtain rfl : j = w.length := by omega
    rw [hBB]
    have ok' := ok
    rw [TN] at ok'
    simp (disch := omega) [TN, g0, gk, s0, sk, nU, leTn, leFn, Wl _ _ ok'.len, Wt _ _ ok'.len, lZ, drop19, fin, Wn, Wd _ _ ok'.len]
end Go.Ev
/- What an instruction makes of a state: run.Step. -/
namespace Go.Ev
open Go Go.RowKit
variable {G : Tbl}
set_option maxRecDepth 10000
set_option maxHeartbeats 2000000
set_option linter.unusedSimpArgs false
set_option linter.unusedVariables false
def cellS (s : St) (k : Nat) : Nat := if k < 16 then s.m.getD k 0 else 0
def storeS (s : St) (k v : Nat) : St := if k < 16 then { s with m := s.m.set k v } else s
def stepO (s : St) (x : In4) (d : Da) : St :=
 if x.op = 0 then { s with a := x.k } else if x.op = 1 then { s with x := x.k } else if x.op = 32 then { s with a := (wordS d x.k).1 }
 else if x.op = 96 then { s with a := cellS s x.k } else if x.op = 97 then { s with x := cellS s x.k } else if x.op = 2 then storeS s x.k s.a else if x.op = 3 then storeS s x.k s.x
 else if x.op = 7 then { s with x := s.a } else if x.op = 135 then { s with a := s.x } else if x.op = 132 then { s with a := negW s.a } else s
def aluB (s : St) (x : In4) : Nat := if (aluT x.op).2.1 then s.x else x.k
def aluR (s : St) (x : In4) : Nat × Bool := doW (aluT x.op).1 s.a (aluB s x)
def stepS (s : St) (x : In4) (d : Da) : St × Bool :=
 if (aluT x.op).2.2 then (if (aluR s x).2 then { s with a := (aluR s x).1 } else s, (aluR s x).2) else (stepO s x d, true)
theorem cellS_ok [HasStep G] (s : St) (k : Nat) (hs : s.ok) (hk : k < 4294967296) : FP G 162 [SV s, .int .u32 k] (.int .u32 (cellS s k : Nat)) := by
 refine FP_of HasStep.h_run_cell (Nat.le_of_ble_eq_true rfl) ?_
 have hl := hs.2.2.1
 by_cases h : 16 ≤ k
 ·have : (16 : Int) ≤ (k : Int) := by omega
  simp [SV, St.cs, this, cellS, show ¬ k < 16 from by omega]
 ·have h1 : k < 16 := by omega
  have c := cnats_get .u32 s.m k (by omega)
  have hg : s.m.getD k 0 = s.m[k]'(by omega) := by simp [List.getD, List.getElem?_eq_getElem (show k < s.m.length by omega)]
  have i1 : ((16 : Int) ≤ (k : Int)) = False := leF (by omega)
  have i2 : ((k : Int) < 16) = True := ltT (by omega)
  have i3 : (2 + k + 1 ≤ 16 + 1 + 1) = True := leTn (by omega)
  simp [SV, St.cs, i1, i2, hl, drop2, drop1, c, cellS, h1, hg, show 2 + k ≤ 17 from by omega]
theorem storeS_ok [HasStep G] (s : St) (k v : Nat) (hs : s.ok) (hk : k < 4294967296) : FP G 163 [SV s, .int .u32 k, .int .u32 v] (SV (storeS s k v)) := by
 refine FP_of HasStep.h_run_store (Nat.le_of_ble_eq_true rfl) ?_
 have hl := hs.2.2.1
 have ht := take_full (k := .u32) hl
 by_cases h1 : k < 16
 ·have c := cnats_set .u32 s.m k v (by omega)
  have i2 : ((k : Int) < 16) = True := ltT (by omega)
  have ht2 : (cnats .u32 (s.m.set k v)).take 16 = cnats .u32 (s.m.set k v) := take_full (by simp [hl])
  simp [SV, St.cs, i2, hl, drop2, drop1, drop21, take2, c, storeS, h1, ht2, show 2 + k ≤ 17 from by omega, show (k : Nat) ≤ 15 from by omega]
 ·have i1 : ((k : Int) < 16) = False := ltF (by omega)
  simp [SV, St.cs, i1, storeS, h1, hl, ht]
theorem Neg_ok [HasNeg G] (a : Nat) (ha : a < 4294967296) : FP G 138 [.int .u32 a] (.int .u32 (negW a : Nat)) := by
 refine FP_of HasNeg.h_word_Neg (Nat.le_of_ble_eq_true rfl) ?_
 have : negI .u32 (a : Int) = ((negW a : Nat) : Int) := by unfold negI negW; rw [wrap32]; omega
 simp [this]
theorem storeS_ok' {s : St} (hs : s.ok) {k v : Nat} (hv : v < 4294967296) : (storeS s k v).ok := by
 unfold storeS
 split
 ·refine ⟨hs.1, hs.2.1, by simp [hs.2.2.1], fun w hw => ?_⟩
  rcases List.mem_or_eq_of_mem_set hw with h | h
  ·exact hs.2.2.2 w h
  ·rw [h]; exact hv
 ·exact hs
theorem cellS_lt {s : St} (hs : s.ok) (k : Nat) : cellS s k < 4294967296 := by
 unfold cellS
 split
 ·rename_i h
  rw [List.getD, List.getElem?_eq_getElem (show k < s.m.length by rw [hs.2.2.1]; exact h), Option.getD_some]
  exact hs.2.2.2 _ (List.getElem_mem _)
 ·decide
theorem wordS_lt {d : Da} (hd : d.ok) (k : Nat) : (wordS d k).1 < 4294967296 := by
 unfold wordS
 split
 ·rename_i h
  have hl := wordsD_len hd.2.2.2.1
  simp only [List.getD, List.getElem?_eq_getElem (show k / 4 < (wordsD d).length by omega), Option.getD_some]
  exact wordsD_lt hd _ (List.getElem_mem _)
 ·decide
theorem aluB_lt {s : St} (hs : s.ok) {x : In4} (hk : x.k < 4294967296) : aluB s x < 4294967296 := by
 unfold aluB
 split
 ·exact hs.2.1
 ·exact hk
theorem stepO_ok {s : St} (hs : s.ok) {x : In4} (hk : x.k < 4294967296) {d : Da} (hd : d.ok) : (stepO s x d).ok := by
 obtain ⟨h1, h2, h3, h4⟩ := hs
 have hn : negW s.a < 4294967296 := Nat.mod_lt _ (by decide)
 have hc := cellS_lt ⟨h1, h2, h3, h4⟩ x.k
 have hw := wordS_lt hd x.k
 unfold stepO
 repeat' split
 all_goals first
  | exact ⟨hk, h2, h3, h4⟩
  | exact ⟨h1, hk, h3, h4⟩
  | exact ⟨hw, h2, h3, h4⟩
  | exact ⟨hc, h2, h3, h4⟩
  | exact ⟨h1, hc, h3, h4⟩
  | exact storeS_ok' ⟨h1, h2, h3, h4⟩ h1
  | exact storeS_ok' ⟨h1, h2, h3, h4⟩ h2
  | exact ⟨h1, h1, h3, h4⟩
  | exact ⟨h2, h2, h3, h4⟩
  | exact ⟨hn, h2, h3, h4⟩
  | exact ⟨h1, h2, h3, h4⟩
theorem stepS_ok' {s : St} (hs : s.ok) {x : In4} (hk : x.k < 4294967296) {d : Da} (hd : d.ok) : (stepS s x d).1.ok := by
 unfold stepS
 split
 ·simp only
  split
  ·exact ⟨doW32 _ hs.1 (aluB_lt hs hk), hs.2⟩
  ·exact hs
 ·exact stepO_ok hs hk hd
theorem Step_ok [HasWd G] [HasNeg G] [HasIns G] [HasData G] [HasStep G] (s : St) (x : In4) (d : Da) (hs : s.ok) (hk : x.k < 4294967296) (hd : d.ok) :
  FP G 164 [SV s, IV x, DV d] (.tup [SV (stepS s x d).1, .bool (stepS s x d).2]) := by
 refine FP_of HasStep.h_run_Step (Nat.le_of_ble_eq_true rfl) ?_
 have hl := hs.2.2.1
 have ht := take_full (k := .u32) hl
 have h6 := hd.2.2.2.1
 have ht6 := take_full (k := .u64) h6
 have ha := Alu_ok (G := G) x
 have hD := doW_ok (G := G) inferInstance (aluT x.op).1 s.a (aluB s x) hs.1 (aluB_lt hs hk)
 have hW := Word_ok (G := G) d x.k hd hk
 have hC := cellS_ok (G := G) s x.k hs hk
 have hS1 := storeS_ok (G := G) s x.k s.a hs hk
 have hS2 := storeS_ok (G := G) s x.k s.x hs hk
 have hN := Neg_ok (G := G) s.a hs.1
 have hlS : ∀ v, (storeS s x.k v).m.length = 16 := fun v => by unfold storeS; split <;> simp [hl]
 have htS := fun v => take_full (k := .u32) (hlS v)
 simp [SV, IV, DV, In4.cs, St.cs, Da.cs] at ha hW hC hS1 hS2 ⊢
 refine callP_of ha ?_
 cases hal : (aluT x.op).2.2
 case true =>
  simp [hal]
  have hst : stepS s x d = (if (aluR s x).2 then { s with a := (aluR s x).1 } else s, (aluR s x).2) := by simp [stepS, hal]
  cases hx : (aluT x.op).2.1
  ·have : aluB s x = x.k := by simp [aluB, hx]
   rw [this] at hD
   simp [hx]
   refine callP_of hD ?_
   cases hg : (doW (aluT x.op).1 s.a x.k).2 <;> simp [hg, hst, aluR, this, hl, ht]
  ·have : aluB s x = s.x := by simp [aluB, hx]
   rw [this] at hD
   simp [hx]
   refine callP_of hD ?_
   cases hg : (doW (aluT x.op).1 s.a s.x).2 <;> simp [hg, hst, aluR, this, hl, ht]
 simp [hal]
 have hst : stepS s x d = (stepO s x d, true) := by simp [stepS, hal]
 rw [hst]
 by_cases e0 : x.op = 0
 ·simp [e0, stepO, hl, ht]
 by_cases e1 : x.op = 1
 ·simp [e1, beqF, stepO, hl, ht]
 by_cases e2 : x.op = 32
 ·simp [e2, beqF, stepO, h6, ht6]
  refine callP_of hW ?_
  simp [hl, ht]
 by_cases e3 : x.op = 96
 ·simp [e3, beqF, stepO, hl, ht]
  refine callP_of hC ?_
  simp [hl, ht]
 by_cases e4 : x.op = 97
 ·simp [e4, beqF, stepO, hl, ht]
  refine callP_of hC ?_
  simp [hl, ht]
 by_cases e5 : x.op = 2
 ·simp [e5, beqF, stepO, hl, ht]
  refine callP_of hS1 ?_
  simp [hl, hlS, htS]
 by_cases e6 : x.op = 3
 ·simp [e6, beqF, stepO, hl, ht]
  refine callP_of hS2 ?_
  simp [hl, hlS, htS]
 by_cases e7 : x.op = 7
 ·simp [e7, beqF, stepO, hl, ht]
 by_cases e8 : x.op = 135
 ·simp [e8, beqF, stepO, hl, ht]
 by_cases e9 : x.op = 132
 ·simp [e9, beqF, stepO]
  refine callP_of hN ?_
  simp [hl, ht]
 simp [e0, e1, e2, e3, e4, e5, e6, e7, e8, e9, beqF, stepO, hl, ht]
end Go.Ev
/- The words of a record, by hurdleref04. -/
namespace Go.Ev
open Go Go.RowKit
variable {G : Tbl}
set_option maxRecDepth 10000
set_option maxHeartbeats 2000000
set_option linter.unusedSimpArgs false
set_option linter.unusedVariables false
theorem quoU64' {a b : Nat} (ha : a < 18446744073709551616) : quoI .u64 (a : Int) (b : Int) = ((a / b : Nat) : Int) := by
 have h : a / b ≤ a := Nat.div_le_self _ _
 unfold quoI
 have h2 : ((a : Int).tdiv (b : Int)) = ((a / b : Nat) : Int) := rfl
 rw [h2]
 exact IntWalk.u64_in _ ⟨Int.natCast_nonneg _, by rw [Int.ofNat_le.symm] at h; omega⟩
theorem convU8 {a : Nat} (ha : a < 256) : convI .u8 (a : Int) = (a : Int) := by
 unfold convI; exact IntWalk.u8_in _ ⟨by omega, by omega⟩
def lowL (v n : Nat) : List Nat := (List.range n).map fun j => v / 256 ^ j % 256
theorem lowL_succ (v n : Nat) : lowL v (n + 1) = lowL v n ++ [v / 256 ^ n % 256] := by simp [lowL, List.range_succ]
theorem lowL_len (v n : Nat) : (lowL v n).length = n := by simp [lowL]
theorem low_ok [HasR4 G] (v n : Nat) (hv : v < 18446744073709551616) (hn : n ≤ 8) {H : Heap} (hH : HShut H) : Big G (.F 182 [.int .u64 v, .int .i64 n] H (.vs (nats .u8 (lowL v n)) (.own H.length)) (H ++ [some (.zone n)])) := by
 refine F_of HasR4.h_hurdleref04_low (Nat.le_of_ble_eq_true rfl) ?_
 have ht := shut_trunc hH
 simp
 refine W_up n (fun i => [(0, .int .u64 (v / 256 ^ i : Nat)), (1, .int .i64 n), (5, .vs (nats .u8 (lowL v i)) (.own H.length)), (6, .int .i64 i)]) (fun i => H ++ [some (.zone i)]) (fun _ => True) ?_ ?_
 ·simp [keep_cl, lowL, ht]
 intro i hi _
 by_cases hlt : i < n
 ·have hd : v / 256 ^ i < 18446744073709551616 := Nat.lt_of_le_of_lt (Nat.div_le_self _ _) hv
  have hr : remI ((v / 256 ^ i : Nat) : Int) 256 = ((v / 256 ^ i % 256 : Nat) : Int) := rem64 (b := 256)
  have hq : quoI .u64 ((v / 256 ^ i : Nat) : Int) 256 = ((v / 256 ^ (i + 1) : Nat) : Int) := by
   rw [Nat.pow_succ, ← Nat.div_div_eq_div_mul]; exact quoU64' (b := 256) hd
  have hc : convI .u8 ((v / 256 ^ i % 256 : Nat) : Int) = ((v / 256 ^ i % 256 : Nat) : Int) := convU8 (Nat.mod_lt _ (by decide))
  have hll := lowL_len v i
  have hls := lowL_succ v i
  simp (disch := omega) [ltT, hr, hq, hc, hll, hls, leTn, add1', hlt, keep_cl, ht, List.getElem?_append_right, List.set_append_right, -Int.natCast_add, -Int.natCast_ediv, -Int.natCast_emod, -Int.natCast_pow]
 ·have hne : i = n := by omega
  subst hne
  simp [-Int.natCast_ediv]
theorem low_P [HasR4 G] (v n : Nat) (hv : v < 18446744073709551616) (hn : n ≤ 8) : FP G 182 [.int .u64 v, .int .i64 n] (.vs (nats .u8 (lowL v n)) .no) :=
 ⟨_, _, low_ok v n hv hn (H := []) (fun _ _ => rfl), by simp⟩
def num : List Nat → Nat
 | [] => 0
 | b :: l => b + 256 * num l
theorem num_lt : ∀ l : List Nat, (∀ b ∈ l, b < 256) → num l < 256 ^ l.length
 | [], _ => by decide
 | b :: l, h => by
  have h1 := num_lt l fun c hc => h c (by simp [hc])
  have h2 := h b (by simp)
  rw [num, List.length_cons, Nat.pow_succ]; omega
theorem number_ok [HasR4 G] (l : List Nat) (hl : l.length ≤ 7) (hb : ∀ b ∈ l, b < 256) : FP G 183 [.vs (nats .u8 l) .no] (.int .u64 (num l : Nat)) := by
 refine FP_of HasR4.h_hurdleref04_number (Nat.le_of_ble_eq_true rfl) ?_
 have s1 : subI .i64 (l.length : Int) 1 = (l.length : Int) - 1 := by rw [subI64] <;> omega
 simp [s1]
 refine W_up l.length (fun i => [(0, .vs (nats .u8 l) .no), (3, .int .u64 (num (l.drop (l.length - i)) : Nat)), (4, .int .i64 ((l.length : Int) - 1 - i))]) (fun _ => []) (fun _ => True) ?_ ?_
 ·simp [keep_cl, trunc, num]
 intro i hi _
 by_cases hlt : i < l.length
 ·have ht : ∃ t, t = l.length - 1 - i := ⟨_, rfl⟩
  obtain ⟨t, ht⟩ := ht
  have e1 : (l.length : Int) - 1 - i = (t : Int) := by omega
  have e2 : l.length - i = t + 1 := by omega
  have e3 : l.length - (i + 1) = t := by omega
  have htl : t < l.length := by omega
  have hg : l[t]? = some l[t] := List.getElem?_eq_getElem htl
  have hbt := hb l[t] (List.getElem_mem htl)
  have hdr := List.drop_eq_getElem_cons htl
  have h1 := num_lt (l.drop (t + 1)) fun c hc => hb c (List.mem_of_mem_drop hc)
  have h2 : 256 ^ (l.drop (t + 1)).length ≤ 256 ^ 6 := Nat.pow_le_pow_right (by decide) (by rw [List.length_drop]; omega)
  have h2' : (256 : Nat) ^ 6 = 281474976710656 := by decide
  have hs : subI .i64 (t : Int) 1 = (l.length : Int) - 1 - ((i + 1 : Nat) : Int) := by rw [subI64] <;> omega
  generalize l[t] = b at hg hbt hdr
  have hn : num (l.drop t) = b + 256 * num (l.drop (t + 1)) := by rw [hdr]; rfl
  obtain ⟨q, hqq⟩ : ∃ q, q = num (l.drop (t + 1)) := ⟨_, rfl⟩
  rw [← hqq] at h1 hn
  have hm : mulI .u64 (q : Int) 256 = ((q * 256 : Nat) : Int) := by unfold mulI; rw [show (q : Int) * 256 = ((q * 256 : Nat) : Int) by omega]; exact IntWalk.u64_in _ ⟨by omega, by omega⟩
  have ha : addI .u64 ((q * 256 : Nat) : Int) (b : Int) = ((num (l.drop t) : Nat) : Int) := by unfold addI; rw [hn, show ((q * 256 : Nat) : Int) + (b : Int) = ((b + 256 * q : Nat) : Int) by omega]; exact IntWalk.u64_in _ ⟨by omega, by omega⟩
  have hc : convI .u64 (b : Int) = (b : Int) := convU64 b (by omega)
  obtain ⟨_, hgv⟩ := List.getElem?_eq_some_iff.1 hg
  rw [e2, ← hqq]
  simp (disch := omega) [e1, e3, leT, hg, hgv, hc, hm, ha, hs, hlt, keep_cl, trunc, -Int.natCast_add, -Int.natCast_mul]
 ·have hne : i = l.length := by omega
  subst hne
  have hF : ((l.length : Int) ≤ (l.length : Int) - 1) = False := eq_false (by omega)
  simp [hF]
def bytesD (d : Da) (n : Nat) : List Nat := lowL d.nr 4 ++ lowL d.arch 4 ++ lowL d.ip 8 ++ (d.args.take n).flatMap fun a => lowL a 8
theorem low8 (v : Nat) : lowL v 8 = lowL (lo v) 4 ++ lowL (hi v) 4 := by
 simp only [lowL, List.range_succ, List.range_zero, List.nil_append, List.map_append, List.map_cons, List.map_nil, List.cons_append, lo, hi]
 simp only [Nat.reducePow, List.cons.injEq, and_true]
 and_intros <;> omega
theorem low_num (v : Nat) (h : v < 4294967296) : num (lowL v 4) = v := by
 simp only [lowL, List.range_succ, List.range_zero, List.nil_append, List.map_append, List.map_cons, List.map_nil, List.cons_append, num]
 omega
theorem low_lt (v n : Nat) : ∀ b ∈ lowL v n, b < 256 := by
 intro b hb
 simp only [lowL, List.mem_map] at hb
 obtain ⟨j, _, rfl⟩ := hb
 exact Nat.mod_lt _ (by decide)
theorem bytes_len (d : Da) (n : Nat) : (bytesD d n).length = 16 + 8 * (d.args.take n).length := by
 have : ∀ l : List Nat, (l.flatMap fun a => lowL a 8).length = 8 * l.length := by
  intro l
  induction l with
  | nil => rfl
  | cons a l ih => rw [List.flatMap_cons, List.length_append, ih, lowL_len, List.length_cons]; omega
 simp only [bytesD, List.length_append, lowL_len, this]
theorem bytes_words (d : Da) (h1 : d.nr < 4294967296) (h2 : d.arch < 4294967296) (h6 : d.args.length = 6) : bytesD d 6 = ((wordsD d).map fun w => lowL w 4).flatten := by
 have h : ∀ l : List Nat, (l.flatMap fun a => lowL a 8) = ((l.flatMap fun a => [lo a, hi a]).map fun w => lowL w 4).flatten := by
  intro l
  induction l with
  | nil => rfl
  | cons a l ih => simp only [List.flatMap_cons, List.map_append, List.flatten_append, ih, ← low8]; simp [low8, ih]
 rw [bytesD, List.take_of_length_le (by omega), h, low8]
 simp [wordsD]
theorem Bytes_ok [HasR4 G] (d : Da) (hd : d.ok) : FP G 184 [DV d] (.vs (nats .u8 (bytesD d 6)) .no) := by
 refine FP_of HasR4.h_hurdleref04_Bytes (Nat.le_of_ble_eq_true rfl) ?_
 obtain ⟨d1, d2, d3, d4, d5⟩ := hd
 have ht6 := take_full (k := .u64) d4
 have c1 := convU64 d.nr (by omega)
 have c2 := convU64 d.arch (by omega)
 have n1 : ∀ v n : Nat, n ≠ 0 → (nats .u8 (lowL v n) = []) = False := fun v n h => eq_false (by rw [nats_eq_nil]; intro h2; have := lowL_len v n; rw [h2] at this; exact h this.symm)
 simp [DV, Da.cs, c1, c2, d4, ht6]
 refine callK_of (low_ok d.nr 4 (by omega) (by decide) (by intro m _; simp)) (by simp) ?_
 simp [c2]
 refine callP_of (low_P d.arch 4 (by omega) (by decide)) ?_
 simp [lowL_len, n1]
 refine callP_of (low_P d.ip 8 d3 (by decide)) ?_
 simp [lowL_len, n1, nats_append]
 refine W_up 6 (fun i => [(1, .ptr 0 0), (3, .vs (nats .u8 (bytesD d i)) (.own 2)), (4, .int .i64 i)])
  (fun i => [some (.cells (.int .u32 (d.nr : Int) :: .int .u32 (d.arch : Int) :: .int .u64 (d.ip : Int) :: cnats .u64 d.args)), none, some (.zone (16 + 8 * i)), none]) (fun _ => True) ?_ ?_
 ·simp [keep_cl, trunc, bytesD]
 intro i hi _
 by_cases hlt : i < 6
 ·have hg : d.args[i]? = some d.args[i] := List.getElem?_eq_getElem (by omega)
  have hv := d5 _ (List.getElem_mem (show i < d.args.length by omega))
  have hc := cnats_get .u64 d.args i (by omega)
  have hb := bytes_len d i
  have hbs : bytesD d (i + 1) = bytesD d i ++ lowL d.args[i] 8 := by
   unfold bytesD
   rw [List.take_add_one, hg, Option.toList_some, List.flatMap_append, ← List.append_assoc]; simp
  have htl : (d.args.take i).length = i := by rw [List.length_take]; omega
  rw [htl] at hb
  have drop3 : ∀ (a b c : V) (l : List V) (n : Nat), (a :: b :: c :: l).drop (3 + n) = l.drop n := fun a b c l n => by rw [Nat.add_comm]; rfl
  generalize d.args[i] = w at hg hv hc hbs
  simp (disch := omega) [ltT, leTn, drop3, hc, d4, -Int.natCast_add]
  refine callP_of (low_P w 8 hv (by decide)) ?_
  simp (disch := omega) [lowL_len, n1, nats_append, hb, ← hbs, leTn, add1', hlt, keep_cl, trunc, -Int.natCast_add]
  omega
 ·have hne : i = 6 := by omega
  subst hne
  simp
theorem bytes_at {d : Da} (hd : d.ok) {j : Nat} (h : j < 16) : (((bytesD d 6).drop (4 * j)).take 4) = lowL ((wordsD d).getD j 0) 4 := by
 rw [bytes_words d hd.1 hd.2.1 hd.2.2.2.1, Nat.mul_comm]
 have hl := wordsD_len hd.2.2.2.1
 refine flat_at (fun w => lowL w 4) 4 (fun w => lowL_len w 4) (wordsD d) j _ ?_
 rw [List.getD, List.getElem?_eq_getElem (show j < (wordsD d).length by omega)]; rfl
theorem WordR_ok [HasR4 G] (d : Da) (n : Nat) (hd : d.ok) (hn : n < 4294967296) : FP G 185 [DV d, .int .u32 n] (.tup [.int .u32 ((wordS d n).1 : Nat), .bool (wordS d n).2]) := by
 refine FP_of HasR4.h_hurdleref04_Word (Nat.le_of_ble_eq_true rfl) ?_
 have hB := Bytes_ok (G := G) d hd
 have hd' := hd
 obtain ⟨d1, d2, d3, d4, d5⟩ := hd
 have ht6 := take_full (k := .u64) d4
 have r4 : remI (n : Int) 4 = ((n % 4 : Nat) : Int) := rem64 (b := 4)
 have hz : (((n % 4 : Nat) : Int) == 0) = decide (n % 4 = 0) := by rw [Bool.eq_iff_iff]; simp [-Int.natCast_emod]
 have hzn : (((n % 4 : Nat) : Int) != 0) = decide (n % 4 ≠ 0) := by rw [Bool.eq_iff_iff]; simp [-Int.natCast_emod]
 have hc := convI64 n hn
 simp [DV, Da.cs] at hB ⊢
 by_cases h4 : n % 4 = 0
 ·by_cases h64 : n < 64
  ·have hlt : ((64 : Int) ≤ (n : Int)) = False := leF (by omega)
   have hj : 4 * (n / 4) = n := by omega
   have hat := bytes_at hd' (show n / 4 < 16 by omega)
   rw [hj] at hat
   have hlen := bytes_len d 6
   rw [List.take_of_length_le (by omega), d4] at hlen
   have hw : wordS d n = ((wordsD d).getD (n / 4) 0, true) := by simp [wordS, h4, h64]
   have hlt2 := wordS_lt hd' n
   rw [hw] at hlt2 ⊢
   simp only at hlt2
   have hnum := low_num _ hlt2
   have hno := number_ok (G := G) (lowL ((wordsD d).getD (n / 4) 0) 4) (by rw [lowL_len]; decide) (low_lt _ _)
   have ha4 : addI .i64 (n : Int) 4 = ((n + 4 : Nat) : Int) := by rw [addI64] <;> omega
   simp only at hnum hno ⊢
   generalize (wordsD d).getD (n / 4) 0 = w at hat hnum hno hlt2
   have hcv : convI .u32 (w : Int) = (w : Int) := by unfold convI; exact wrap_nat32 hlt2
   simp [r4, hzn, h4, hlt, hc, ht6, d4, -Int.natCast_emod]
   refine callP_of hB ?_
   have hb2 : 0 ≤ (n : Int) ∧ n ≤ n + 4 ∧ n + 4 ≤ (bytesD d 6).length := by omega
   have hF : (((n + 4 : Nat) : Int) ≤ 64) = True := eq_true (by omega)
   simp (disch := omega) [ha4, hlen, hF, leTn, nats_drop, nats_take, hat, -Int.natCast_add]
   refine callP_of hno ?_
   simp [hnum, hcv]
  ·have hlt : ((64 : Int) ≤ (n : Int)) = True := leT (by omega)
   have hw : wordS d n = (0, false) := by simp [wordS, h64]
   rw [hw]
   simp [r4, hzn, h4, hlt, -Int.natCast_emod]
 ·have hw : wordS d n = (0, false) := by simp [wordS, h4]
  rw [hw]
  simp [r4, hzn, h4, -Int.natCast_emod]
end Go.Ev
/- What an instruction makes of a state, by hurdleref06. -/
namespace Go.Ev
open Go Go.RowKit
variable {G : Tbl}
set_option maxRecDepth 10000
set_option maxHeartbeats 2000000
set_option linter.unusedSimpArgs false
set_option linter.unusedVariables false
def stAt (s : St) (x : In4) (i : Nat) : St := if x.k < i ∧ x.k < 16 then (if x.op = 2 then { s with m := s.m.set x.k s.a } else if x.op = 3 then { s with m := s.m.set x.k s.x } else s) else s
def valAt (s : St) (x : In4) (i : Nat) : Nat := if x.k < i ∧ x.k < 16 then s.m.getD x.k 0 else 0
theorem Step6_ok [HasR2 G] [hR1 : HasR1 G] [HasR1n G] [HasR4 G] [HasR6s G] (s : St) (x : In4) (d : Da) (hs : s.ok) (hk : x.k < 4294967296) (hd : d.ok) :
  FP G 190 [SV s, IV x, DV d] (.tup [SV (stepS s x d).1, .bool (stepS s x d).2]) := by
 refine FP_of HasR6s.h_hurdleref06_Step (Nat.le_of_ble_eq_true rfl) ?_
 have hl := hs.2.2.1
 have ht := take_full (k := .u32) hl
 have h6 := hd.2.2.2.1
 have ht6 := take_full (k := .u64) h6
 have ha := AluR_ok (G := G) x
 have hD := DoR_ok hR1 (aluT x.op).1 s.a (aluB s x) hs.1 (aluB_lt hs hk)
 have hW := WordR_ok (G := G) d x.k hd hk
 have hN := NegR_ok (G := G) s.a hs.1
 simp [SV, IV, DV, In4.cs, St.cs, Da.cs] at ha hW ⊢
 refine callP_of ha ?_
 cases hal : (aluT x.op).2.2
 case true =>
  have hst : stepS s x d = (if (aluR s x).2 then { s with a := (aluR s x).1 } else s, (aluR s x).2) := by simp [stepS, hal]
  cases hx : (aluT x.op).2.1
  ·have : aluB s x = x.k := by simp [aluB, hx]
   rw [this] at hD
   simp [hx]
   refine callP_of hD ?_
   cases hg : (doW (aluT x.op).1 s.a x.k).2 <;> simp [hg, hst, aluR, this, hl, ht]
  ·have : aluB s x = s.x := by simp [aluB, hx]
   rw [this] at hD
   simp [hx]
   refine callP_of hD ?_
   cases hg : (doW (aluT x.op).1 s.a s.x).2 <;> simp [hg, hst, aluR, this, hl, ht]
 simp
 refine W_up 16 (fun i => [(3, .ptr 0 0), (4, .ptr 1 0), (5, .ptr 2 0), (6, .ptr 3 0), (14, .int .u32 (valAt s x i : Nat)), (15, .int .i64 i)])
  (fun i => [some (.cells (stAt s x i).cs), some (.cells x.cs), some (.cells d.cs), some (.cells (cnats .u32 (zeros 18)))]) (fun _ => True) ?_ ?_
 ·simp [keep_cl, trunc, stAt, valAt, St.cs, In4.cs, Da.cs]
 intro i hi _
 have hsl : (stAt s x i).m.length = 16 := by unfold stAt; split <;> (try split) <;> (try split) <;> simp [hl]
 by_cases hlt : i < 16
 ·have hcv : convI .u32 (i : Int) = (i : Int) := by unfold convI; exact wrap_nat32 (by omega)
  have i3 : (2 + i + 1 ≤ 16 + 1 + 1) = True := leTn (by omega)
  by_cases hik : i = x.k
  ·have hk16 : x.k < 16 := by omega
   have he : ((i : Int) == (x.k : Int)) = true := by simp [hik]
   have hst0 : stAt s x i = s := by unfold stAt; rw [if_neg (by omega)]
   have hval : valAt s x (i + 1) = s.m[i]'(by omega) := by
    unfold valAt; rw [if_pos (by omega), ← hik, List.getD, List.getElem?_eq_getElem (by omega)]; rfl
   have c := cnats_get .u32 s.m i (by omega)
   have cs1 := cnats_set .u32 s.m i s.a (by omega)
   have cs2 := cnats_set .u32 s.m i s.x (by omega)
   rw [hst0]
   by_cases h2 : x.op = 2
   ·have hst1 : stAt s x (i + 1) = { s with m := s.m.set i s.a } := by unfold stAt; rw [if_pos (by omega), if_pos h2, hik]
    simp (disch := omega) [ltT, hcv, he, St.cs, In4.cs, Da.cs, h2, hlt, hl, drop2, drop1, drop21, take2, c, cs1, i3, leTn, hval, hst1, add1', keep_cl, trunc, show 2 + i ≤ 17 from by omega, -Int.natCast_add]
   ·have n2 : (x.op == 2) = false := beqF h2
    by_cases h3 : x.op = 3
    ·have hst1 : stAt s x (i + 1) = { s with m := s.m.set i s.x } := by unfold stAt; rw [if_pos (by omega), if_neg h2, if_pos h3, hik]
     simp (disch := omega) [ltT, hcv, he, St.cs, In4.cs, Da.cs, h3, hlt, hl, drop2, drop1, drop21, take2, c, cs2, i3, leTn, hval, hst1, add1', keep_cl, trunc, show 2 + i ≤ 17 from by omega, -Int.natCast_add]
    ·have n3 : (x.op == 3) = false := beqF h3
     have hst1 : stAt s x (i + 1) = s := by unfold stAt; rw [if_pos (by omega), if_neg h2, if_neg h3]
     simp (disch := omega) [ltT, hcv, he, St.cs, In4.cs, Da.cs, n2, n3, hlt, hl, drop2, drop1, drop21, take2, c, i3, leTn, hval, hst1, add1', keep_cl, trunc, show 2 + i ≤ 17 from by omega, -Int.natCast_add]
  ·have he : ((i : Int) == (x.k : Int)) = false := beqF (by omega)
   have hst1 : stAt s x (i + 1) = stAt s x i := by
    unfold stAt
    by_cases h : x.k < i ∧ x.k < 16
    ·rw [if_pos h, if_pos (by omega)]
    ·rw [if_neg h, if_neg (by omega)]
   have hval : valAt s x (i + 1) = valAt s x i := by
    unfold valAt
    by_cases h : x.k < i ∧ x.k < 16
    ·rw [if_pos h, if_pos (by omega)]
    ·rw [if_neg h, if_neg (by omega)]
   simp (disch := omega) [ltT, hcv, he, St.cs, In4.cs, Da.cs, hlt, hst1, hval, add1', keep_cl, trunc, -Int.natCast_add]
 ·have hne : i = 16 := by omega
  subst hne
  have hst : stepS s x d = (stepO s x d, true) := by simp [stepS, hal]
  rw [hst]
  have hv : valAt s x 16 = cellS s x.k := by
   unfold valAt cellS
   by_cases h : x.k < 16
   ·rw [if_pos ⟨h, h⟩, if_pos h]
   ·rw [if_neg (by omega), if_neg h]
  have h2 : x.op = 2 → stAt s x 16 = stepO s x d := by
   intro h
   simp only [stAt, stepO, storeS, h]
   by_cases hk : x.k < 16 <;> simp [hk]
  have h3 : x.op = 3 → stAt s x 16 = stepO s x d := by
   intro h
   simp only [stAt, stepO, storeS, h]
   by_cases hk : x.k < 16 <;> simp [hk]
  have h0 : x.op ≠ 2 → x.op ≠ 3 → stAt s x 16 = s := by
   intro a b
   unfold stAt
   simp [a, b]
  have hsl2 := take_full (k := .u32) hsl
  rw [hv]
  simp only [St.cs, In4.cs, Da.cs]
  by_cases e5 : x.op = 2
  ·rw [h2 e5] at hsl hsl2 ⊢
   simp [e5, beqF, hsl, hsl2, -Int.natCast_add]
  by_cases e6 : x.op = 3
  ·rw [h3 e6] at hsl hsl2 ⊢
   simp [e6, beqF, hsl, hsl2, -Int.natCast_add]
  rw [h0 e5 e6]
  clear h0 h2 h3 hsl hsl2
  by_cases e0 : x.op = 0
  ·simp [e0, stepO, hl, ht]
  by_cases e1 : x.op = 1
  ·simp [e1, beqF, stepO, hl, ht]
  by_cases e2 : x.op = 32
  ·simp [e2, beqF, stepO, h6, ht6]
   refine callP_of hW ?_
   simp [hl, ht]
  by_cases e3 : x.op = 96
  ·simp [e3, beqF, stepO, hl, ht]
  by_cases e4 : x.op = 97
  ·simp [e4, beqF, stepO, hl, ht]
  by_cases e7 : x.op = 7
  ·simp [e7, beqF, stepO, hl, ht]
  by_cases e8 : x.op = 135
  ·simp [e8, beqF, stepO, hl, ht]
  by_cases e9 : x.op = 132
  ·simp [e9, beqF, stepO]
   refine callP_of hN ?_
   simp [hl, ht]
  simp [e0, e1, e2, e3, e4, e5, e6, e7, e8, e9, beqF, stepO, hl, ht]
end Go.Ev
/- An instruction changes nothing but what it sets, and hangs on what it needs. -/
namespace Go.Ev
open Go Go.RowKit
variable {G : Tbl}
set_option maxRecDepth 10000
set_option maxHeartbeats 2000000
set_option linter.unusedSimpArgs false
set_option linter.unusedVariables false
def part (s : St) : Nat → Nat
 | 0 => s.a
 | 1 => s.x
 | i + 2 => s.m.getD i 0
end Go.Ev
/- What hurdleref07 says is needed. -/
namespace Go.Ev
open Go Go.RowKit
variable {G : Tbl}
set_option maxRecDepth 10000
set_option maxHeartbeats 2000000
set_option linter.unusedSimpArgs false
set_option linter.unusedVariables false
def cb (l : List Bool) : List V := l.map V.bool
@[simp] theorem cb_length (l : List Bool) : (cb l).length = l.length := by simp [cb]
@[simp] theorem cb_cl (n : Nat) (l : List Bool) : clL n (cb l) = cb l := by
 rw [clL_eq_map]; simp [cb, Function.comp_def]
@[simp] theorem cb_pure (l : List Bool) : (cb l).all V.pure = true := by simp [cb]
@[simp high] theorem ev1_mkslb (base : Nat) (e : Env) (H : Heap) (s bytes : Nat) (n : X) : ev1 base e H (.mksl s bytes [.bool false] n) = (match n.ev e with
  | .int _ m => if isFree H (base + s) = true ∧ 0 ≤ m ∧ m.toNat * bytes ≤ 140737488355328 then some (.rs (base + s) 0 m.toNat 1, H.set (base + s) (some (.cells (cb (List.replicate m.toNat false))))) else none
  | _ => none) := by
 have h : ∀ m : Nat, (List.replicate m [V.bool false]).flatten = cb (List.replicate m false) := fun m => by
  induction m with
  | zero => rfl
  | succ m ih => rw [List.replicate_succ, List.flatten_cons, ih]; simp [cb, List.replicate_succ]
 rw [ev1.eq_27]
 cases n.ev e <;> simp only [h, List.length_singleton]
end Go.Ev
/- Runs, by hurdleref06; and the law LiveRuns. -/
namespace Go.Ev
open Go Go.RowKit
variable {G : Tbl}
set_option maxRecDepth 10000
set_option maxHeartbeats 2000000
set_option linter.unusedSimpArgs false
set_option linter.unusedVariables false
def goes (s : St) (x : In4) : Nat := if x.op = 5 then x.k else if isBr x.op then (if takesB s x then x.jt.toNat else x.jf.toNat) else 0
def run (d : Da) (g : List In4) (s : St) : Nat × Nat :=
 match g with
 | [] => (0, 0)
 | x :: g => if x.op = 6 then (x.k, 1) else if x.op = 22 then (s.a, 1) else if (stepS s x d).2 then ((run d (g.drop (goes s x)) (stepS s x d).1).1, (run d (g.drop (goes s x)) (stepS s x d).1).2 + 1) else (0, 1)
termination_by g.length
decreasing_by all_goals (simp only [List.length_drop, List.length_cons]; omega)
end Go.Ev
/- Records with another word; and branches whose ways are swapped. -/
namespace Go.Ev
open Go Go.RowKit
variable {G : Tbl}
set_option maxRecDepth 10000
set_option maxHeartbeats 2000000
set_option linter.unusedSimpArgs false
set_option linter.unusedVariables false
def two (w : List Nat) (i : Nat) : Nat := w.getD i 0 + w.getD (i + 1) 0 * 4294967296
def ofW (w : List Nat) : Da := ⟨w.getD 0 0, w.getD 1 0, two w 2, (List.range 6).map fun i => two w (4 + 2 * i)⟩
def withS (d : Da) (at' v : Nat) : Da := if at' % 4 = 0 ∧ at' < 64 then ofW ((wordsD d).set (at' / 4) v) else d
theorem words_of {w : List Nat} (hl : w.length = 16) (hw : ∀ x ∈ w, x < 4294967296) : wordsD (ofW w) = w := by
 match w, hl with
 | [a0, a1, a2, a3, a4, a5, a6, a7, a8, a9, a10, a11, a12, a13, a14, a15], _ =>
  simp only [List.mem_cons, List.not_mem_nil, or_false, forall_eq_or_imp, forall_eq] at hw
  simp only [wordsD, ofW, two, lo, hi, List.range_succ, List.range_zero, List.nil_append, List.map_append, List.map_cons, List.map_nil, List.cons_append, List.flatMap_cons, List.flatMap_nil, List.getD_cons_zero, List.getD_cons_succ, Nat.mul_zero, Nat.mul_one, Nat.reduceMul, Nat.reduceAdd, List.cons.injEq, and_true, true_and]
  and_intros <;> omega
theorem ofW_ok {w : List Nat} (hl : w.length = 16) (hw : ∀ x ∈ w, x < 4294967296) : (ofW w).ok := by
 have hg : ∀ i, w.getD i 0 < 4294967296 := by
  intro i
  rw [List.getD]
  cases h : w[i]? with
  | none => decide
  | some z => exact hw z (List.mem_of_getElem? h)
 have h2 : ∀ i, two w i < 18446744073709551616 := fun i => by
  have := hg i; have := hg (i + 1); unfold two; omega
 refine ⟨hg 0, hg 1, h2 2, by simp [ofW], fun x hx => ?_⟩
 simp only [ofW, List.mem_map] at hx
 obtain ⟨i, _, rfl⟩ := hx
 exact h2 _
theorem set_lt {l : List Nat} {i v n : Nat} (h : ∀ x ∈ l, x < n) (hv : v < n) : ∀ x ∈ l.set i v, x < n := fun x hx => by
 rcases List.mem_or_eq_of_mem_set hx with h1 | h1
 ·exact h x h1
 ·rw [h1]; exact hv
end Go.Ev
