/- What the functions of bits compute: Do, Eval, Apart. -/
import Derived.Test.YtablmcdlcpphjaaGreatDoorEvXW
import Derived.Test.YtablmcdlcpphjaaGreatDoorEvInsCW
import Derived.Test.YtablmcdlcpphjaaGreatDoorEvNW
import Derived.Test.YtablmcdlcpphjaaGreatDoorEvQW
import Derived.Test.YtablmcdlcpphjaaGreatDoorEvSrcCW
set_option linter.unusedVariables false
set_option linter.unusedSimpArgs false
namespace Go.Ev
open Go Go.RowKit
variable {G : Tbl}
set_option maxRecDepth 10000
set_option maxHeartbeats 2000000
set_option linter.unusedSimpArgs false
set_option linter.unusedVariables false
def DoOk (kind : Int) (fv gv : List Int) (ft gt : List Nat) : Prop := (kind = 68 ∨ kind = 84 ∨ kind = 164) ∧ Right fv ft ∧ Right gv gt ∧ (mer fv gv).length ≤ 4
def asg (r : List Nat) : Int → Nat := fun v => r.getD v.toNat 0
end Go.Ev
/- States and records; which way a branch goes; the parts of two states. -/
namespace Go.Ev
open Go Go.RowKit
variable {G : Tbl}
set_option maxRecDepth 10000
set_option maxHeartbeats 2000000
set_option linter.unusedSimpArgs false
set_option linter.unusedVariables false
structure St where
 a : Nat
 x : Nat
 m : List Nat
 deriving DecidableEq
def St.cs (s : St) : List V := .int .u32 (s.a : Int) :: .int .u32 (s.x : Int) :: cnats .u32 s.m
def St.ok (s : St) : Prop := s.a < 4294967296 ∧ s.x < 4294967296 ∧ s.m.length = 16 ∧ ∀ w ∈ s.m, w < 4294967296
structure Da where
 nr : Nat
 arch : Nat
 ip : Nat
 args : List Nat
def Da.cs (d : Da) : List V := .int .u32 (d.nr : Int) :: .int .u32 (d.arch : Int) :: .int .u64 (d.ip : Int) :: cnats .u64 d.args
def Da.ok (d : Da) : Prop := d.nr < 4294967296 ∧ d.arch < 4294967296 ∧ d.ip < 18446744073709551616 ∧ d.args.length = 6 ∧ ∀ w ∈ d.args, w < 18446744073709551616
def takesB (s : St) (x : In4) : Bool :=
 let b := if x.op ∈ [29, 45, 61, 77] then s.x else x.k
 if x.op = 21 ∨ x.op = 29 then decide (s.a = b) else if x.op = 37 ∨ x.op = 45 then decide (b < s.a) else if x.op = 53 ∨ x.op = 61 then decide (b ≤ s.a) else if x.op = 69 ∨ x.op = 77 then decide (s.a &&& b ≠ 0) else false
end Go.Ev
/- A record's words, by data. -/
namespace Go.Ev
open Go Go.RowKit
variable {G : Tbl}
set_option maxRecDepth 10000
set_option maxHeartbeats 2000000
set_option linter.unusedSimpArgs false
set_option linter.unusedVariables false
def lo (v : Nat) : Nat := v % 4294967296
def hi (v : Nat) : Nat := v / 4294967296 % 4294967296
def wordsD (d : Da) : List Nat := [d.nr, d.arch, lo d.ip, hi d.ip] ++ d.args.flatMap fun a => [lo a, hi a]
def wordS (d : Da) (at' : Nat) : Nat × Bool := if at' % 4 = 0 ∧ at' < 64 then ((wordsD d).getD (at' / 4) 0, true) else (0, false)
end Go.Ev
/- Arguments of the statements: instructions, states, records. -/
namespace Go.Ev
open Go Go.RowKit
set_option linter.unusedSimpArgs false
set_option linter.unusedVariables false
def i64R (n : Int) : Prop := -9223372036854775808 ≤ n ∧ n ≤ 9223372036854775807
def In4.ok (x : In4) : Prop := (i64R x.op ∧ i64R x.jt ∧ i64R x.jf) ∧ x.k < 4294967296
theorem i64_wf {n : Int} (h : (Lit.int .i64 n).wf = true) : i64R n := by
 simp [Lit.wf, IntKind.min, IntKind.max, IntKind.signed, IntKind.bits] at h
 unfold i64R
 omega
theorem hasty_int {k : IntKind} {cs : List V} (h : HasTy (.int k) cs) : ∃ n, cs = [.int k n] ∧ (Lit.int k n).wf = true := by simpa only [HasTy] using h
theorem ins_cells {cs : List V} (h : HasTy (.agg [.int .i64, .int .i64, .int .i64, .int .u32]) cs) : ∃ x : In4, cs = x.cs ∧ x.ok := by
 simp only [HasTy, HasTys] at h
 obtain ⟨a, _, rfl, ⟨n1, rfl, w1⟩, b, _, rfl, ⟨n2, rfl, w2⟩, c, _, rfl, ⟨n3, rfl, w3⟩, d, _, rfl, ⟨n4, rfl, w4⟩, rfl⟩ := h
 have w4 := u32_wf w4
 refine ⟨⟨n1, n2, n3, n4.toNat⟩, ?_, ⟨i64_wf w1, i64_wf w2, i64_wf w3⟩, by simp only; omega⟩
 simp [In4.cs, Int.toNat_of_nonneg w4.1]
theorem u64_wf {n : Int} (h : (Lit.int .u64 n).wf = true) : 0 ≤ n ∧ n < 18446744073709551616 := by
 simp [Lit.wf, IntKind.min, IntKind.max, IntKind.signed, IntKind.bits] at h
 omega
theorem u32_cell {cs : List V} (h : HasTy (.int .u32) cs) : ∃ n : Nat, cs = [.int .u32 (n : Int)] ∧ n < 4294967296 := by
 obtain ⟨n, rfl, hw⟩ := hasty_int h
 have := u32_wf hw
 exact ⟨n.toNat, by rw [Int.toNat_of_nonneg this.1], by omega⟩
theorem u64_cell {cs : List V} (h : HasTy (.int .u64) cs) : ∃ n : Nat, cs = [.int .u64 (n : Int)] ∧ n < 18446744073709551616 := by
 obtain ⟨n, rfl, hw⟩ := hasty_int h
 have := u64_wf hw
 exact ⟨n.toNat, by rw [Int.toNat_of_nonneg this.1], by omega⟩
theorem flt_list : ∀ {es : List (List V)}, (∀ x ∈ es, HasTy (.agg [.int .i64, .int .i64, .int .i64, .int .u32]) x) → ∃ f : List In4, es = IL f ∧ ∀ x ∈ f, x.ok
 | [], _ => ⟨[], rfl, by simp⟩
 | e :: es, h => by
  obtain ⟨x, rfl, hx⟩ := ins_cells (h e (by simp))
  obtain ⟨f, rfl, hf⟩ := flt_list (es := es) fun y hy => h y (by simp [hy])
  refine ⟨x :: f, by simp [IL], fun y hy => ?_⟩
  simp only [List.mem_cons] at hy
  rcases hy with rfl | hy
  ·exact hx
  ·exact hf y hy
theorem flt_arg {v : V} (h : ArgIs (.sl (.agg [.int .i64, .int .i64, .int .i64, .int .u32])) v) : ∃ f : List In4, v = FL f ∧ f.length ≤ maxLen ∧ ∀ x ∈ f, x.ok := by
 have h : HasTy (.sl (.agg [.int .i64, .int .i64, .int .i64, .int .u32])) [v] := h
 rw [HasTy] at h
 obtain ⟨es, hes, hl, he⟩ := h
 obtain ⟨f, rfl, hf⟩ := flt_list he
 simp only [List.cons.injEq, and_true] at hes
 exact ⟨f, by rw [hes]; rfl, by simpa using hl, hf⟩
end Go.Ev
/- What an instruction makes of a state: run.Step. -/
namespace Go.Ev
open Go Go.RowKit
variable {G : Tbl}
set_option maxRecDepth 10000
set_option maxHeartbeats 2000000
set_option linter.unusedSimpArgs false
set_option linter.unusedVariables false
def cellS (s : St) (k : Nat) : Nat := if k < 16 then s.m.getD k 0 else 0
def storeS (s : St) (k v : Nat) : St := if k < 16 then { s with m := s.m.set k v } else s
def stepO (s : St) (x : In4) (d : Da) : St :=
 if x.op = 0 then { s with a := x.k } else if x.op = 1 then { s with x := x.k } else if x.op = 32 then { s with a := (wordS d x.k).1 }
 else if x.op = 96 then { s with a := cellS s x.k } else if x.op = 97 then { s with x := cellS s x.k } else if x.op = 2 then storeS s x.k s.a else if x.op = 3 then storeS s x.k s.x
 else if x.op = 7 then { s with x := s.a } else if x.op = 135 then { s with a := s.x } else if x.op = 132 then { s with a := negW s.a } else s
def aluB (s : St) (x : In4) : Nat := if (aluT x.op).2.1 then s.x else x.k
def aluR (s : St) (x : In4) : Nat × Bool := doW (aluT x.op).1 s.a (aluB s x)
def stepS (s : St) (x : In4) (d : Da) : St × Bool :=
 if (aluT x.op).2.2 then (if (aluR s x).2 then { s with a := (aluR s x).1 } else s, (aluR s x).2) else (stepO s x d, true)
end Go.Ev
/- Which filters are sound: check. -/
namespace Go.Ev
open Go Go.RowKit
variable {G : Tbl}
set_option maxRecDepth 10000
set_option maxHeartbeats 2000000
set_option linter.unusedSimpArgs false
set_option linter.unusedVariables false
def ruleB (x : In4) : Bool :=
 if x.op = 32 then decide (x.k % 4 = 0 ∧ x.k < 64) else if x.op = 52 then decide (x.k ≠ 0) else if x.op = 2 ∨ x.op = 3 ∨ x.op = 96 ∨ x.op = 97 then decide (x.k < 16) else if x.op = 100 ∨ x.op = 116 then decide (x.k < 32) else true
def oneB (x : In4) (left : Nat) : Bool := rightI x && ruleB x && (if x.op = 5 then decide (x.k < left) else true) && (if isBr x.op then decide (x.jt < left ∧ x.jf < left) else true)
def okAll : List In4 → Bool
 | [] => true
 | x :: f => oneB x f.length && okAll f
def endB (f : List In4) : Bool := match f.getLast? with | some x => isEnd x.op | none => false
def soundF (f : List In4) : Bool := decide (f.length ≤ 4096) && okAll f && endB f
def rents : List (V × V) := [(.int .i64 32, .fn 152 [.ptr 0 0]), (.int .i64 52, .fn 153 [.ptr 0 0]), (.int .i64 2, .fn 150 [.ptr 0 0]), (.int .i64 3, .fn 150 [.ptr 0 0]), (.int .i64 96, .fn 150 [.ptr 0 0]), (.int .i64 97, .fn 150 [.ptr 0 0]),
 (.int .i64 100, .fn 151 [.ptr 0 0]), (.int .i64 116, .fn 151 [.ptr 0 0])]
def waysL (x : In4) (at' : Nat) : List Int := if isEnd x.op then [] else if x.op = 5 then [((at' + 1 + x.k : Nat) : Int)] else if isBr x.op then [(at' : Int) + 1 + min x.jt x.jf, (at' : Int) + 1 + max x.jt x.jf] else [((at' + 1 : Nat) : Int)]
def In4.brOk (x : In4) : Prop := isBr x.op = true → 0 ≤ x.jt ∧ x.jt ≤ 255 ∧ 0 ≤ x.jf ∧ x.jf ≤ 255
theorem convI64 (n : Nat) (h : n < 4294967296) : convI .i64 (n : Int) = (n : Int) := by unfold convI; exact IntWalk.i64_in _ ⟨by omega, by omega⟩
theorem ways_ok [HasIns G] [HasCheck G] (x : In4) (at' : Nat) (hx : x.k < 4294967296) (hb : x.brOk) (ha : at' ≤ 5000) : FP G 155 [IV x, .int .i64 at'] (.vs (ints .i64 (waysL x at')) .no) := by
 refine FP_of HasCheck.h_check_ways (Nat.le_of_ble_eq_true rfl) ?_
 have he := Ends_ok (G := G) x
 have hbr := Branch_ok (G := G) x
 have a1 : addI .i64 (at' : Int) 1 = ((at' + 1 : Nat) : Int) := add1' (by omega)
 simp [IV, In4.cs, a1, -Int.natCast_add] at he hbr ⊢
 refine callP_of he ?_
 cases h1 : isEnd x.op
 ·have n6 : isEnd x.op = false := h1
  simp
  by_cases h5 : x.op = 5
  ·have a2 : addI .i64 ((at' + 1 : Nat) : Int) (x.k : Int) = ((at' + 1 + x.k : Nat) : Int) := addN (by omega)
   have a2' : addI .i64 ((at' : Int) + 1) (x.k : Int) = ((at' + 1 + x.k : Nat) : Int) := by rw [← addN (a := at' + 1) (b := x.k) (by omega)]; rfl
   have h15 : isEnd 5 = false := by decide
   simp [h5, h15, convI64 x.k hx, a2, a2', waysL, ints, -Int.natCast_add]
  ·simp [h5, beqF]
   refine callP_of hbr ?_
   cases h2 : isBr x.op
   ·simp [waysL, h1, h5, h2, ints]
   ·obtain ⟨b1, b2, b3, b4⟩ := hb h2
    have mn : (if x.jf < x.jt then x.jf else x.jt) = min x.jt x.jf := by omega
    have mx : (if x.jf > x.jt then x.jf else x.jt) = max x.jt x.jf := by omega
    have a3 : addI .i64 ((at' + 1 : Nat) : Int) (min x.jt x.jf) = (at' : Int) + 1 + min x.jt x.jf := by rw [addI64] <;> omega
    have a4 : addI .i64 ((at' + 1 : Nat) : Int) (max x.jt x.jf) = (at' : Int) + 1 + max x.jt x.jf := by rw [addI64] <;> omega
    have mx' : (if x.jt < x.jf then x.jf else x.jt) = max x.jt x.jf := by omega
    have mn' : (if x.jt > x.jf then x.jf else x.jt) = min x.jt x.jf := by omega
    have mn2 : (if x.jt ≤ x.jf then x.jt else x.jf) = min x.jt x.jf := by omega
    have a5 : addI .i64 ((at' : Int) + 1) (min x.jt x.jf) = (at' : Int) + 1 + min x.jt x.jf := by rw [addI64] <;> omega
    have a6 : addI .i64 ((at' : Int) + 1) (max x.jt x.jf) = (at' : Int) + 1 + max x.jt x.jf := by rw [addI64] <;> omega
    simp [mn, mx, mx', mn', a3, a4, a5, a6, waysL, h1, h5, h2, ints, -Int.natCast_add]
 ·simp [waysL, h1]
end Go.Ev
/- Which filters are sound: check.Check. -/
namespace Go.Ev
open Go Go.RowKit
variable {G : Tbl}
set_option maxRecDepth 10000
set_option maxHeartbeats 2000000
set_option linter.unusedSimpArgs false
set_option linter.unusedVariables false
theorem okAll_drop {f : List In4} {i : Nat} (h : i < f.length) : okAll (f.drop i) = (oneB f[i] (f.length - 1 - i) && okAll (f.drop (i + 1))) := by
 rw [List.drop_eq_getElem_cons h]
 simp only [okAll, List.length_drop]
 congr 2; omega
theorem FL_get {f : List In4} {i : Nat} (h : i < f.length) : (IL f)[i]? = some f[i].cs := by simp [List.getElem?_eq_getElem h]
def Rch (f : List In4) (v : V) : Prop := ∃ i e : Int, v = .tup [.int .i64 i, .int .i64 e] ∧ (e = 0 ↔ soundF f = true)
theorem sound_of {f : List In4} (h0 : f ≠ []) (h1 : f.length ≤ 4096) (h2 : okAll f = true) (h3 : isEnd (f[f.length - 1]'(by have := List.length_pos_iff.2 h0; omega)).op = true) : soundF f = true := by
 have : f.getLast? = some (f[f.length - 1]'(by have := List.length_pos_iff.2 h0; omega)) := by rw [List.getLast?_eq_getElem?]; exact List.getElem?_eq_getElem _
 simp [soundF, endB, h1, h2, this, h3]
theorem unsound_end {f : List In4} (h0 : f ≠ []) (h3 : isEnd (f[f.length - 1]'(by have := List.length_pos_iff.2 h0; omega)).op = false) : soundF f = false := by
 have : f.getLast? = some (f[f.length - 1]'(by have := List.length_pos_iff.2 h0; omega)) := by rw [List.getLast?_eq_getElem?]; exact List.getElem?_eq_getElem _
 simp [soundF, endB, this, h3]
theorem unsound_ok {f : List In4} (h : okAll f = false) : soundF f = false := by simp [soundF, h]
def H2 : Heap := [some (.cells [.fn 149 []]), some (.map rents)]
end Go.Ev
/- Which filters are sound, by hurdleref05. -/
namespace Go.Ev
open Go Go.RowKit
variable {G : Tbl}
set_option maxRecDepth 10000
set_option maxHeartbeats 2000000
set_option linter.unusedSimpArgs false
set_option linter.unusedVariables false
theorem convU64 (n : Nat) (h : n < 18446744073709551616) : convI .u64 (n : Int) = (n : Int) := by unfold convI; exact IntWalk.u64_in _ ⟨by omega, by omega⟩
theorem One_ok [HasR2 G] [HasR5o G] (x : In4) (at' n : Nat) (hx : x.k < 4294967296) (ha : at' < n) (hn : n ≤ maxLen) : ∃ v, FP G 186 [IV x, .int .i64 at', .int .i64 n] v ∧ ∃ e : Int, v = .int .i64 e ∧ (e = 0 ↔ oneB x (n - 1 - at') = true) := by
 refine FPx_of HasR5o.h_hurdleref05_One (Nat.le_of_ble_eq_true rfl) ?_
 have hr := RightR2_ok (G := G) x
 have hbr := BranchR_ok (G := G) x
 have hm : maxLen ≤ 9223372036854775807 := by decide
 have s1 : subI .i64 (n : Int) 1 = ((n - 1 : Nat) : Int) := sub1' (by omega)
 have s2 : subI .i64 ((n - 1 : Nat) : Int) (at' : Int) = ((n - 1 - at' : Nat) : Int) := by rw [subI64] <;> omega
 have hl : n - 1 - at' < 9223372036854775808 := by omega
 generalize n - 1 - at' = left at s2 hl
 obtain ⟨op, jt, jf, k⟩ := x
 have hx : k < 4294967296 := hx
 have r4 : remI (k : Int) 4 = ((k % 4 : Nat) : Int) := rem64 (b := 4)
 have h4 : (((k % 4 : Nat) : Int) = 0) = (k % 4 = 0) := propext (by omega)
 have h60 : (60 < (k : Int)) = (60 < k) := propext (by omega)
 have h15 : (15 < (k : Int)) = (15 < k) := propext (by omega)
 have h31 : (31 < (k : Int)) = (31 < k) := propext (by omega)
 have c1 : convI .u64 (k : Int) = (k : Int) := convU64 k (by omega)
 have c2 : convI .u64 (left : Int) = (left : Int) := convU64 left (by omega)
 have hle : ((left : Int) ≤ (k : Int)) = (left ≤ k) := propext (by omega)
 simp [IV, In4.cs] at hr hbr ⊢
 refine callP_of hr ?_
 cases h1 : rightI ⟨op, jt, jf, k⟩
 ·simp [oneB, h1]
 clear hr
 simp
 by_cases o32 : op = 32
 ·subst o32
  have e1 : isBr 32 = false := by decide
  rw [e1] at hbr
  by_cases hk4 : k % 4 = 0
  ·by_cases hk : 60 < k
   ·simp [r4, h4, hk4, h60, hk, beqI, -Int.natCast_emod, oneB, ruleB]
    intro _ h; omega
   ·have : k < 64 := by omega
    simp [r4, h4, hk4, h60, hk, beqI, s1, s2, -Int.natCast_emod]
    refine callP_of hbr ?_
    simp [oneB, ruleB, h1, hk4, this, e1]
  ·have h40 : (((k % 4 : Nat) : Int) != 0) = true := by simp [-Int.natCast_emod, h4, hk4]
   simp [r4, h40, hk4, h60, beqI, -Int.natCast_emod, oneB, ruleB]
 by_cases o52 : op = 52
 ·subst o52
  have e1 : isBr 52 = false := by decide
  rw [e1] at hbr
  by_cases hk4 : k = 0
  ·simp [hk4, beqI, oneB, ruleB]
  ·have : ((k : Int) = 0) = False := eq_false (by omega)
   simp [this, hk4, beqI, s1, s2]
   refine callP_of hbr ?_
   simp [oneB, ruleB, h1, hk4, e1]
 by_cases oa : op = 2 ∨ op = 3 ∨ op = 96 ∨ op = 97
 ·have e1 : isBr op = false := by rcases oa with rfl | rfl | rfl | rfl <;> decide
  have hru : ruleB ⟨op, jt, jf, k⟩ = decide (k < 16) := by rcases oa with rfl | rfl | rfl | rfl <;> rfl
  have n5 : ¬ op = 5 := by omega
  rw [e1] at hbr
  by_cases hk : 15 < k
  ·have : oneB ⟨op, jt, jf, k⟩ left = false := by simp [oneB, hru]; intro _ h; omega
   rcases oa with rfl | rfl | rfl | rfl <;> simp [h15, hk, beqI, this]
  ·have : oneB ⟨op, jt, jf, k⟩ left = true := by simp [oneB, hru, h1, e1, n5]; omega
   rcases oa with rfl | rfl | rfl | rfl <;> simp [h15, hk, beqI, s1, s2] <;> refine callP_of hbr ?_ <;> simp [this]
 by_cases ob : op = 100 ∨ op = 116
 ·have e1 : isBr op = false := by rcases ob with rfl | rfl <;> decide
  have hru : ruleB ⟨op, jt, jf, k⟩ = decide (k < 32) := by rcases ob with rfl | rfl <;> rfl
  have n5 : ¬ op = 5 := by omega
  rw [e1] at hbr
  by_cases hk : 31 < k
  ·have : oneB ⟨op, jt, jf, k⟩ left = false := by simp [oneB, hru]; intro _ h; omega
   rcases ob with rfl | rfl <;> simp [h31, hk, beqI, this]
  ·have : oneB ⟨op, jt, jf, k⟩ left = true := by simp [oneB, hru, h1, e1, n5]; omega
   rcases ob with rfl | rfl <;> simp [h31, hk, beqI, s1, s2] <;> refine callP_of hbr ?_ <;> simp [this]
 have hru : ruleB ⟨op, jt, jf, k⟩ = true := by simp [ruleB, o32, o52, oa, ob]
 by_cases o5 : op = 5
 ·subst o5
  have e1 : isBr 5 = false := by decide
  rw [e1] at hbr
  by_cases hk : left ≤ k
  ·have : oneB ⟨5, jt, jf, k⟩ left = false := by simp [oneB, hru]; intro _ h; omega
   simp [s1, s2, c1, c2, hle, hk, this]
  ·have : oneB ⟨5, jt, jf, k⟩ left = true := by simp [oneB, hru, h1, e1]; omega
   simp [s1, s2, c1, c2, hle, hk]
   refine callP_of hbr ?_
   simp [this]
 have ne : ∀ o : Int, op ≠ o → (op == o) = false := fun o h => beqF h
 have n2 := ne 2 (by omega)
 have n3 := ne 3 (by omega)
 have n96 := ne 96 (by omega)
 have n97 := ne 97 (by omega)
 have n100 := ne 100 (by omega)
 have n116 := ne 116 (by omega)
 simp [ne 32 o32, ne 52 o52, ne 5 o5, n2, n3, n96, n97, n100, n116, s1, s2]
 refine callP_of hbr ?_
 cases hb : isBr op
 ·simp [oneB, h1, hru, hb, o5]
 ·simp
  by_cases ht : (left : Int) ≤ jt
  ·have : oneB ⟨op, jt, jf, k⟩ left = false := by simp [oneB, hb]; intros; omega
   simp [ht, this]
  ·by_cases hf : (left : Int) ≤ jf
   ·have : oneB ⟨op, jt, jf, k⟩ left = false := by simp [oneB, hb]; intros; omega
    simp [ht, hf, this]
   ·have : oneB ⟨op, jt, jf, k⟩ left = true := by simp [oneB, hb, h1, hru, o5]; omega
    simp [ht, hf, this]
theorem CheckR_ok [HasR2 G] [HasR5 G] (f : List In4) (hf : f.length ≤ maxLen) (hk : ∀ x ∈ f, x.k < 4294967296) : ∃ v, FP G 187 [FL f] v ∧ Rch f v := by
 refine FPx_of HasR5.h_hurdleref05_Check (Nat.le_of_ble_eq_true rfl) ?_
 by_cases h0 : f = []
 ·subst h0
  simp [FL]
  exact ⟨0, 5, rfl, by decide⟩
 have hne : 0 < f.length := List.length_pos_iff.2 h0
 by_cases hbig : f.length > 4096
 ·have hb : ((4096 : Int) < (f.length : Int)) = True := eq_true (by omega)
  have : soundF f = false := by simp [soundF, show ¬ f.length ≤ 4096 by omega]
  simp [FL, h0, hb, beqI]
  exact ⟨0, 3, rfl, by simp [this]⟩
 have hb : ((4096 : Int) < (f.length : Int)) = False := eq_false (by omega)
 simp [FL, h0, hb, beqI]
 refine W_up f.length (fun i => [(0, FL f), (4, .int .i64 i)]) (fun _ => []) (fun i => okAll f = okAll (f.drop i)) ?_ ?_
 ·simp [keep_cl, trunc, FL]
 intro i hi hn
 by_cases hlt : i < f.length
 ·have hx := FL_get hlt
  have hg : f[i] ∈ f := List.getElem_mem hlt
  have hkk := hk _ hg
  have hdr := okAll_drop hlt
  obtain ⟨v, ho, e, rfl, he⟩ := One_ok (G := G) f[i] i f.length hkk hlt hf
  generalize f[i] = x at hx hkk hdr hg ho he
  simp [IV, In4.cs] at ho
  simp (disch := omega) [ltT, FL, hx, In4.cs, hlt, -Int.natCast_add]
  refine callP_of ho ?_
  by_cases h0e : e = 0
  ·have := he.1 h0e
   rw [this, Bool.true_and] at hdr
   have hn2 := hn.trans hdr
   simp (disch := omega) [h0e, hlt, add1', keep_cl, trunc, FL, hn2, -Int.natCast_add]
  ·have hrb : oneB x (f.length - 1 - i) = false := by rw [← Bool.not_eq_true]; exact fun h => h0e (he.2 h)
   rw [hrb] at hdr
   simp [bneT, h0e]
   exact ⟨_, _, rfl, by simp [h0e, unsound_ok (hn.trans hdr)]⟩
 ·have hin : i = f.length := by omega
  subst hin
  have hlt : f.length - 1 < f.length := by omega
  have hx := FL_get hlt
  rw [List.drop_length] at hn
  have hs1 := sound_of h0 (by omega) hn
  have hs2 := unsound_end h0
  generalize f[f.length - 1] = x at hx hs1 hs2
  have he := EndsR_ok (G := G) x
  simp [IV, In4.cs] at he
  have hsub : subI .i64 (f.length : Int) 1 = ((f.length - 1 : Nat) : Int) := sub1' (by have : maxLen ≤ 9223372036854775807 := by decide
                                                                                       omega)
  simp [FL, hsub, hx, In4.cs]
  refine callP_of he ?_
  cases hen : isEnd x.op
  ·simp
   exact ⟨_, 5, rfl, by simp [hs2 hen]⟩
  ·simp
   exact ⟨_, 0, rfl, by simp [hs1 hen]⟩
theorem SoundR_ok [HasR2 G] [HasR5 G] (f : List In4) (hf : f.length ≤ maxLen) (hk : ∀ x ∈ f, x.k < 4294967296) : FP G 188 [FL f] (.bool (soundF f)) := by
 refine FP_of HasR5.h_hurdleref05_Sound (Nat.le_of_ble_eq_true rfl) ?_
 obtain ⟨v, hv, i, e, rfl, he⟩ := CheckR_ok (G := G) f hf hk
 simp
 refine callP_of hv ?_
 have : (e == 0) = soundF f := by rw [Bool.eq_iff_iff, beq_iff_eq]; exact he
 simp [this]
end Go.Ev
/- The words of a record, by hurdleref04. -/
namespace Go.Ev
open Go Go.RowKit
variable {G : Tbl}
set_option maxRecDepth 10000
set_option maxHeartbeats 2000000
set_option linter.unusedSimpArgs false
set_option linter.unusedVariables false
theorem quoU64' {a b : Nat} (ha : a < 18446744073709551616) : quoI .u64 (a : Int) (b : Int) = ((a / b : Nat) : Int) := by
 have h : a / b ≤ a := Nat.div_le_self _ _
 unfold quoI
 have h2 : ((a : Int).tdiv (b : Int)) = ((a / b : Nat) : Int) := rfl
 rw [h2]
 exact IntWalk.u64_in _ ⟨Int.natCast_nonneg _, by rw [Int.ofNat_le.symm] at h; omega⟩
theorem convU8 {a : Nat} (ha : a < 256) : convI .u8 (a : Int) = (a : Int) := by
 unfold convI; exact IntWalk.u8_in _ ⟨by omega, by omega⟩
def lowL (v n : Nat) : List Nat := (List.range n).map fun j => v / 256 ^ j % 256
theorem lowL_succ (v n : Nat) : lowL v (n + 1) = lowL v n ++ [v / 256 ^ n % 256] := by simp [lowL, List.range_succ]
theorem lowL_len (v n : Nat) : (lowL v n).length = n := by simp [lowL]
def num : List Nat → Nat
 | [] => 0
 | b :: l => b + 256 * num l
end Go.Ev
/- An instruction changes nothing but what it sets, and hangs on what it needs. -/
namespace Go.Ev
open Go Go.RowKit
variable {G : Tbl}
set_option maxRecDepth 10000
set_option maxHeartbeats 2000000
set_option linter.unusedSimpArgs false
set_option linter.unusedVariables false
def part (s : St) : Nat → Nat
 | 0 => s.a
 | 1 => s.x
 | i + 2 => s.m.getD i 0
end Go.Ev
/- What is needed at each place: live.nexts, live.At, live.Behind. -/
namespace Go.Ev
open Go Go.RowKit
variable {G : Tbl}
set_option maxRecDepth 10000
set_option maxHeartbeats 2000000
set_option linter.unusedSimpArgs false
set_option linter.unusedVariables false
def offs (x : In4) : List Nat := if isEnd x.op then [] else if x.op = 5 then [x.k] else if isBr x.op then [x.jt.toNat, x.jf.toNat] else [0]
end Go.Ev
/- What hurdleref07 says is needed. -/
namespace Go.Ev
open Go Go.RowKit
variable {G : Tbl}
set_option maxRecDepth 10000
set_option maxHeartbeats 2000000
set_option linter.unusedSimpArgs false
set_option linter.unusedVariables false
def cb (l : List Bool) : List V := l.map V.bool
@[simp] theorem cb_length (l : List Bool) : (cb l).length = l.length := by simp [cb]
@[simp] theorem cb_cl (n : Nat) (l : List Bool) : clL n (cb l) = cb l := by
 rw [clL_eq_map]; simp [cb, Function.comp_def]
@[simp] theorem cb_pure (l : List Bool) : (cb l).all V.pure = true := by simp [cb]
@[simp high] theorem ev1_mkslb (base : Nat) (e : Env) (H : Heap) (s bytes : Nat) (n : X) : ev1 base e H (.mksl s bytes [.bool false] n) = (match n.ev e with
  | .int _ m => if isFree H (base + s) = true ∧ 0 ≤ m ∧ m.toNat * bytes ≤ 140737488355328 then some (.rs (base + s) 0 m.toNat 1, H.set (base + s) (some (.cells (cb (List.replicate m.toNat false))))) else none
  | _ => none) := by
 have h : ∀ m : Nat, (List.replicate m [V.bool false]).flatten = cb (List.replicate m false) := fun m => by
  induction m with
  | zero => rfl
  | succ m ih => rw [List.replicate_succ, List.flatten_cons, ih]; simp [cb, List.replicate_succ]
 rw [ev1.eq_27]
 cases n.ev e <;> simp only [h, List.length_singleton]
end Go.Ev
/- Runs, by hurdleref06; and the law LiveRuns. -/
namespace Go.Ev
open Go Go.RowKit
variable {G : Tbl}
set_option maxRecDepth 10000
set_option maxHeartbeats 2000000
set_option linter.unusedSimpArgs false
set_option linter.unusedVariables false
def goes (s : St) (x : In4) : Nat := if x.op = 5 then x.k else if isBr x.op then (if takesB s x then x.jt.toNat else x.jf.toNat) else 0
def run (d : Da) (g : List In4) (s : St) : Nat × Nat :=
 match g with
 | [] => (0, 0)
 | x :: g => if x.op = 6 then (x.k, 1) else if x.op = 22 then (s.a, 1) else if (stepS s x d).2 then ((run d (g.drop (goes s x)) (stepS s x d).1).1, (run d (g.drop (goes s x)) (stepS s x d).1).2 + 1) else (0, 1)
termination_by g.length
decreasing_by all_goals (simp only [List.length_drop, List.length_cons]; omega)
end Go.Ev
/- Code put together from behind: labels, branches, a condition's test: plain. -/
namespace Go.Ev
open Go Go.RowKit
set_option maxRecDepth 10000
set_option maxHeartbeats 2000000
set_option linter.unusedSimpArgs false
set_option linter.unusedVariables false
structure Cd where
 arg : Int
 cmp : Int
 mask : Nat
 val : Nat
 deriving DecidableEq
def Cd.ok (c : Cd) : Prop := c.mask < 18446744073709551616 ∧ c.val < 18446744073709551616
def Cd.right (c : Cd) : Bool := decide (0 ≤ c.arg ∧ c.arg ≤ 5 ∧ 0 ≤ c.cmp ∧ c.cmp ≤ 5)
def cmpB (cmp : Int) (a b : Nat) : Bool :=
 if cmp = 0 then decide (a = b) else if cmp = 1 then decide (a ≠ b) else if cmp = 2 then decide (a < b) else if cmp = 3 then decide (a ≤ b) else if cmp = 4 then decide (b < a) else decide (b ≤ a)
def argD (d : Da) (c : Cd) : Nat := d.args.getD c.arg.toNat 0 &&& c.mask
def Cd.holds (c : Cd) (d : Da) : Bool := c.right && cmpB c.cmp (argD d c) c.val
def sfx (c : List In4) (l : Nat) : List In4 := c.drop (c.length - l)
theorem sfx_app {a c : List In4} {l : Nat} (h : l ≤ c.length) : sfx (a ++ c) l = sfx c l := by
 unfold sfx
 rw [List.length_append, show a.length + c.length - l = a.length + (c.length - l) by omega, List.drop_length_add_append]
def Grown (c c' : List In4) (n : Nat) : Prop := ∃ a, c' = a ++ c ∧ a.length ≤ n
theorem Grown.refl (c : List In4) : Grown c c 0 := ⟨[], rfl, Nat.le_refl _⟩
theorem Grown.trans {a b c : List In4} {n m : Nat} (h : Grown a b n) (k : Grown b c m) : Grown a c (n + m) := by
 obtain ⟨x, rfl, hx⟩ := h
 obtain ⟨y, rfl, hy⟩ := k
 exact ⟨y ++ x, by rw [List.append_assoc], by rw [List.length_append]; omega⟩
theorem Grown.mono {a b : List In4} {n m : Nat} (h : Grown a b n) (hm : n ≤ m) : Grown a b m := by
 obtain ⟨x, rfl, hx⟩ := h
 exact ⟨x, rfl, by omega⟩
theorem Grown.len {a b : List In4} {n : Nat} (h : Grown a b n) : a.length ≤ b.length ∧ b.length ≤ a.length + n := by
 obtain ⟨x, rfl, hx⟩ := h
 rw [List.length_append]; omega
theorem Grown.sfx {a b : List In4} {n l : Nat} (h : Grown a b n) (hl : l ≤ a.length) : sfx b l = sfx a l := by
 obtain ⟨x, rfl, hx⟩ := h
 exact sfx_app hl
def Ind (d : Da) (c : List In4) (l v : Nat) : Prop := ∀ s : St, s.ok → (run d (sfx c l) s).1 = v
theorem Ind.grown {d : Da} {a b : List In4} {n l v : Nat} (h : Ind d a l v) (g : Grown a b n) (hl : l ≤ a.length) : Ind d b l v := fun s hs => by rw [g.sfx hl]; exact h s hs
def Dep (d : Da) (c : List In4) (l a v : Nat) : Prop := ∀ s : St, s.ok → s.a = a → (run d (sfx c l) s).1 = v
theorem Dep.grown {d : Da} {a b : List In4} {n l w v : Nat} (h : Dep d a l w v) (g : Grown a b n) (hl : l ≤ a.length) : Dep d b l w v := fun s hs ha => by rw [g.sfx hl]; exact h s hs ha
theorem Ind.dep {d : Da} {c : List In4} {l v : Nat} (h : Ind d c l v) (w : Nat) : Dep d c l w v := fun s hs _ => h s hs
end Go.Ev
/- Conditions, actions' names, policies that may be: contracts. -/
namespace Go.Ev
open Go Go.RowKit
variable {G : Tbl}
set_option maxRecDepth 10000
set_option maxHeartbeats 4000000
set_option linter.unusedSimpArgs false
set_option linter.unusedVariables false
def Cd.cs (c : Cd) : List V := [.int .i64 c.arg, .int .i64 c.cmp, .int .u64 (c.mask : Int), .int .u64 (c.val : Int)]
def CL (l : List Cd) : List (List V) := l.map Cd.cs
@[simp] theorem CL_length (l : List Cd) : (CL l).length = l.length := by simp [CL]
theorem CL_get {l : List Cd} {i : Nat} {x : Cd} (h : l[i]? = some x) : (CL l)[i]? = some x.cs := by simp [CL, h]
theorem CondR_ok [HasCondR G] (c : Cd) : FP G 396 [.agg c.cs] (.bool c.right) := by
 refine FP_of HasCondR.h_cond_Right (Nat.le_of_ble_eq_true rfl) ?_
 by_cases h1 : 0 ≤ c.arg
 ·by_cases h2 : c.arg < 6
  ·by_cases h3 : 0 ≤ c.cmp
   ·by_cases h4 : c.cmp ≤ 5
    ·have h2' : c.arg ≤ 5 := by omega
     simp [Cd.cs, Cd.right, h1, h2, h3, h4, h2']
    ·simp [Cd.cs, Cd.right, h1, h2, h3, h4]
   ·simp [Cd.cs, Cd.right, h1, h2, h3]
  ·have h2' : ¬ c.arg ≤ 5 := by omega
   simp [Cd.cs, Cd.right, h1, h2, h2']
 ·simp [Cd.cs, Cd.right, h1]
def kindsV : List V := [.str [101, 113], .fn 397 [], .int .i64 1, .str [110, 101], .fn 398 [], .int .i64 0, .str [108, 116], .fn 399 [], .int .i64 5, .str [108, 101], .fn 400 [], .int .i64 4, .str [103, 116], .fn 401 [], .int .i64 3, .str [103, 101], .fn 402 [], .int .i64 2]
theorem kinds_ok [HasCondN G] : FP G 403 [] (.agg kindsV) := by
 refine FP_of HasCondN.h_cond_kinds (Nat.le_of_ble_eq_true rfl) ?_
 simp [kindsV]
def dig (d : Nat) : UInt8 := UInt8.ofNat (if d < 10 then 48 + d else 87 + d)
def textA (n : Nat) : Nat → List UInt8 × Bool
 | 0 => ([48, 120], false)
 | k + 1 => if (textA n k).2 || decide (0 < n / 2 ^ (60 - 4 * k) % 16) || decide (k = 15) then ((textA n k).1 ++ [dig (n / 2 ^ (60 - 4 * k) % 16)], true) else ((textA n k).1, false)
def textN (n : Nat) : List UInt8 := (textA n 16).1
theorem textA_len (n : Nat) : ∀ k, (textA n k).1.length ≤ 2 + k
 | 0 => by simp [textA]
 | k + 1 => by
  have := textA_len n k
  unfold textA
  split <;> simp <;> omega
theorem dig_at (d : Nat) (h : d < 16) : ([48, 49, 50, 51, 52, 53, 54, 55, 56, 57, 97, 98, 99, 100, 101, 102] : List UInt8)[d]? = some (dig d) := by
 have : ∀ d < 16, ([48, 49, 50, 51, 52, 53, 54, 55, 56, 57, 97, 98, 99, 100, 101, 102] : List UInt8)[d]? = some (dig d) := by decide
 exact this d h
theorem shU {n e : Nat} (h : e ≤ 64) : shrI .u64 (n : Int) (e : Int) = ((n / 2 ^ e : Nat) : Int) := by
 unfold shrI
 have : min (e : Int).toNat IntKind.u64.bits = e := by
  have : IntKind.u64.bits = 64 := rfl
  omega
 rw [this, show ((2 : Int) ^ e) = ((2 ^ e : Nat) : Int) by simp, Int.fdiv_eq_ediv_of_nonneg _ (Int.natCast_nonneg _)]
 simp
theorem and15 {x : Nat} (h : x < 18446744073709551616) : andI .u64 (x : Int) 15 = ((x % 16 : Nat) : Int) := by
 have h1 : (BitVec.ofInt 64 (x : Int) &&& BitVec.ofInt 64 15).toNat = x % 16 := by
  rw [show BitVec.ofInt 64 (x : Int) = BitVec.ofNat 64 x by apply BitVec.eq_of_toNat_eq; simp, show BitVec.ofInt 64 15 = BitVec.ofNat 64 15 from rfl]
  simp only [BitVec.toNat_and, BitVec.toNat_ofNat]
  rw [show 15 % 2 ^ 64 = 2 ^ 4 - 1 from rfl, Nat.and_two_pow_sub_one_eq_mod, Nat.mod_eq_of_lt (show x < 2 ^ 64 from h)]
 have h2 : andI .u64 (x : Int) 15 = IntKind.u64.wrap (((BitVec.ofInt 64 (x : Int) &&& BitVec.ofInt 64 15).toNat : Nat) : Int) := rfl
 rw [h2, h1]
 have : x % 16 < 16 := Nat.mod_lt _ (by decide)
 rw [IntKind.wrap, show IntKind.u64.signed = false from rfl]
 simp [IntKind.bits]
 omega
theorem bytesOf_of : ∀ s : List UInt8, bytesOf (ofBytes s) = some s
 | [] => rfl
 | b :: s => by
  have ih := bytesOf_of s
  simp only [ofBytes] at ih
  simp [ofBytes, bytesOf, ih]
theorem Text_ok [HasWText G] (n : Nat) (hn : n < 18446744073709551616) : FP G 392 [.int .u64 n] (.str (textN n)) := by
 refine FP_of HasWText.h_word_Text (Nat.le_of_ble_eq_true rfl) ?_
 obtain ⟨T, hT⟩ : ∃ T : Nat → List UInt8 × Bool, ∀ k, T k = textA n k := ⟨_, fun _ => rfl⟩
 have hTl : ∀ k, (T k).1.length ≤ 2 + k := fun k => by rw [hT]; exact textA_len n k
 simp
 refine W_up 16 (fun k => [(0, .int .u64 n), (3, .vs (ofBytes (T k).1) (.own 1)), (4, .bool (T k).2), (5, .int .i64 (60 - 4 * (k : Int)))]) (fun k => [some (.zone 1), some (.zone (T k).1.length)]) (fun _ => True) ?_ ?_
 ·simp [keep_cl, trunc, hT, textA, ofBytes, chunks]
 intro k hk _
 rcases Nat.eq_or_lt_of_le hk with hk | hk
 ·subst hk
  simp [keep_cl, trunc, bytesOf_of, hT, textN]
  done
 ·obtain ⟨e, he⟩ : ∃ e, e = 60 - 4 * k := ⟨_, rfl⟩
  obtain ⟨d, hd⟩ : ∃ d, d = n / 2 ^ e % 16 := ⟨_, rfl⟩
  have he2 : (60 - 4 * (k : Int)) = (e : Int) := by omega
  have a1 := shU (n := n) (e := e) (by omega)
  have hq : n / 2 ^ e < 18446744073709551616 := Nat.lt_of_le_of_lt (Nat.div_le_self _ _) hn
  have a2 := and15 hq
  have hd16 : d < 16 := by omega
  have a3 := dig_at d hd16
  rw [← hd] at a2
  have hl := hTl k
  have hT1 : T (k + 1) = if (T k).2 || decide (0 < d) || decide (k = 15) then ((T k).1 ++ [dig d], true) else ((T k).1, false) := by rw [hT, hT, textA, ← he, ← hd]
  rw [he2]
  simp (disch := omega) [keep_cl, trunc, a1, a2, a3, ltF, ltT, ltTn, eqT, eqF, subI64, -Int.natCast_emod, -Int.natCast_ediv, -Int.natCast_pow]
  have e60 : (60 : Int) - 4 * ((k + 1 : Nat) : Int) = (e : Int) - 4 := by omega
  have s4 : subI .i64 (e : Int) 4 = (e : Int) - 4 := subI64 (by omega) (by omega)
  have hlen : (ofBytes (T k).1).length = (T k).1.length := by simp [ofBytes]
  have hnx : ∀ b, (T k).2 = b → (b || decide (0 < d) || decide (k = 15)) = true → T (k + 1) = ((T k).1 ++ [dig d], true) := fun b hb hc => by rw [hT1, if_pos (by rw [hb]; exact hc)]
  have hno : (T k).2 = false → ¬ 0 < d → ¬ k = 15 → T (k + 1) = ((T k).1, false) := fun hb h1 h2 => by rw [hT1, if_neg (by simp [hb, h1, h2])]
  have hob : ofBytes ((T k).1 ++ [dig d]) = ofBytes (T k).1 ++ [[.int .u8 ((dig d).toNat : Nat)]] := by simp [ofBytes]
  have hfe : ∀ f ∈ ofBytes (T k).1, f.length = 1 := by intro f hf; simp only [ofBytes, List.mem_map] at hf; obtain ⟨_, _, rfl⟩ := hf; rfl
  have hfe' := eq_true hfe
  have hle : ((T k).1.length ≤ 140737488355327) = True := eq_true (by omega)
  have a4 : ([48, 49, 50, 51, 52, 53, 54, 55, 56, 57, 97, 98, 99, 100, 101, 102] : List UInt8)[d]'(by simp; omega) = dig d := by
   have := a3; rw [List.getElem?_eq_getElem (by simp; omega)] at this; exact Option.some.inj this
  cases hb : (T k).2 with
  | true =>
   simp (disch := omega) [keep_cl, trunc, a4, hle, hfe', ltF, ltT, s4, hnx _ hb rfl, hob, hlen, e60, -Int.natCast_add]
   exact hk
  | false =>
   by_cases hd0 : 0 < d
   ·have hd0' := eq_true hd0
    have hn0 : ¬ (0 = d) := by omega
    simp (disch := omega) [keep_cl, trunc, a4, hle, hfe', ltF, ltT, s4, hnx _ hb (by simp [hd0]), hob, hlen, e60, hd0', -Int.natCast_add]
    exact hk
   ·have hd00 : d = 0 := by omega
    subst hd00
    by_cases hk15 : k = 15
    ·have : e = 0 := by omega
     subst this
     simp (disch := omega) [keep_cl, trunc, a4, hle, hfe', ltF, ltT, s4, hnx _ hb (by simp [hk15]), hob, hlen, e60, show subI .i64 0 4 = -4 from rfl, -Int.natCast_add]
     exact hk
    ·have hne : ((e : Int) = 0) = False := eq_false (by omega)
     have hne' : ((e : Int) == 0) = false := by simp; omega
     simp (disch := omega) [keep_cl, trunc, a4, hle, hfe', ltF, ltT, s4, hno hb hd0 hk15, hob, hlen, e60, hne, hne', -Int.natCast_add]
     exact hk
end Go.Ev
/- Arguments of the statements: conditions. -/
namespace Go.Ev
open Go Go.RowKit
set_option linter.unusedSimpArgs false
set_option linter.unusedVariables false
theorem cond_cells {cs : List V} (h : HasTy (.agg [.int .i64, .int .i64, .int .u64, .int .u64]) cs) : ∃ x : Cd, cs = x.cs ∧ x.ok := by
 unfold HasTy HasTys at h
 obtain ⟨a, b, rfl, h1, h⟩ := h
 unfold HasTys at h
 obtain ⟨c, d, rfl, h2, h⟩ := h
 unfold HasTys at h
 obtain ⟨f, g, rfl, h3, h⟩ := h
 unfold HasTys at h
 obtain ⟨k, l, rfl, h4, h⟩ := h
 unfold HasTys at h
 subst h
 obtain ⟨n1, rfl, w1⟩ := hasty_int h1
 obtain ⟨n2, rfl, w2⟩ := hasty_int h2
 obtain ⟨n3, rfl, w3⟩ := u64_cell h3
 obtain ⟨n4, rfl, w4⟩ := u64_cell h4
 exact ⟨⟨n1, n2, n3, n4⟩, rfl, w3, w4⟩
end Go.Ev
/- A maker in memory: contracts. -/
namespace Go.Ev
open Go Go.RowKit
variable {G : Tbl}
set_option maxRecDepth 10000
set_option maxHeartbeats 4000000
set_option linter.unusedSimpArgs false
set_option linter.unusedVariables false
def mkrC (c : List In4) (tk : Tk) : Blk := .cells [.vs (IL c) tk, .int .i64 0]
structure Mkr (H : Heap) (b : Nat) (c : List In4) (tk : Tk) : Prop where
 hb : H[b]? = some (some (mkrC c tk))
 htk : tk = .no ∨ tk = .full
 shut : HShut H
def mkSet (H : Heap) (b : Nat) (c : List In4) : Heap := H.set b (some (mkrC c .no))
@[simp] theorem mkSet_len (H : Heap) (b : Nat) (c : List In4) : (mkSet H b c).length = H.length := by simp [mkSet]
section
variable {H : Heap} {b : Nat} {c c' : List In4} {tk : Tk}
theorem Mkr.lb (h : Mkr H b c tk) : b < H.length := (List.getElem?_eq_some_iff.1 h.hb).1
theorem mkSet_shut (h : HShut H) (c' : List In4) : HShut (mkSet H b c') := by
 intro n hn
 simp only [mkSet_len] at hn
 have h1 := h n hn
 unfold mkSet
 rw [map_set', h1]
 simp [mkrC, Blk.cl, clL, V.cl, Tk.cl]
theorem Mkr.set (h : Mkr H b c tk) (c' : List In4) : Mkr (mkSet H b c') b c' .no := ⟨by rw [mkSet, List.getElem?_set_self h.lb], .inl rfl, mkSet_shut h.shut c'⟩
theorem HShut.appL (h : HShut H) {R : Heap} (hr : ∀ m, H.length + R.length ≤ m → R.map (Option.map (Blk.cl m)) = R) : HShut (H ++ R) := by
 intro m hm
 rw [List.length_append] at hm
 rw [List.map_append, h m (by omega), hr m hm]
theorem Mkr.app (h : Mkr H b c tk) {R : Heap} (hr : ∀ m, H.length + R.length ≤ m → R.map (Option.map (Blk.cl m)) = R) : Mkr (H ++ R) b c tk :=
 ⟨by rw [List.getElem?_append_left h.lb]; exact h.hb, h.htk, h.shut.appL hr⟩
theorem Mkr.hb' (h : Mkr H b c tk) : H[b]? = some (some (.cells [.vs (IL c) tk, .int .i64 0])) := h.hb
theorem Mkr.ne (h : Mkr H b c tk) {i : Nat} {v : V} (hi : H[i]? = some (some (.cells [v]))) : i ≠ b := by
 intro e
 rw [e, h.hb] at hi
 simp [mkrC] at hi
end
end Go.Ev
/- Conditions by the document: contracts. -/
namespace Go.Ev
open Go Go.RowKit
variable {G : Tbl}
set_option maxRecDepth 10000
set_option maxHeartbeats 4000000
set_option linter.unusedSimpArgs false
set_option linter.unusedVariables false
theorem CondRR_ok [HasR8 G] (c : Cd) : FP G 433 [.agg c.cs] (.bool c.right) := by
 refine FP_of HasR8.h_hurdleref08_Right (Nat.le_of_ble_eq_true rfl) ?_
 by_cases h1 : 0 ≤ c.arg
 ·by_cases h2 : c.arg ≤ 5
  ·by_cases h3 : 0 ≤ c.cmp
   ·by_cases h4 : c.cmp ≤ 5
    ·simp [Cd.cs, Cd.right, h1, h2, h3, h4]
    ·simp [Cd.cs, Cd.right, h1, h2, h3, h4]
   ·simp [Cd.cs, Cd.right, h1, h2, h3]
  ·simp [Cd.cs, Cd.right, h1, h2]
 ·simp [Cd.cs, Cd.right, h1]
end Go.Ev
/- Code of rules, of calls, of machines: plain. -/
namespace Go.Ev
open Go Go.RowKit
set_option maxRecDepth 10000
set_option maxHeartbeats 2000000
set_option linter.unusedSimpArgs false
set_option linter.unusedVariables false
def kOK (c : List In4) : Prop := ∀ y ∈ c, y.k < 4294967296
structure Ru where
 arch : Nat
 nr : Nat
 conds : List Cd
 act : Nat
 deriving DecidableEq
structure Po where
 rules : List Ru
 dflt : Nat
 deriving DecidableEq
abbrev CLb := List In4 × Nat
structure Came (c : List In4) (s : CLb) (n : Nat) : Prop where
 grown : Grown c s.1 n
 lab : 1 ≤ s.2 ∧ s.2 ≤ s.1.length
 sound : soundF c = true → c.length + n ≤ 4096 → soundF s.1 = true
 ks : kOK c → c.length + n ≤ 4096 → kOK s.1
theorem Came.mono {c : List In4} {s : CLb} {n m : Nat} (h : Came c s n) (hm : n ≤ m) : Came c s m := ⟨h.grown.mono hm, h.lab, fun a b => h.sound a (by omega), fun a b => h.ks a (by omega)⟩
theorem Came.self {c : List In4} {l : Nat} (h : 1 ≤ l ∧ l ≤ c.length) : Came c (c, l) 0 := ⟨Grown.refl c, h, fun a _ => a, fun a _ => a⟩
theorem Came.trans {c : List In4} {s t : CLb} {n m : Nat} (h : Came c s n) (k : Came s.1 t m) : Came c t (n + m) :=
 ⟨h.grown.trans k.grown, k.lab, fun a b => k.sound (h.sound a (by omega)) (by have := h.grown.len; omega), fun a b => k.ks (h.ks a (by omega)) (by have := h.grown.len; omega)⟩
def labs (c : List In4) (l : List (Nat × Nat)) : Prop := ∀ e ∈ l, 1 ≤ e.2 ∧ e.2 ≤ c.length
theorem labs.grown {a b : List In4} {n : Nat} {l : List (Nat × Nat)} (h : labs a l) (g : Grown a b n) : labs b l := fun e he => ⟨(h e he).1, by have := g.len; have := (h e he).2; omega⟩
end Go.Ev
/- A policy's code: plain. -/
namespace Go.Ev
open Go Go.RowKit
set_option maxRecDepth 10000
set_option maxHeartbeats 2000000
set_option linter.unusedSimpArgs false
set_option linter.unusedVariables false
def addNew (l : List Nat) (a : Nat) : List Nat := if a ∈ l then l else l ++ [a]
def firsts (l : List Nat) : List Nat := l.foldl addNew []
def nrsOf (rs : List Ru) (a : Nat) : List Nat := firsts ((rs.filter fun r => decide (r.arch = a)).map (·.nr))
def archsOf (rs : List Ru) : List Nat := firsts (rs.map (·.arch))
def rulesAt (rs : List Ru) (a n : Nat) : List Ru := rs.filter fun r => decide (r.arch = a ∧ r.nr = n)
section
variable {rs : List Ru} {o : Nat}
end
end Go.Ev
/- Actions, and policies that may be: contracts. -/
namespace Go.Ev
open Go Go.RowKit
variable {G : Tbl}
set_option maxRecDepth 10000
set_option maxHeartbeats 4000000
set_option linter.unusedSimpArgs false
set_option linter.unusedVariables false
def actB (v : Nat) : Bool := decide (v = 0 ∨ v = 196608 ∨ v = 2147221504 ∨ v = 2147418112 ∨ 327680 ≤ v ∧ v ≤ 331775)
def actsM : List (List UInt8 × Int) := [([107, 105, 108, 108], 0), ([116, 114, 97, 112], 196608), ([108, 111, 103], 2147221504), ([97, 108, 108, 111, 119], 2147418112)]
theorem actions_ok [HasName G] : Big G (.F 394 [] [] (.mp 0) [some (.map (actsM.map fun p => (.str p.1, .int .u32 p.2)))]) := by
 refine F_of HasName.h_names_actions (Nat.le_of_ble_eq_true rfl) ?_
 simp [actsM]
def nameS (v : Nat) : List UInt8 := ((actsM.find? fun p => p.2 == (v : Int)).map (·.1)).getD []
theorem nameA_ok [HasName G] (v : Nat) : Big G (.F 393 [.mp 0, .int .u32 v] [some (.map (actsM.map fun p => (.str p.1, .int .u32 p.2)))] (.str (nameS v)) [some (.map (actsM.map fun p => (.str p.1, .int .u32 p.2)))]) :=
 .nat HasName.h_names_name rfl ⟨rfl, actsM, rfl, by decide, rfl⟩
theorem subU {v : Nat} (hv : v < 4294967296) : subI .u32 (v : Int) 327680 = (((v + 4294639616) % 4294967296 : Nat) : Int) := by
 unfold subI
 rw [IntKind.wrap, show IntKind.u32.signed = false from rfl]
 simp [IntKind.bits]
 omega
theorem Action_ok [HasWText G] [HasName G] (v : Nat) (hv : v < 4294967296) : ∃ s e, FP G 395 [.int .u32 v] (.tup [.str s, .int .i64 e]) ∧ (e == 0) = actB v := by
 by_cases hs : nameS v = []
 ·have hn : v ≠ 0 ∧ v ≠ 196608 ∧ v ≠ 2147221504 ∧ v ≠ 2147418112 := by
   refine ⟨?_, ?_, ?_, ?_⟩ <;> (rintro rfl; revert hs; decide)
  obtain ⟨k, hk⟩ : ∃ k, k = (v + 4294639616) % 4294967296 := ⟨_, rfl⟩
  have hsub := subU hv
  rw [← hk] at hsub
  by_cases h : k ≤ 4095
  ·have hT := Text_ok (G := G) k (by omega)
   refine ⟨[101, 114, 114, 111, 114, 58] ++ textN k, 0, ?_, ?_⟩
   ·refine FP_of HasName.h_names_Action (Nat.le_of_ble_eq_true rfl) ?_
    have hle : ((k : Int) ≤ 4095) = True := eq_true (by omega)
    have hlen : (6 + (textN k).length ≤ 9223372036854775807) = True := eq_true (by have := textA_len k 16; unfold textN; omega)
    have hc : convI .u64 (k : Int) = (k : Int) := IntWalk.u64_in _ ⟨by omega, by omega⟩
    simp
    refine callK_of actions_ok (by simp) ?_
    simp
    refine callS_of (nameA_ok v) ?_
    simp [hs, hsub, hle, hc]
    refine callP_of hT ?_
    simp [hlen]
   ·have : actB v = true := by simp [actB]; omega
    rw [this]; rfl
  ·refine ⟨[], 1, ?_, ?_⟩
   ·refine FP_of HasName.h_names_Action (Nat.le_of_ble_eq_true rfl) ?_
    have hle : ((k : Int) ≤ 4095) = False := eq_false (by omega)
    simp
    refine callK_of actions_ok (by simp) ?_
    simp
    refine callS_of (nameA_ok v) ?_
    simp [hs, hsub, hle]
   ·have : actB v = false := by simp [actB]; omega
    rw [this]; rfl
 ·refine ⟨nameS v, 0, ?_, ?_⟩
  ·refine FP_of HasName.h_names_Action (Nat.le_of_ble_eq_true rfl) ?_
   have hb : (nameS v).isEmpty = false := by simpa using hs
   simp
   refine callK_of actions_ok (by simp) ?_
   simp
   refine callS_of (nameA_ok v) ?_
   simp [hs, hb]
  ·have : actB v = true := by
    have key : ∀ l : List (List UInt8 × Int), ((l.find? fun p => p.2 == (v : Int)).map (·.1)).getD [] ≠ [] → ∃ p ∈ l, p.2 = (v : Int) := by
     intro l h
     cases hf : l.find? (fun p => p.2 == (v : Int)) with
     | none => rw [hf] at h; simp at h
     | some p => exact ⟨p, List.mem_of_find?_eq_some hf, by simpa using List.find?_some hf⟩
    obtain ⟨p, hp, he⟩ := key _ hs
    simp only [actsM, List.mem_cons, List.not_mem_nil, or_false] at hp
    rcases hp with rfl | rfl | rfl | rfl <;> simp only at he <;> simp [actB] <;> omega
   rw [this]; rfl
def Ru.cs (r : Ru) : List V := [.int .u32 (r.arch : Int), .int .u32 (r.nr : Int), .vs (CL r.conds) .no, .int .u32 (r.act : Int)]
def RL (l : List Ru) : List (List V) := l.map Ru.cs
@[simp] theorem RL_length (l : List Ru) : (RL l).length = l.length := by simp [RL]
theorem RL_get {l : List Ru} {i : Nat} {x : Ru} (h : l[i]? = some x) : (RL l)[i]? = some x.cs := by simp [RL, h]
def Po.cs (p : Po) : List V := [.vs (RL p.rules) .no, .int .u32 (p.dflt : Int)]
def mayB (r : Ru) : Bool := r.conds.all Cd.right && actB r.act && decide (r.conds.length ≤ 4)
def rightP (p : Po) : Bool := p.rules.all mayB && actB p.dflt && decide (p.rules.length ≤ 64)
theorem may_ok [HasWText G] [HasName G] [HasCondR G] [HasPol G] (r : Ru) (hl : r.conds.length ≤ maxLen) (ha : r.act < 4294967296) : FP G 405 [.agg r.cs] (.bool (mayB r)) := by
 refine FP_of HasPol.h_policy_may (Nat.le_of_ble_eq_true rfl) ?_
 obtain ⟨s, e, hA, he⟩ := Action_ok (G := G) r.act ha
 simp [Ru.cs]
 refine W_up r.conds.length (fun i => [(1, .ptr 0 0), (8, .vs (CL r.conds) .no), (9, .int .i64 r.conds.length), (10, .int .i64 i)]) (fun _ => [some (.cells r.cs)]) (fun i => (r.conds.take i).all Cd.right = true) ?_ ?_
 ·simp [keep_cl, trunc, Ru.cs]
 intro i hi hp
 unfold maxLen at hl
 by_cases hlt : i < r.conds.length
 ·obtain ⟨x, hx⟩ : ∃ x, x = r.conds[i] := ⟨_, rfl⟩
  have hg : r.conds[i]? = some x := by rw [List.getElem?_eq_getElem hlt, hx]
  have hgc := CL_get hg
  have hget : (CL r.conds)[i]'(by simpa using hlt) = x.cs := by rw [List.getElem?_eq_getElem (by simpa using hlt)] at hgc; exact Option.some.inj hgc
  have hr := CondR_ok (G := G) x
  simp only [Cd.cs] at hr hgc hget
  have ht : (r.conds.take (i + 1)).all Cd.right = ((r.conds.take i).all Cd.right && x.right) := by rw [List.take_add_one, hg]; simp
  simp (disch := omega) [ltT, get_in, hgc, hget, Ru.cs, hlt]
  refine callP_of hr ?_
  cases hx2 : x.right with
  | false =>
   have : mayB r = false := by
    have : r.conds.all Cd.right = false := by
     rw [List.all_eq_false]; exact ⟨x, List.mem_of_getElem? hg, by simp [hx2]⟩
    simp [mayB, this]
   simp [this]
  | true =>
   simp (disch := omega) [keep_cl, trunc, add1', hlt, Ru.cs, -Int.natCast_add]
   have : (r.conds.take (i + 1)).all Cd.right = true := by rw [ht, hp, hx2]; rfl
   simpa using this
 ·have : i = r.conds.length := by omega
  subst this
  rw [List.take_length] at hp
  have l4 : ((r.conds.length : Int) ≤ 4) = (r.conds.length ≤ 4) := by rw [eq_iff_iff]; omega
  simp (disch := omega) [ltF, keep_cl, trunc, Ru.cs]
  refine callP_of hA ?_
  cases hb : actB r.act with
  | true =>
   rw [hb] at he
   simp only [beq_iff_eq] at he
   subst he
   simp [mayB, hp, hb, l4]
  | false =>
   rw [hb] at he
   simp [mayB, hp, hb, he]
theorem polRight_ok [HasWText G] [HasName G] [HasCondR G] [HasPol G] (p : Po) (hl : p.rules.length ≤ maxLen) (hr : ∀ r ∈ p.rules, r.conds.length ≤ maxLen ∧ r.act < 4294967296) (hd : p.dflt < 4294967296) : FP G 406 [.agg p.cs] (.bool (rightP p)) := by
 refine FP_of HasPol.h_policy_Right (Nat.le_of_ble_eq_true rfl) ?_
 obtain ⟨s, e, hA, he⟩ := Action_ok (G := G) p.dflt hd
 simp [Po.cs]
 refine W_up p.rules.length (fun i => [(1, .ptr 0 0), (8, .vs (RL p.rules) .no), (9, .int .i64 p.rules.length), (10, .int .i64 i)]) (fun _ => [some (.cells p.cs)]) (fun i => (p.rules.take i).all mayB = true) ?_ ?_
 ·simp [keep_cl, trunc, Po.cs]
 intro i hi hp
 unfold maxLen at hl
 by_cases hlt : i < p.rules.length
 ·obtain ⟨x, hx⟩ : ∃ x, x = p.rules[i] := ⟨_, rfl⟩
  have hg : p.rules[i]? = some x := by rw [List.getElem?_eq_getElem hlt, hx]
  have hgc := RL_get hg
  have hget : (RL p.rules)[i]'(by simpa using hlt) = x.cs := by rw [List.getElem?_eq_getElem (by simpa using hlt)] at hgc; exact Option.some.inj hgc
  have hxm := hr x (List.mem_of_getElem? hg)
  have hm := may_ok (G := G) x hxm.1 hxm.2
  simp only [Ru.cs] at hm hgc hget
  have ht : (p.rules.take (i + 1)).all mayB = ((p.rules.take i).all mayB && mayB x) := by rw [List.take_add_one, hg]; simp
  simp (disch := omega) [ltT, get_in, hgc, hget, Po.cs, hlt]
  refine callP_of hm ?_
  cases hx2 : mayB x with
  | false =>
   have : rightP p = false := by
    have : p.rules.all mayB = false := by
     rw [List.all_eq_false]; exact ⟨x, List.mem_of_getElem? hg, by simp [hx2]⟩
    simp [rightP, this]
   simp [this]
  | true =>
   simp (disch := omega) [keep_cl, trunc, add1', hlt, Po.cs, -Int.natCast_add]
   have : (p.rules.take (i + 1)).all mayB = true := by rw [ht, hp, hx2]; rfl
   simpa using this
 ·have : i = p.rules.length := by omega
  subst this
  rw [List.take_length] at hp
  have l4 : ((p.rules.length : Int) ≤ 64) = (p.rules.length ≤ 64) := by rw [eq_iff_iff]; omega
  simp (disch := omega) [ltF, keep_cl, trunc, Po.cs]
  refine callP_of hA ?_
  cases hb : actB p.dflt with
  | true =>
   rw [hb] at he
   simp only [beq_iff_eq] at he
   subst he
   simp [rightP, hp, hb, l4]
  | false =>
   rw [hb] at he
   simp [rightP, hp, hb, he]
end Go.Ev
/- Code of rules, of a search, by a maker: contracts. -/
namespace Go.Ev
open Go Go.RowKit
variable {G : Tbl}
set_option maxRecDepth 10000
set_option maxHeartbeats 4000000
set_option linter.unusedSimpArgs false
set_option linter.unusedVariables false
section
variable {H : Heap} {b : Nat} {c : List In4}
def EL (l : List (Nat × Nat)) : List (List V) := l.map fun e => [.int .u32 (e.1 : Int), .int .i64 (e.2 : Int)]
@[simp] theorem EL_length (l : List (Nat × Nat)) : (EL l).length = l.length := by simp [EL]
end
end Go.Ev
/- The maps of a policy's rules: plain. -/
namespace Go.Ev
open Go Go.RowKit
variable {G : Tbl}
set_option maxRecDepth 10000
set_option maxHeartbeats 4000000
set_option linter.unusedSimpArgs false
set_option linter.unusedVariables false
abbrev EN := Nat × List Nat × Nat
abbrev EO := (Nat × Nat) × List Ru × Nat
structure InvL (l : List Ru) (of : List EO) (nrs : List EN) (ms : List Nat) (Z : Heap) : Prop where
 ms_eq : ms = archsOf l
 nk : nrs.map (·.1) = archsOf l
 nv : ∀ e ∈ nrs, e.2.1 = nrsOf l e.1
 ok : (of.map (·.1)).Nodup
 om : ∀ k, k ∈ of.map (·.1) ↔ ∃ r ∈ l, (r.arch, r.nr) = k
 ov : ∀ e ∈ of, e.2.1 = rulesAt l e.1.1 e.1.2
 nz : ∀ e ∈ nrs, Z[e.2.2]? = some (some (.zone e.2.1.length))
 oz : ∀ e ∈ of, Z[e.2.2]? = some (some (.zone e.2.1.length))
 dz : (nrs.map (·.2.2) ++ of.map (·.2.2)).Nodup
 cz : ∀ n, Z.map (Option.map (Blk.cl n)) = Z
theorem app_old {Z r : Heap} {z : Nat} {x : Option Blk} (h : Z[z]? = some x) : (Z ++ r)[z]? = some x := by
 rw [List.getElem?_append_left (List.getElem?_eq_some_iff.1 h).1]; exact h
theorem app_cz {Z r : Heap} (h : ∀ n, Z.map (Option.map (Blk.cl n)) = Z) (hr : ∀ n, r.map (Option.map (Blk.cl n)) = r) : ∀ n, (Z ++ r).map (Option.map (Blk.cl n)) = Z ++ r := fun n => by rw [List.map_append, h, hr]
section
variable {l : List Ru} {of : List EO} {nrs : List EN} {ms : List Nat} {Z R : Heap} {r : Ru}
theorem InvL.more (h : InvL l of nrs ms Z) (hr : ∀ n, R.map (Option.map (Blk.cl n)) = R) : InvL l of nrs ms (Z ++ R) :=
 ⟨h.ms_eq, h.nk, h.nv, h.ok, h.om, h.ov, fun e he => app_old (h.nz e he), fun e he => app_old (h.oz e he), h.dz, app_cz h.cz hr⟩
end
end Go.Ev
/- A policy made a filter: its maps. -/
namespace Go.Ev
open Go Go.RowKit
variable {G : Tbl}
set_option maxRecDepth 10000
set_option maxHeartbeats 8000000
set_option linter.unusedSimpArgs false
set_option linter.unusedVariables false
def NxK {S : Type} (m : S → Nat) (E : S → List (Nat × V)) (B : S → Heap) (P : S → Prop) (l : List Nat) (k : Nat) (s : S) (e1 : Env) (H1 : Heap) : Prop :=
 ∃ s' kk, m s' < m s ∧ P s' ∧ k ≤ kk ∧ kk ≤ H1.length ∧ (keepE l e1).cl kk = mkE (E s') ∧ trunc kk H1 = B s'
def QSK {S : Type} (G : Tbl) (K : List Kt) (Q : Ex → Env → Heap → Prop) (l : List Nat) (k : Nat) (m : S → Nat) (E : S → List (Nat × V)) (B : S → Heap) (P : S → Prop) (s : S) (x : Ex) (e1 : Env) (H1 : Heap) : Prop :=
 match x with
 | .nx => NxK m E B P l k s e1 H1
 | x => Wr G x K e1 H1 Q
section
variable {K : List Kt} {Q : Ex → Env → Heap → Prop} {e : Env} {H : Heap} {l : List Nat} {k : Nat} {S : Type} {m : S → Nat} {E : S → List (Nat × V)} {B : S → Heap} {P : S → Prop} {s : S}
@[simp] theorem QSK_nx : QSK G K Q l k m E B P s .nx e H = NxK m E B P l k s e H := rfl
@[simp] theorem QSK_exit (i : Nat) : QSK G K Q l k m E B P s (.exit i) e H = Wr G (.exit i) K e H Q := rfl
@[simp] theorem QSK_ret : QSK G K Q l k m E B P s .ret e H = Wr G .ret K e H Q := rfl
end
section
variable {p : Po} {c : List In4} {of nrs : List (V × V)} {m : Nat} {Z : Heap}
end
section
variable {p : Po} {c : List In4} {of : List EO} {nrs : List EN} {m : Nat} {Z : Heap}
end
end Go.Ev
/- Policies by the document: contracts. -/
namespace Go.Ev
open Go Go.RowKit
variable {G : Tbl}
set_option maxRecDepth 10000
set_option maxHeartbeats 4000000
set_option linter.unusedSimpArgs false
set_option linter.unusedVariables false
theorem digits_ok [HasR1t G] : ∀ (m n : Nat), m ≤ 100 → n < 16 ^ (m + 1) → n < 18446744073709551616 → ∃ s, s.length ≤ m + 1 ∧ FP G 430 [.int .u64 n] (.str s)
 | m, n, hmm, hm, hn => by
  obtain ⟨d, hd⟩ : ∃ d, d = n % 16 := ⟨_, rfl⟩
  have hd16 : d < 16 := by omega
  have r1 : remI (n : Int) 16 = ((d : Nat) : Int) := by rw [hd]; exact rem64 (b := 16)
  have q1 : quoI .u64 (n : Int) 16 = ((n / 16 : Nat) : Int) := quoU64' (b := 16) hn
  have a1 : addI .u64 48 (d : Int) = ((48 + d : Nat) : Int) := IntWalk.u64_in _ ⟨by omega, by omega⟩
  have a2 : addI .u64 87 (d : Int) = ((87 + d : Nat) : Int) := IntWalk.u64_in _ ⟨by omega, by omega⟩
  have c1 := convU8 (a := 48 + d) (by omega)
  have c2 := convU8 (a := 87 + d) (by omega)
  by_cases h16 : n < 16
  ·have hl : ((n : Int) < 16) = True := eq_true (by omega)
   by_cases h9 : 9 < d
   ·have h9' : (9 < (d : Int)) = True := eq_true (by omega)
    refine ⟨[UInt8.ofNat (87 + d)], by simp, FP_of HasR1t.h_hurdleref01_digits (Nat.le_of_ble_eq_true rfl) ?_⟩
    simp [r1, q1, a1, a2, c1, c2, h9', hl, chunks, keep_cl, trunc, -Int.natCast_add]
   ·have h9' : (9 < (d : Int)) = False := eq_false (by omega)
    refine ⟨[UInt8.ofNat (48 + d)], by simp, FP_of HasR1t.h_hurdleref01_digits (Nat.le_of_ble_eq_true rfl) ?_⟩
    simp [r1, q1, a1, a2, c1, c2, h9', hl, chunks, keep_cl, trunc, -Int.natCast_add]
  ·cases m with
   | zero => simp at hm; omega
   | succ m =>
   have hl : ((n : Int) < 16) = False := eq_false (by omega)
   obtain ⟨s, hs, ih⟩ := digits_ok m (n / 16) (by omega) (by rw [Nat.pow_succ] at hm; omega) (by omega)
   by_cases h9 : 9 < d
   ·have h9' : (9 < (d : Int)) = True := eq_true (by omega)
    refine ⟨s ++ [UInt8.ofNat (87 + d)], by simp; omega, FP_of HasR1t.h_hurdleref01_digits (Nat.le_of_ble_eq_true rfl) ?_⟩
    simp [r1, q1, a1, a2, c1, c2, h9', hl, chunks, keep_cl, trunc, -Int.natCast_add]
    refine callP_of ih ?_
    simp [show (s.length ≤ 9223372036854775806) = True from eq_true (by omega)]
   ·have h9' : (9 < (d : Int)) = False := eq_false (by omega)
    refine ⟨s ++ [UInt8.ofNat (48 + d)], by simp; omega, FP_of HasR1t.h_hurdleref01_digits (Nat.le_of_ble_eq_true rfl) ?_⟩
    simp [r1, q1, a1, a2, c1, c2, h9', hl, chunks, keep_cl, trunc, -Int.natCast_add]
    refine callP_of ih ?_
    simp [show (s.length ≤ 9223372036854775806) = True from eq_true (by omega)]
theorem TextR_ok [HasR1t G] (n : Nat) (hn : n < 18446744073709551616) : ∃ s, s.length ≤ 18 ∧ FP G 431 [.int .u64 n] (.str (48 :: 120 :: s)) := by
 obtain ⟨s, hs, h⟩ := digits_ok (G := G) 15 n (by decide) (by simpa using hn) hn
 refine ⟨s, by omega, FP_of HasR1t.h_hurdleref01_Text (Nat.le_of_ble_eq_true rfl) ?_⟩
 simp
 refine callP_of h ?_
 simp [show (2 + s.length ≤ 9223372036854775807) = True from eq_true (by omega)]
theorem ActionR_ok [HasR1t G] [HasR9a G] (v : Nat) (hv : v < 4294967296) : ∃ s, FP G 432 [.int .u32 v] (.str s) ∧ s.isEmpty = !actB v := by
 by_cases h1 : 327680 ≤ v
 ·have h1' : (327680 ≤ (v : Int)) = True := eq_true (by omega)
  by_cases h2 : v ≤ 331775
  ·have h2' : ((v : Int) ≤ 331775) = True := eq_true (by omega)
   obtain ⟨s, hs, hT⟩ := TextR_ok (G := G) (v - 327680) (by omega)
   have e1 : subI .u32 (v : Int) 327680 = ((v - 327680 : Nat) : Int) := by
    rw [show ((v : Int) = ((v : Nat) : Int)) from rfl, subU hv]; omega
   have e2 : convI .u64 ((v - 327680 : Nat) : Int) = ((v - 327680 : Nat) : Int) := IntWalk.u64_in _ ⟨by omega, by omega⟩
   refine ⟨[101, 114, 114, 111, 114, 58] ++ (48 :: 120 :: s), FP_of HasR9a.h_hurdleref09_Action (Nat.le_of_ble_eq_true rfl) ?_, ?_⟩
   ·simp [h1', h2', e1, e2]
    refine callP_of hT ?_
    simp [show (6 + (s.length + 1 + 1) ≤ 9223372036854775807) = True from eq_true (by omega)]
    done
   ·have : actB v = true := by simp [actB]; omega
    rw [this]; rfl
  ·have h2' : ((v : Int) ≤ 331775) = False := eq_false (by omega)
   have b0 : ((v : Int) == 0) = false := by simp; omega
   have b1 : ((v : Int) == 196608) = false := by simp; omega
   by_cases h3 : v = 2147221504
   ·subst h3
    refine ⟨[108, 111, 103], FP_of HasR9a.h_hurdleref09_Action (Nat.le_of_ble_eq_true rfl) ?_, by decide⟩
    simp
   ·by_cases h4 : v = 2147418112
    ·subst h4
     refine ⟨[97, 108, 108, 111, 119], FP_of HasR9a.h_hurdleref09_Action (Nat.le_of_ble_eq_true rfl) ?_, by decide⟩
     simp
    ·have b2 : ((v : Int) == 2147221504) = false := by simp; omega
     have b3 : ((v : Int) == 2147418112) = false := by simp; omega
     refine ⟨[], FP_of HasR9a.h_hurdleref09_Action (Nat.le_of_ble_eq_true rfl) ?_, ?_⟩
     ·simp [h1', h2', b0, b1, b2, b3]
     ·have : actB v = false := by simp [actB]; omega
      rw [this]; rfl
 ·have h1' : (327680 ≤ (v : Int)) = False := eq_false (by omega)
  by_cases h3 : v = 0
  ·subst h3
   refine ⟨[107, 105, 108, 108], FP_of HasR9a.h_hurdleref09_Action (Nat.le_of_ble_eq_true rfl) ?_, by decide⟩
   simp
  ·by_cases h4 : v = 196608
   ·subst h4
    refine ⟨[116, 114, 97, 112], FP_of HasR9a.h_hurdleref09_Action (Nat.le_of_ble_eq_true rfl) ?_, by decide⟩
    simp
   ·have b0 : ((v : Int) == 0) = false := by simp; omega
    have b1 : ((v : Int) == 196608) = false := by simp; omega
    have b2 : ((v : Int) == 2147221504) = false := by simp; omega
    have b3 : ((v : Int) == 2147418112) = false := by simp; omega
    refine ⟨[], FP_of HasR9a.h_hurdleref09_Action (Nat.le_of_ble_eq_true rfl) ?_, ?_⟩
    ·simp [h1', b0, b1, b2, b3]
    ·have : actB v = false := by simp [actB]; omega
     rw [this]; rfl
theorem polRightR_ok [HasR1t G] [HasR9a G] [HasR8 G] [HasR10 G] (p : Po) (hl : p.rules.length ≤ maxLen) (hr : ∀ r ∈ p.rules, r.conds.length ≤ maxLen ∧ r.act < 4294967296) (hd : p.dflt < 4294967296) : FP G 436 [.agg p.cs] (.bool (rightP p)) := by
 refine FP_of HasR10.h_hurdleref10_Right (Nat.le_of_ble_eq_true rfl) ?_
 obtain ⟨s, hA, he⟩ := ActionR_ok (G := G) p.dflt hd
 unfold maxLen at hl
 by_cases h64 : p.rules.length ≤ 64
 ·have h64' : (64 < (p.rules.length : Int)) = False := eq_false (by omega)
  simp [Po.cs, h64']
  refine callP_of hA ?_
  cases hb : actB p.dflt with
  | false =>
   rw [hb] at he
   simp [rightP, hb, he]
  | true =>
   rw [hb] at he
   simp [he]
   refine W_up p.rules.length (fun i => [(1, .ptr 0 0), (3, .int .i64 i)]) (fun _ => [some (.cells p.cs)]) (fun i => (p.rules.take i).all mayB = true) ?_ ?_
   ·simp [keep_cl, trunc, Po.cs]
   intro i hi hp
   by_cases hlt : i < p.rules.length
   ·obtain ⟨x, hx⟩ : ∃ x, x = p.rules[i] := ⟨_, rfl⟩
    have hg : p.rules[i]? = some x := by rw [List.getElem?_eq_getElem hlt, hx]
    have hgc := RL_get hg
    have hget : (RL p.rules)[i]'(by simpa using hlt) = x.cs := by rw [List.getElem?_eq_getElem (by simpa using hlt)] at hgc; exact Option.some.inj hgc
    have hxm := hr x (List.mem_of_getElem? hg)
    obtain ⟨s2, hA2, he2⟩ := ActionR_ok (G := G) x.act hxm.2
    simp only [Ru.cs] at hgc hget
    have ht : (p.rules.take (i + 1)).all mayB = ((p.rules.take i).all mayB && mayB x) := by rw [List.take_add_one, hg]; simp
    have hno : mayB x = false → rightP p = false := fun h => by
     have : p.rules.all mayB = false := by
      rw [List.all_eq_false]; exact ⟨x, List.mem_of_getElem? hg, by simp [h]⟩
     simp [rightP, this]
    by_cases h4 : x.conds.length ≤ 4
    ·have h4' : (4 < (x.conds.length : Int)) = False := eq_false (by omega)
     simp (disch := omega) [ltT, get_in, hgc, hget, Po.cs, hlt, h4']
     refine callP_of hA2 ?_
     cases hb2 : actB x.act with
     | false =>
      rw [hb2] at he2
      simp [hno (by simp [mayB, hb2]), he2]
     | true =>
      rw [hb2] at he2
      simp [he2]
      refine W_up x.conds.length (fun k => [(1, .ptr 0 0), (3, .int .i64 i), (4, .ptr 1 0), (5, .int .i64 k)]) (fun _ => [some (.cells p.cs), some (.cells x.cs)]) (fun k => (x.conds.take k).all Cd.right = true) ?_ ?_
      ·simp [keep_cl, trunc, Po.cs, Ru.cs]
      intro k hk hq
      by_cases hlk : k < x.conds.length
      ·obtain ⟨y, hy⟩ : ∃ y, y = x.conds[k] := ⟨_, rfl⟩
       have hgy : x.conds[k]? = some y := by rw [List.getElem?_eq_getElem hlk, hy]
       have hgyc := CL_get hgy
       have hgety : (CL x.conds)[k]'(by simpa using hlk) = y.cs := by rw [List.getElem?_eq_getElem (by simpa using hlk)] at hgyc; exact Option.some.inj hgyc
       have hcr := CondRR_ok (G := G) y
       simp only [Cd.cs] at hcr hgyc hgety
       have htk : (x.conds.take (k + 1)).all Cd.right = ((x.conds.take k).all Cd.right && y.right) := by rw [List.take_add_one, hgy]; simp
       simp (disch := omega) [ltT, get_in, hgyc, hgety, Po.cs, Ru.cs, hlk]
       refine callP_of hcr ?_
       cases hyr : y.right with
       | false =>
        have : x.conds.all Cd.right = false := by
         rw [List.all_eq_false]; exact ⟨y, List.mem_of_getElem? hgy, by simp [hyr]⟩
        simp [hno (by simp [mayB, this])]
       | true =>
        simp (disch := omega) [keep_cl, trunc, add1', hlk, Po.cs, Ru.cs, -Int.natCast_add]
        have : (x.conds.take (k + 1)).all Cd.right = true := by rw [htk, hq, hyr]; rfl
        simpa using this
      ·have : k = x.conds.length := by omega
       subst this
       rw [List.take_length] at hq
       have hm : mayB x = true := by simp [mayB, hq, hb2, h4]
       simp (disch := omega) [ltF, keep_cl, trunc, add1', hlt, Po.cs, Ru.cs, -Int.natCast_add]
       have : (p.rules.take (i + 1)).all mayB = true := by rw [ht, hp, hm]; rfl
       simpa using this
    ·have h4' : (4 < (x.conds.length : Int)) = True := eq_true (by omega)
     simp (disch := omega) [ltT, get_in, hgc, hget, Po.cs, hlt, h4']
     simp [hno (by simp [mayB, h4])]
   ·have : i = p.rules.length := by omega
    subst this
    rw [List.take_length] at hp
    simp (disch := omega) [ltF, keep_cl, trunc, Po.cs, rightP, hp, hb, h64]
 ·have h64' : (64 < (p.rules.length : Int)) = True := eq_true (by omega)
  simp [Po.cs, h64', rightP, h64]
end Go.Ev
/- A policy made a filter: contract. -/
namespace Go.Ev
open Go Go.RowKit
variable {G : Tbl}
set_option maxRecDepth 10000
set_option maxHeartbeats 8000000
set_option linter.unusedSimpArgs false
set_option linter.unusedVariables false
def Ru.wf (r : Ru) : Prop := r.conds.length ≤ maxLen ∧ (∀ x ∈ r.conds, x.ok) ∧ r.arch < 4294967296 ∧ r.nr < 4294967296 ∧ r.act < 4294967296
def Po.wf (p : Po) : Prop := p.rules.length ≤ maxLen ∧ (∀ r ∈ p.rules, r.wf) ∧ p.dflt < 4294967296
structure LwSt where
 i : Nat
 of : List EO
 nrs : List EN
 ms : List Nat
 Z : Heap
end Go.Ev
/- Arguments of the statements: policies. -/
namespace Go.Ev
open Go Go.RowKit
set_option linter.unusedSimpArgs false
set_option linter.unusedVariables false
theorem cond_list : ∀ {es : List (List V)}, (∀ x ∈ es, HasTy (.agg [.int .i64, .int .i64, .int .u64, .int .u64]) x) → ∃ f : List Cd, es = CL f ∧ ∀ x ∈ f, x.ok
 | [], _ => ⟨[], rfl, by simp⟩
 | e :: es, h => by
  obtain ⟨x, rfl, hx⟩ := cond_cells (h e (by simp))
  obtain ⟨f, rfl, hf⟩ := cond_list (es := es) fun y hy => h y (by simp [hy])
  refine ⟨x :: f, by simp [CL], fun y hy => ?_⟩
  simp only [List.mem_cons] at hy
  rcases hy with rfl | hy
  ·exact hx
  ·exact hf y hy
theorem rule_cellsP {cs : List V} (h : HasTy (.agg [.int .u32, .int .u32, .sl (.agg [.int .i64, .int .i64, .int .u64, .int .u64]), .int .u32]) cs) : ∃ r : Ru, cs = r.cs ∧ r.wf := by
 unfold HasTy HasTys at h
 obtain ⟨a, b, rfl, h1, h⟩ := h
 unfold HasTys at h
 obtain ⟨c, d, rfl, h2, h⟩ := h
 unfold HasTys at h
 obtain ⟨f, g, rfl, h3, h⟩ := h
 unfold HasTys at h
 obtain ⟨k, l, rfl, h4, h⟩ := h
 unfold HasTys at h
 subst h
 obtain ⟨n1, rfl, w1⟩ := u32_cell h1
 obtain ⟨n2, rfl, w2⟩ := u32_cell h2
 obtain ⟨n4, rfl, w4⟩ := u32_cell h4
 rw [HasTy] at h3
 obtain ⟨es, rfl, hl, he⟩ := h3
 obtain ⟨cd, rfl, hc⟩ := cond_list he
 exact ⟨⟨n1, n2, cd, n4⟩, rfl, by simpa using hl, hc, w1, w2, w4⟩
theorem rule_listP : ∀ {es : List (List V)}, (∀ x ∈ es, HasTy (.agg [.int .u32, .int .u32, .sl (.agg [.int .i64, .int .i64, .int .u64, .int .u64]), .int .u32]) x) → ∃ f : List Ru, es = RL f ∧ ∀ x ∈ f, x.wf
 | [], _ => ⟨[], rfl, by simp⟩
 | e :: es, h => by
  obtain ⟨x, rfl, hx⟩ := rule_cellsP (h e (by simp))
  obtain ⟨f, rfl, hf⟩ := rule_listP (es := es) fun y hy => h y (by simp [hy])
  refine ⟨x :: f, by simp [RL], fun y hy => ?_⟩
  simp only [List.mem_cons] at hy
  rcases hy with rfl | hy
  ·exact hx
  ·exact hf y hy
theorem pol_arg {v : V} (h : ArgIs (.agg [.sl (.agg [.int .u32, .int .u32, .sl (.agg [.int .i64, .int .i64, .int .u64, .int .u64]), .int .u32]), .int .u32]) v) : ∃ p : Po, v = .agg p.cs ∧ p.wf := by
 unfold ArgIs at h
 obtain ⟨cs, rfl, h⟩ := h
 unfold HasTy HasTys at h
 obtain ⟨a, b, rfl, h1, h⟩ := h
 unfold HasTys at h
 obtain ⟨c, d, rfl, h2, h⟩ := h
 unfold HasTys at h
 subst h
 rw [HasTy] at h1
 obtain ⟨es, rfl, hl, he⟩ := h1
 obtain ⟨rs, rfl, hr⟩ := rule_listP he
 obtain ⟨n, rfl, hn⟩ := u32_cell h2
 exact ⟨⟨rs, n⟩, rfl, by simpa using hl, hr, hn⟩
end Go.Ev
/- Numbers, names, lines and texts, read back: plain. -/
namespace Go.Ev
open Go Go.RowKit
set_option maxRecDepth 10000
set_option linter.unusedSimpArgs false
set_option linter.unusedVariables false
def valD (l : List Nat) : Nat := l.foldl (fun a d => 16 * a + d) 0
theorem valD_snoc (l : List Nat) (d : Nat) : valD (l ++ [d]) = 16 * valD l + d := by simp [valD]
theorem valD_lt : ∀ n (l : List Nat), l.length = n → (∀ d ∈ l, d < 16) → valD l < 16 ^ n := by
 intro n
 induction n with
 | zero => intro l hl _; have := List.length_eq_zero_iff.1 hl; subst this; simp [valD]
 | succ n ih =>
  intro l hl h
  rcases List.eq_nil_or_concat l with rfl | ⟨m, d, rfl⟩
  ·simp at hl
  ·rw [List.concat_eq_append] at hl h ⊢
   have h1 := ih m (by simpa using hl) (fun x hx => h x (by simp [hx]))
   have h2 := h d (by simp)
   rw [valD_snoc, Nat.pow_succ]
   omega
theorem pow_split {k : Nat} (h : k < 16) : 2 ^ (64 - 4 * k) = 2 ^ (60 - 4 * k) * 16 := by
 rw [show 64 - 4 * k = (60 - 4 * k) + 4 by omega, Nat.pow_add]
theorem textA_form (n : Nat) (hn : n < 18446744073709551616) : ∀ k, k ≤ 16 → ∃ ds : List Nat, textA n k = ([48, 120] ++ ds.map dig, decide (ds ≠ [])) ∧ (∀ d ∈ ds, d < 16) ∧ valD ds = n / 2 ^ (64 - 4 * k) ∧ ds.length ≤ k ∧ (ds.head? = some 0 → k = 16 ∧ ds.length = 1) ∧ (k = 16 → ds ≠ []) := by
 intro k
 induction k with
 | zero =>
  intro _
  refine ⟨[], by simp [textA], by simp, ?_, by simp, by simp, by simp⟩
  rw [show 64 - 4 * 0 = 64 by omega, Nat.div_eq_of_lt (show n < 2 ^ 64 from hn)]
  rfl
 | succ k ih =>
  intro hk
  obtain ⟨ds, h1, h2, h3, h4, h5, _⟩ := ih (by omega)
  obtain ⟨d, hd⟩ : ∃ d, d = n / 2 ^ (60 - 4 * k) % 16 := ⟨_, rfl⟩
  have hp := pow_split (k := k) (by omega)
  have e1 : n / 2 ^ (64 - 4 * k) = n / 2 ^ (60 - 4 * k) / 16 := by rw [hp, Nat.div_div_eq_div_mul]
  have e2 : 64 - 4 * (k + 1) = 60 - 4 * k := by omega
  rw [e2]
  rw [e1] at h3
  have d16 : d < 16 := by omega
  unfold textA
  rw [← hd, h1]
  generalize n / 2 ^ (60 - 4 * k) = q at *
  by_cases hc : (decide (ds ≠ []) || decide (0 < d) || decide (k = 15)) = true
  ·refine ⟨ds ++ [d], ?_, ?_, ?_, ?_, ?_, by simp⟩
   ·rw [if_pos hc]; simp
   ·intro x hx
    rcases List.mem_append.1 hx with h | h
    ·exact h2 x h
    ·simp at h; omega
   ·rw [valD_snoc, h3]; omega
   ·simp; omega
   ·intro h0
    cases ds with
    | nil =>
     simp at h0 hc
     subst h0
     simp at hc
     simp; omega
    | cons a l =>
     simp at h0
     have := h5 (by simp [h0])
     omega
  ·rw [if_neg hc]
   simp at hc
   obtain ⟨⟨rfl, hd0⟩, hk15⟩ := hc
   refine ⟨[], by simp, by simp, ?_, by simp, by simp, by omega⟩
   have : valD [] = 0 := rfl
   rw [this] at h3 ⊢
   omega
theorem textN_form (n : Nat) (hn : n < 18446744073709551616) : ∃ ds : List Nat, textN n = [48, 120] ++ ds.map dig ∧ (∀ d ∈ ds, d < 16) ∧ valD ds = n ∧ 1 ≤ ds.length ∧ ds.length ≤ 16 ∧ (ds.head? = some 0 → ds.length = 1) := by
 obtain ⟨ds, h1, h2, h3, h4, h5, h6⟩ := textA_form n hn 16 (by omega)
 refine ⟨ds, by rw [textN, h1], h2, by simpa using h3, ?_, h4, fun h => (h5 h).2⟩
 have := h6 rfl
 cases ds with
 | nil => exact absurd rfl this
 | cons _ _ => simp
def wordy (w : List UInt8) : Prop := ∀ b ∈ w, b ≠ 32 ∧ b ≠ 10 ∧ b.toNat < 128
theorem dig_wordy : ∀ d, d < 16 → dig d ≠ 32 ∧ dig d ≠ 10 ∧ (dig d).toNat < 128 := by decide
theorem textN_wordy (n : Nat) (hn : n < 18446744073709551616) : wordy (textN n) := by
 obtain ⟨ds, h1, h2, _⟩ := textN_form n hn
 intro b hb
 rw [h1] at hb
 simp only [List.cons_append, List.nil_append, List.mem_cons, List.mem_map] at hb
 rcases hb with rfl | rfl | ⟨d, hd, rfl⟩
 ·decide
 ·decide
 ·exact dig_wordy d (h2 d hd)
theorem textN_len (n : Nat) : (textN n).length ≤ 18 := by have := textA_len n 16; unfold textN; omega
theorem textN_two (n : Nat) (hn : n < 18446744073709551616) : ∃ r, textN n = 48 :: 120 :: r := by
 obtain ⟨ds, h1, _⟩ := textN_form n hn
 exact ⟨_, h1⟩
/-! Names of numbers. -/
def nameM (M : List (List UInt8 × Int)) (v : Nat) : List UInt8 := ((M.find? fun p => p.2 == (v : Int)).map (·.1)).getD []
def textM (M : List (List UInt8 × Int)) (v : Nat) : List UInt8 := if nameM M v = [] then textN v else nameM M v
def machM : List (List UInt8 × Int) := [([120, 54, 52], 3221225534), ([120, 56, 54], 1073741827), ([97, 54, 52], 3221225655), ([97, 114, 109], 1073741864)]
def nRead : List UInt8 := [114, 101, 97, 100]
def nWrite : List UInt8 := [119, 114, 105, 116, 101]
def nOpen : List UInt8 := [111, 112, 101, 110]
def nClose : List UInt8 := [99, 108, 111, 115, 101]
def nExit : List UInt8 := [101, 120, 105, 116]
def nFork : List UInt8 := [102, 111, 114, 107]
def nKill : List UInt8 := [107, 105, 108, 108]
def nMmap : List UInt8 := [109, 109, 97, 112]
def callM (a : Nat) : Option (List (List UInt8 × Int)) :=
 if a = 3221225534 then some [(nRead, 0), (nWrite, 1), (nOpen, 2), (nClose, 3), (nExit, 60), (nFork, 57), (nKill, 62), (nMmap, 9)]
 else if a = 1073741827 then some [(nRead, 3), (nWrite, 4), (nOpen, 5), (nClose, 6), (nExit, 1), (nFork, 2), (nKill, 37), (nMmap, 90)]
 else if a = 3221225655 then some [(nRead, 63), (nWrite, 64), (nClose, 57), (nExit, 93), (nKill, 129), (nMmap, 222)]
 else if a = 1073741864 then some [(nRead, 3), (nWrite, 4), (nOpen, 5), (nClose, 6), (nExit, 1), (nFork, 2), (nKill, 37)]
 else none
def callN (a : Nat) : List (List UInt8 × Int) := (callM a).getD []
structure NameM (M : List (List UInt8 × Int)) : Prop where
 vals : (M.map (·.2)).Nodup
 keys : (M.map (·.1)).Nodup
 good : ∀ p ∈ M, wordy p.1 ∧ p.1 ≠ [] ∧ p.1.head? ≠ some 48 ∧ p.1.length ≤ 5 ∧ 0 ≤ p.2 ∧ p.2 < 4294967296
instance (w : List UInt8) : Decidable (wordy w) := inferInstanceAs (Decidable (∀ b ∈ w, b ≠ 32 ∧ b ≠ 10 ∧ b.toNat < 128))
theorem machM_good : NameM machM := ⟨by decide, by decide, by decide⟩
theorem actsM_good : NameM actsM := ⟨by decide, by decide, by decide⟩
theorem callN_good (a : Nat) : NameM (callN a) := by
 unfold callN callM
 repeat' split
 all_goals first | exact ⟨by decide, by decide, by decide⟩
theorem nameM_mem {M : List (List UInt8 × Int)} {v : Nat} (h : nameM M v ≠ []) : (nameM M v, (v : Int)) ∈ M := by
 unfold nameM at h ⊢
 cases hf : M.find? (fun p => p.2 == (v : Int)) with
 | none => rw [hf] at h; simp at h
 | some p =>
  have h1 := List.mem_of_find?_eq_some hf
  have h2 : p.2 = (v : Int) := by simpa using List.find?_some hf
  simp [← h2, h1]
theorem find_key {M : List (List UInt8 × Int)} {s : List UInt8} {v : Int} (hk : (M.map (·.1)).Nodup) (h : (s, v) ∈ M) : M.find? (fun p => p.1 == s) = some (s, v) := by
 induction M with
 | nil => simp at h
 | cons p M ih =>
  simp only [List.map_cons, List.nodup_cons] at hk
  rcases List.mem_cons.1 h with rfl | h
  ·simp
  ·have hne : p.1 ≠ s := by
    rintro rfl
    exact hk.1 (List.mem_map.2 ⟨_, h, rfl⟩)
   rw [List.find?_cons_of_neg (by simpa using hne)]
   exact ih hk.2 h
theorem find_text {M : List (List UInt8 × Int)} (hM : NameM M) {v : Nat} (hv : v < 18446744073709551616) : M.find? (fun p => p.1 == textN v) = none := by
 rw [List.find?_eq_none]
 intro p hp h
 have h1 := (hM.good p hp).2.2.1
 obtain ⟨r, hr⟩ := textN_two v hv
 simp only [beq_iff_eq] at h
 rw [h, hr] at h1
 exact h1 rfl
theorem textM_wordy {M : List (List UInt8 × Int)} (hM : NameM M) {v : Nat} (hv : v < 18446744073709551616) : wordy (textM M v) := by
 unfold textM
 split
 ·exact textN_wordy v hv
 ·rename_i h; exact (hM.good _ (nameM_mem h)).1
theorem textM_len {M : List (List UInt8 × Int)} (hM : NameM M) {v : Nat} : (textM M v).length ≤ 18 := by
 unfold textM
 split
 ·exact textN_len v
 ·rename_i h; have := (hM.good _ (nameM_mem h)).2.2.2.1; simp only at this; omega
def errW : List UInt8 := [101, 114, 114, 111, 114, 58]
def actT (v : Nat) : List UInt8 := if nameS v = [] then errW ++ textN (v - 327680) else nameS v
theorem actT_wordy {v : Nat} (hv : v < 4294967296) : wordy (actT v) := by
 unfold actT
 split
 ·intro b hb
  rcases List.mem_append.1 hb with h | h
  ·have : wordy errW := by decide
   exact this b h
  ·exact textN_wordy (v - 327680) (by omega) b h
 ·rename_i h; exact (actsM_good.good _ (nameM_mem h)).1
theorem errT_len (k : Nat) : (errW ++ textN k).length ≤ 24 := by
 have := textN_len k
 simp [errW]; omega
theorem nameM_len {M : List (List UInt8 × Int)} (hM : NameM M) (v : Nat) : (nameM M v).length ≤ 5 := by
 by_cases h : nameM M v = []
 ·rw [h]; exact Nat.zero_le _
 ·exact (hM.good _ (nameM_mem h)).2.2.2.1
theorem actT_len {v : Nat} : (actT v).length ≤ 24 := by
 unfold actT
 split
 ·exact errT_len _
 ·exact Nat.le_trans (nameM_len actsM_good v) (by decide)
/-! Words joined by spaces. -/
def joinW : List (List UInt8) → List UInt8
 | [] => []
 | [w] => w
 | w :: v :: r => w ++ 32 :: joinW (v :: r)
theorem joinW_cons (w : List UInt8) {r : List (List UInt8)} (h : r ≠ []) : joinW (w :: r) = w ++ 32 :: joinW r := by
 cases r with
 | nil => exact absurd rfl h
 | cons v r => rfl
theorem joinW_append : ∀ {a b : List (List UInt8)}, a ≠ [] → b ≠ [] → joinW (a ++ b) = joinW a ++ 32 :: joinW b
 | [], _, h, _ => absurd rfl h
 | [w], b, _, h => by rw [List.singleton_append, joinW_cons w h]; rfl
 | w :: v :: r, b, _, h => by
  rw [List.cons_append, joinW_cons w (by simp), joinW_append (by simp) h]
  simp [joinW]
def cmpW (c : Int) : List UInt8 := if c = 0 then [101, 113] else if c = 1 then [110, 101] else if c = 2 then [108, 116] else if c = 3 then [108, 101] else if c = 4 then [103, 116] else [103, 101]
def condW4 (c : Cd) : List (List UInt8) := [[97, UInt8.ofNat (48 + c.arg.toNat)], textN c.mask, cmpW c.cmp, textN c.val]
def jointW (k : Nat) : List UInt8 := if k = 0 then [105, 102] else [97, 110, 100]
def condsW : Nat → List Cd → List (List UInt8)
 | _, [] => []
 | k, c :: l => jointW k :: condW4 c ++ condsW (k + 1) l
def ruleW (r : Ru) : List (List UInt8) := [[111, 110], textM machM r.arch, textM (callN r.arch) r.nr, actT r.act] ++ condsW 0 r.conds
def dfltW (v : Nat) : List (List UInt8) := [[100, 101, 102, 97, 117, 108, 116], actT v]
def polL (p : Po) : List (List UInt8) := p.rules.map (fun r => joinW (ruleW r)) ++ [joinW (dfltW p.dflt)]
def linesT (l : List (List UInt8)) : List UInt8 := l.flatMap (· ++ [10])
def polT (p : Po) : List UInt8 := linesT (polL p)
theorem cmpW_wordy (c : Int) : wordy (cmpW c) := by
 unfold cmpW
 repeat' split
 all_goals decide
theorem arg_wordy {c : Cd} (h : c.right = true) : wordy [97, UInt8.ofNat (48 + c.arg.toNat)] := by
 simp only [Cd.right, decide_eq_true_eq] at h
 have : c.arg = 0 ∨ c.arg = 1 ∨ c.arg = 2 ∨ c.arg = 3 ∨ c.arg = 4 ∨ c.arg = 5 := by omega
 rcases this with h | h | h | h | h | h <;> rw [h] <;> decide
theorem cond_wordy {c : Cd} (h : c.right = true) (ho : c.ok) : ∀ w ∈ condW4 c, wordy w := by
 intro w hw
 simp only [condW4, List.mem_cons, List.not_mem_nil, or_false] at hw
 rcases hw with rfl | rfl | rfl | rfl
 ·exact arg_wordy h
 ·exact textN_wordy _ ho.1
 ·exact cmpW_wordy _
 ·exact textN_wordy _ ho.2
theorem joint_wordy (k : Nat) : wordy (jointW k) := by unfold jointW; split <;> decide
theorem conds_wordy : ∀ {l : List Cd} {k : Nat}, (∀ c ∈ l, c.right = true ∧ c.ok) → ∀ w ∈ condsW k l, wordy w
 | [], k, _, w, hw => by simp [condsW] at hw
 | c :: l, k, h, w, hw => by
  simp only [condsW, List.cons_append, List.mem_cons, List.mem_append] at hw
  rcases hw with rfl | hw | hw
  ·exact joint_wordy k
  ·exact cond_wordy (h c (by simp)).1 (h c (by simp)).2 w hw
  ·exact conds_wordy (fun c hc => h c (by simp [hc])) w hw
theorem rule_wordy {r : Ru} (hc : ∀ c ∈ r.conds, c.right = true ∧ c.ok) (ha : r.arch < 4294967296) (hn : r.nr < 4294967296) (hv : r.act < 4294967296) : ∀ w ∈ ruleW r, wordy w := by
 intro w hw
 simp only [ruleW, List.cons_append, List.nil_append, List.mem_cons] at hw
 rcases hw with rfl | rfl | rfl | rfl | hw
 ·decide
 ·exact textM_wordy machM_good (by omega)
 ·exact textM_wordy (callN_good _) (by omega)
 ·exact actT_wordy hv
 ·exact conds_wordy hc w hw
def liney (s : List UInt8) : Prop := ∀ b ∈ s, b ≠ 10 ∧ b.toNat < 128
theorem joinW_liney : ∀ {l : List (List UInt8)}, (∀ w ∈ l, wordy w) → liney (joinW l)
 | [], _ => by intro b hb; simp [joinW] at hb
 | [w], h => fun b hb => ⟨(h w (by simp) b hb).2.1, (h w (by simp) b hb).2.2⟩
 | w :: v :: r, h => by
  intro b hb
  rw [joinW_cons w (by simp), List.mem_append, List.mem_cons] at hb
  rcases hb with hb | rfl | hb
  ·exact ⟨(h w (by simp) b hb).2.1, (h w (by simp) b hb).2.2⟩
  ·decide
  ·exact joinW_liney (fun w hw => h w (by simp [hw])) b hb
end Go.Ev
/- Numbers read from digits: contract. -/
namespace Go.Ev
open Go Go.RowKit
variable {G : Tbl}
set_option maxRecDepth 10000
set_option maxHeartbeats 4000000
set_option linter.unusedSimpArgs false
set_option linter.unusedVariables false
theorem utf8_lt {t : List UInt8} {i : Nat} {b : UInt8} (h : t[i]? = some b) (hb : b.toNat < 128) : Utf8.decode ⟨t.toArray⟩ i = (b.toNat, 1) := by
 obtain ⟨hi, he⟩ := List.getElem?_eq_some_iff.1 h
 have hg : (ByteArray.get! ⟨t.toArray⟩ (i + 0)) = b := by
  simp [ByteArray.get!, hi, he]
 unfold Utf8.decode
 simp only [hg, hb, if_true]
theorem dig_zero {d : Nat} (h : d < 16) : ((dig d).toNat = 48) = (d = 0) := by
 have : ∀ d < 16, ((dig d).toNat = 48) = (d = 0) := by decide
 exact this d h
theorem dig_lo {d : Nat} (h : d < 10) : (dig d).toNat = 48 + d := by
 have : ∀ d < 10, (dig d).toNat = 48 + d := by decide
 exact this d h
theorem dig_hi {d : Nat} (h : d < 16) (h2 : 10 ≤ d) : (dig d).toNat = 87 + d := by
 have : ∀ d < 16, 10 ≤ d → (dig d).toNat = 87 + d := by decide
 exact this d h h2
theorem shl4u {a : Nat} (h : a * 16 < 18446744073709551616) : shlI .u64 (a : Int) 4 = ((a * 16 : Nat) : Int) := by
 unfold shlI
 rw [show min (4 : Int).toNat IntKind.u64.bits = 4 from rfl, show ((a : Int) * 2 ^ 4) = ((a * 16 : Nat) : Int) by rw [Int.natCast_mul]; rfl]
 exact IntWalk.u64_in _ ⟨by omega, by omega⟩
theorem or4u {a d : Nat} (h : a * 16 < 18446744073709551616) (hd : d < 16) : orI .u64 ((a * 16 : Nat) : Int) (d : Int) = ((16 * a + d : Nat) : Int) := by
 unfold orI
 rw [ofInt_nat, ofInt_nat, BitVec.toNat_or, BitVec.toNat_ofNat, BitVec.toNat_ofNat]
 simp only [IntKind.bits]
 have h2 : d < 2 ^ 4 := hd
 rw [Nat.mod_eq_of_lt (show a * 16 < 2 ^ 64 from h), Nat.mod_eq_of_lt (show d < 2 ^ 64 by omega), show a * 16 = 2 ^ 4 * a by omega, ← Nat.two_pow_add_eq_or_of_lt h2]
 exact IntWalk.u64_in _ ⟨by omega, by omega⟩
theorem ParseT_ok [HasParse G] (ds : List Nat) (hd : ∀ d ∈ ds, d < 16) (h1 : 1 ≤ ds.length) (h16 : ds.length ≤ 16) (h0 : ds.head? = some 0 → ds.length = 1) : FP G 144 [.str ([48, 120] ++ ds.map dig)] (.tup [.int .u64 (valD ds : Nat), .int .i64 0]) := by
 refine FP_of HasParse.h_word_Parse (Nat.le_of_ble_eq_true rfl) ?_
 obtain ⟨N, hN⟩ : ∃ N, N = ds.length := ⟨_, rfl⟩
 obtain ⟨T, hT⟩ : ∃ T : List UInt8, T = [48, 120] ++ ds.map dig := ⟨_, rfl⟩
 have hTl : T.length = N + 2 := by rw [hT]; simp; omega
 have ht2 : T.take 2 = [48, 120] := by rw [hT]; rfl
 have hd2 : T.drop 2 = ds.map dig := by rw [hT]; rfl
 have hdl : ∀ x, ds.head? = some x → T[2]? = some (dig x) := by
  intro x hx
  cases ds with
  | nil => simp at hx
  | cons a l => simp at hx; subst hx; rw [hT]; rfl
 obtain ⟨x, hx⟩ : ∃ x, ds.head? = some x := by
  cases ds with
  | nil => simp at h1
  | cons a l => exact ⟨a, rfl⟩
 have hx16 : x < 16 := hd x (List.mem_of_head? hx)
 have hz := dig_zero hx16
 obtain ⟨y, hy⟩ : ∃ y, y = dig x := ⟨_, rfl⟩
 have hT2 : T[2]? = some y := by rw [hy]; exact hdl x hx
 have hT2' := (List.getElem?_eq_some_iff.1 hT2).2
 rw [← hy] at hz
 rw [← hT]
 have c1 : (((N : Int) + 2) < 3) = False := eq_false (by omega)
 have c2 : (18 < (N : Int) + 2) = False := eq_false (by omega)
 have c3 : ((2 : Int) ≤ (N : Int) + 2) = True := eq_true (by omega)
 have c4 : (2 < N + 2) = True := eq_true (by omega)
 have c5 : (3 < (N : Int) + 2) = (N ≠ 1) := by rw [eq_iff_iff]; omega
 have e0 : ((y.toNat : Int) == 48) = decide (x = 0) := by
  have : ((y.toNat : Int) = 48) = (x = 0) := by rw [← hz, eq_iff_iff]; omega
  rw [Bool.eq_iff_iff]; simp [this]
 have ex0 : x = 0 → N = 1 := fun h => by rw [hN]; exact h0 (by rw [hx, h])
 have hmap : ∀ i, i < N → ∃ d, ds[i]? = some d ∧ d < 16 ∧ (ds.map dig)[i]? = some (dig d) := by
  intro i hi
  have hlt : i < ds.length := by omega
  exact ⟨ds[i], List.getElem?_eq_getElem hlt, hd _ (List.getElem_mem hlt), by simp [List.getElem?_eq_getElem hlt]⟩
 obtain ⟨V0, hV0⟩ : ∃ V0 : Nat → Nat, ∀ i, V0 i = valD (ds.take i) := ⟨_, fun _ => rfl⟩
 have hVN : V0 N = valD ds := by rw [hV0, hN, List.take_length]
 have hV00 : V0 0 = 0 := by rw [hV0]; rfl
 obtain ⟨D, hD⟩ : ∃ D, D = ds.map dig := ⟨_, rfl⟩
 have hDl : D.length = N := by rw [hD, hN]; simp
 rw [← hD] at hd2 hmap
 by_cases hx0 : x = 0 <;> simp (disch := omega) [hTl, ht2, hd2, hT2, hT2', c1, c2, c3, c4, c5, e0, hx0, ex0, keep_cl]
 all_goals
  refine W_up N (fun i => [(4, .int .u64 (V0 i : Nat)), (32, .ptr 0 0)]) (fun i => [some (.siter D i)]) (fun _ => True) ?_ ?_
  ·simp [keep_cl, trunc, hV00]
   exact List.take_of_length_le (by first | omega | (have := ex0 hx0; omega))
  intro i hi _
  by_cases hlt : i < N
  ·obtain ⟨d, g1, g2, g3⟩ := hmap i hlt
   have hu := utf8_lt g3 (dig_wordy d g2).2.2
   have hlt' : i < D.length := by omega
   have hv1 : V0 (i + 1) = 16 * V0 i + d := by rw [hV0, hV0, List.take_add_one, g1]; exact valD_snoc _ _
   have hvl : V0 i * 16 < 18446744073709551616 := by
    have := valD_lt i (ds.take i) (by rw [List.length_take]; omega) (fun y hy => hd y (List.mem_of_mem_take hy))
    rw [← hV0] at this
    have h2 : 16 ^ i ≤ 16 ^ 15 := Nat.pow_le_pow_right (by decide) (by omega)
    have h3 : (16 : Nat) ^ 15 = 1152921504606846976 := by decide
    omega
   have a1 := shl4u hvl
   have a2 := or4u hvl g2
   rw [← hv1] at a2
   by_cases hd10 : d < 10
   ·have b0 := dig_lo hd10
    have b1 : ((48 : Int) ≤ ((48 + d : Nat) : Int)) = True := eq_true (by omega)
    have b2 : (((48 + d : Nat) : Int) ≤ 57) = True := eq_true (by omega)
    have b3 : subI .i32 ((48 + d : Nat) : Int) 48 = (d : Int) := by
     unfold subI
     rw [show ((48 + d : Nat) : Int) - 48 = (d : Int) by omega]
     exact IntWalk.i32_in _ ⟨by omega, by omega⟩
    have b4 : convI .u64 (d : Int) = (d : Int) := IntWalk.u64_in _ ⟨by omega, by omega⟩
    simp (disch := omega) [hlt', hu, b0, b1, b2, b3, b4, a1, a2, keep_cl, trunc, hlt, -Int.natCast_add, -Int.natCast_mul]
   ·have b0 := dig_hi g2 (by omega)
    have b1 : ((48 : Int) ≤ ((87 + d : Nat) : Int)) = True := eq_true (by omega)
    have b2 : (((87 + d : Nat) : Int) ≤ 57) = False := eq_false (by omega)
    have b5 : ((97 : Int) ≤ ((87 + d : Nat) : Int)) = True := eq_true (by omega)
    have b6 : (((87 + d : Nat) : Int) ≤ 102) = True := eq_true (by omega)
    have b3 : subI .i32 ((87 + d : Nat) : Int) 97 = ((d - 10 : Nat) : Int) := by
     unfold subI
     rw [show ((87 + d : Nat) : Int) - 97 = ((d - 10 : Nat) : Int) by omega]
     exact IntWalk.i32_in _ ⟨by omega, by omega⟩
    have b7 : addI .i32 ((d - 10 : Nat) : Int) 10 = (d : Int) := by
     unfold addI
     rw [show ((d - 10 : Nat) : Int) + 10 = (d : Int) by omega]
     exact IntWalk.i32_in _ ⟨by omega, by omega⟩
    have b4 : convI .u64 (d : Int) = (d : Int) := IntWalk.u64_in _ ⟨by omega, by omega⟩
    simp (disch := omega) [hlt', hu, b0, b1, b2, b3, b4, b5, b6, b7, a1, a2, keep_cl, trunc, hlt, -Int.natCast_add, -Int.natCast_mul]
  ·have : i = N := by omega
   subst this
   have hlt' : ¬ i < D.length := by omega
   simp (disch := omega) [hlt', keep_cl, trunc, hVN]
theorem ParseN_ok [HasParse G] (n : Nat) (hn : n < 18446744073709551616) : FP G 144 [.str (textN n)] (.tup [.int .u64 n, .int .i64 0]) := by
 obtain ⟨ds, h1, h2, h3, h4, h5, h6⟩ := textN_form n hn
 have := ParseT_ok (G := G) ds h2 h4 h5 h6
 rwa [← h1, h3] at this
end Go.Ev
/- Names of machines, calls and actions: contracts. -/
namespace Go.Ev
open Go Go.RowKit
variable {G : Tbl}
set_option maxRecDepth 10000
set_option maxHeartbeats 4000000
set_option linter.unusedSimpArgs false
set_option linter.unusedVariables false
def prV (M : List (List UInt8 × Int)) : List (V × V) := M.map fun p => (.str p.1, .int .u32 p.2)
theorem mfM_none {s : List UInt8} : ∀ {M : List (List UInt8 × Int)} (i : Nat), M.find? (fun p => p.1 == s) = none → mfind (.sc .str) (.str s) (prV M) i = some none
 | [], i, _ => rfl
 | p :: M, i, h => by
  rw [List.find?_eq_none] at h
  have h1 : (s == p.1) = false := by
   have := h p (by simp)
   simp only [beq_iff_eq] at this
   simpa using fun e => this e.symm
  have ih := mfM_none (M := M) (i + 1) (by rw [List.find?_eq_none]; exact fun q hq => h q (by simp [hq]))
  simp only [prV] at ih
  simp only [prV, List.map_cons, mfind, keyEq, eqk, h1, ih]
theorem mfM_some {s : List UInt8} {v : Int} : ∀ {M : List (List UInt8 × Int)} (i : Nat), M.find? (fun p => p.1 == s) = some (s, v) → ∃ j, mfind (.sc .str) (.str s) (prV M) i = some (some (j, .int .u32 v))
 | [], i, h => by simp at h
 | p :: M, i, h => by
  by_cases e : p.1 = s
  ·rw [List.find?_cons_of_pos (by simpa using e)] at h
   cases h
   exact ⟨i, by simp [prV, mfind, keyEq, eqk]⟩
  ·rw [List.find?_cons_of_neg (by simpa using e)] at h
   obtain ⟨j, hj⟩ := mfM_some (i + 1) h
   have h1 : (s == p.1) = false := by simpa using fun e' => e e'.symm
   simp only [prV] at hj
   exact ⟨j, by simp only [prV, List.map_cons, mfind, keyEq, eqk, h1, hj]⟩
def mH (M : List (List UInt8 × Int)) : Heap := [some (.map (prV M))]
theorem nameB_ok [HasName G] {M : List (List UInt8 × Int)} (hM : NameM M) (v : Nat) : Big G (.F 393 [.mp 0, .int .u32 v] (mH M) (.str (nameM M v)) (mH M)) :=
 .nat HasName.h_names_name rfl ⟨rfl, M, rfl, hM.vals, rfl⟩
theorem nameN_ok [HasName G] (v : Nat) : Big G (.F 393 [.nilm, .int .u32 v] [] (.str []) []) :=
 .nat HasName.h_names_name rfl ⟨rfl, rfl⟩
theorem mH_trunc (M : List (List UInt8 × Int)) : trunc 1 [some (.map (prV M))] = [some (.map (prV M))] := by simp [trunc, Blk.cl, prV, Function.comp_def, V.cl]
theorem text_ok [HasWText G] [HasName G] [HasTopN G] {M : List (List UInt8 × Int)} (hM : NameM M) (v : Nat) (hv : v < 4294967296) : Big G (.F 451 [.mp 0, .int .u32 v] (mH M) (.str (textM M v)) (mH M)) := by
 refine F_of HasTopN.h_names_text (Nat.le_of_ble_eq_true rfl) ?_
 have w := nameB_ok (G := G) hM v
 have hT := Text_ok (G := G) v (by omega)
 have hc : convI .u64 (v : Int) = (v : Int) := IntWalk.u64_in _ ⟨by omega, by omega⟩
 simp only [mH] at w ⊢
 simp
 refine callS_of w ?_
 by_cases h : nameM M v = []
 ·simp [h, textM, hc]
  refine callP_of hT ?_
  simp [mH_trunc]
 ·have hb : (nameM M v).isEmpty = false := by simpa using h
  simp [h, hb, textM, mH_trunc]
theorem textN_ok' [HasWText G] [HasName G] [HasTopN G] (v : Nat) (hv : v < 4294967296) : Big G (.F 451 [.nilm, .int .u32 v] [] (.str (textN v)) []) := by
 refine F_of HasTopN.h_names_text (Nat.le_of_ble_eq_true rfl) ?_
 have w := nameN_ok (G := G) v
 have hT := Text_ok (G := G) v (by omega)
 have hc : convI .u64 (v : Int) = (v : Int) := IntWalk.u64_in _ ⟨by omega, by omega⟩
 simp
 refine callS_of w ?_
 simp [hc]
 refine callP_of hT ?_
 simp
theorem read_ok [HasParse G] [HasName G] [HasTopN G] {M : List (List UInt8 × Int)} (hM : NameM M) (v : Nat) (hv : v < 4294967296) : Big G (.F 452 [.mp 0, .str (textM M v)] (mH M) (.tup [.int .u32 v, .int .i64 0]) (mH M)) := by
 refine F_of HasTopN.h_names_read (Nat.le_of_ble_eq_true rfl) ?_
 by_cases h : nameM M v = []
 ·have hf := mfM_none 0 (find_text hM (v := v) (by omega))
  have w := nameB_ok (G := G) hM v
  have hP := ParseN_ok (G := G) v (by omega)
  have hc : convI .u32 (v : Int) = (v : Int) := IntWalk.u32_in _ ⟨by omega, by omega⟩
  have hs : shrI .u64 (v : Int) 32 = 0 := by
   have := shU (n := v) (e := 32) (by decide)
   rw [Nat.div_eq_of_lt (by omega)] at this
   exact this
  rw [h] at w
  have ht : textM M v = textN v := if_pos h
  rw [ht]
  simp only [mH] at w ⊢
  simp [hf]
  refine callP_of hP ?_
  simp [hs, hc]
  refine callS_of w ?_
  simp [hc, mH_trunc]
 ·have ht : textM M v = nameM M v := if_neg h
  obtain ⟨j, hf⟩ := mfM_some 0 (find_key hM.keys (nameM_mem h))
  rw [ht]
  simp [mH, hf]
theorem readN_ok [HasParse G] [HasName G] [HasTopN G] (v : Nat) (hv : v < 4294967296) : Big G (.F 452 [.nilm, .str (textN v)] [] (.tup [.int .u32 v, .int .i64 0]) []) := by
 refine F_of HasTopN.h_names_read (Nat.le_of_ble_eq_true rfl) ?_
 have w := nameN_ok (G := G) v
 have hP := ParseN_ok (G := G) v (by omega)
 have hc : convI .u32 (v : Int) = (v : Int) := IntWalk.u32_in _ ⟨by omega, by omega⟩
 have hs : shrI .u64 (v : Int) 32 = 0 := by
  have := shU (n := v) (e := 32) (by decide)
  rw [Nat.div_eq_of_lt (by omega)] at this
  exact this
 simp
 refine callP_of hP ?_
 simp [hs, hc]
 refine callS_of w ?_
 simp [hc]
theorem machines_ok [HasTopN G] : Big G (.F 449 [] [] (.mp 0) (mH machM)) := by
 refine F_of HasTopN.h_names_machines (Nat.le_of_ble_eq_true rfl) ?_
 simp [mH, prV, machM]
theorem calls_ok [HasTopN G] (a : Nat) {M : List (List UInt8 × Int)} (h : callM a = some M) : Big G (.F 450 [.int .u32 a] [] (.mp 0) (mH M)) := by
 refine F_of HasTopN.h_names_calls (Nat.le_of_ble_eq_true rfl) ?_
 unfold callM at h
 split at h
 ·rename_i h1; cases h; simp [h1, mH, prV, nRead, nWrite, nOpen, nClose, nExit, nFork, nKill, nMmap]
 ·split at h
  ·rename_i h1 h2; cases h; simp [h2, mH, prV, nRead, nWrite, nOpen, nClose, nExit, nFork, nKill, nMmap]
  ·split at h
   ·rename_i h1 h2 h3; cases h; simp [h3, mH, prV, nRead, nWrite, nOpen, nClose, nExit, nFork, nKill, nMmap]
   ·split at h
    ·rename_i h1 h2 h3 h4; cases h; simp [h4, mH, prV, nRead, nWrite, nOpen, nClose, nExit, nFork, nKill, nMmap]
    ·cases h
theorem callsN_ok [HasTopN G] (a : Nat) (h : callM a = none) : Big G (.F 450 [.int .u32 a] [] .nilm []) := by
 refine F_of HasTopN.h_names_calls (Nat.le_of_ble_eq_true rfl) ?_
 unfold callM at h
 split at h
 ·cases h
 ·split at h
  ·cases h
  ·split at h
   ·cases h
   ·split at h
    ·cases h
    ·rename_i h1 h2 h3 h4
     have e1 : ((a : Int) == 3221225534) = false := by simp; omega
     have e2 : ((a : Int) == 1073741827) = false := by simp; omega
     have e3 : ((a : Int) == 3221225655) = false := by simp; omega
     have e4 : ((a : Int) == 1073741864) = false := by simp; omega
     simp [e1, e2, e3, e4]
theorem Machine_ok [HasWText G] [HasName G] [HasTopN G] (a : Nat) (ha : a < 4294967296) : FP G 453 [.int .u32 a] (.str (textM machM a)) := by
 refine FP_of HasTopN.h_names_Machine (Nat.le_of_ble_eq_true rfl) ?_
 have w1 := machines_ok (G := G)
 have w2 := text_ok (G := G) machM_good a ha
 simp only [mH] at w1 w2
 simp
 refine callK_of w1 (by simp) ?_
 simp
 refine callS_of w2 ?_
 simp
theorem ReadMachine_ok [HasParse G] [HasName G] [HasTopN G] (a : Nat) (ha : a < 4294967296) : FP G 454 [.str (textM machM a)] (.tup [.int .u32 a, .int .i64 0]) := by
 refine FP_of HasTopN.h_names_ReadMachine (Nat.le_of_ble_eq_true rfl) ?_
 have w1 := machines_ok (G := G)
 have w2 := read_ok (G := G) machM_good a ha
 simp only [mH] at w1 w2
 simp
 refine callK_of w1 (by simp) ?_
 simp
 refine callS_of w2 ?_
 simp
theorem Call_ok [HasWText G] [HasName G] [HasTopN G] (a n : Nat) (hn : n < 4294967296) : FP G 455 [.int .u32 a, .int .u32 n] (.str (textM (callN a) n)) := by
 refine FP_of HasTopN.h_names_Call (Nat.le_of_ble_eq_true rfl) ?_
 cases hc : callM a with
 | none =>
  have w1 := callsN_ok (G := G) a hc
  have w2 := textN_ok' (G := G) n hn
  have ht : textM (callN a) n = textN n := by simp [callN, hc, textM, nameM]
  rw [ht]
  simp
  refine callK_of w1 (by simp) ?_
  simp
  refine callS_of w2 ?_
  simp
 | some M =>
  have hM : callN a = M := by simp [callN, hc]
  have w1 := calls_ok (G := G) a hc
  have w2 := text_ok (G := G) (hM ▸ callN_good a) n hn
  rw [hM]
  simp only [mH] at w1 w2
  simp
  refine callK_of w1 (by simp) ?_
  simp
  refine callS_of w2 ?_
  simp
theorem ReadCall_ok [HasParse G] [HasName G] [HasTopN G] (a n : Nat) (hn : n < 4294967296) : FP G 456 [.int .u32 a, .str (textM (callN a) n)] (.tup [.int .u32 n, .int .i64 0]) := by
 refine FP_of HasTopN.h_names_ReadCall (Nat.le_of_ble_eq_true rfl) ?_
 cases hc : callM a with
 | none =>
  have w1 := callsN_ok (G := G) a hc
  have w2 := readN_ok (G := G) n hn
  have ht : textM (callN a) n = textN n := by simp [callN, hc, textM, nameM]
  rw [ht]
  simp
  refine callK_of w1 (by simp) ?_
  simp
  refine callS_of w2 ?_
  simp
 | some M =>
  have hM : callN a = M := by simp [callN, hc]
  have w1 := calls_ok (G := G) a hc
  have w2 := read_ok (G := G) (hM ▸ callN_good a) n hn
  rw [hM]
  simp only [mH] at w1 w2
  simp
  refine callK_of w1 (by simp) ?_
  simp
  refine callS_of w2 ?_
  simp
end Go.Ev
/- Actions and conditions, as texts and back: contracts. -/
namespace Go.Ev
open Go Go.RowKit
variable {G : Tbl}
set_option maxRecDepth 10000
set_option maxHeartbeats 4000000
set_option linter.unusedSimpArgs false
set_option linter.unusedVariables false
theorem act_no {v : Nat} (h : actB v = true) (hs : nameS v = []) : 327680 ≤ v ∧ v ≤ 331775 := by
 have hn : v ≠ 0 ∧ v ≠ 196608 ∧ v ≠ 2147221504 ∧ v ≠ 2147418112 := by
  refine ⟨?_, ?_, ?_, ?_⟩ <;> (rintro rfl; revert hs; decide)
 simp only [actB, decide_eq_true_eq] at h
 omega
theorem ActionT_ok [HasWText G] [HasName G] (v : Nat) (hv : actB v = true) : FP G 395 [.int .u32 v] (.tup [.str (actT v), .int .i64 0]) := by
 refine FP_of HasName.h_names_Action (Nat.le_of_ble_eq_true rfl) ?_
 by_cases hs : nameS v = []
 ·have hb := act_no hv hs
  have hsub : subI .u32 (v : Int) 327680 = ((v - 327680 : Nat) : Int) := by
   unfold subI
   rw [show (v : Int) - 327680 = ((v - 327680 : Nat) : Int) by omega]
   exact IntWalk.u32_in _ ⟨by omega, by omega⟩
  have ht : actT v = errW ++ textN (v - 327680) := if_pos hs
  have hk : v - 327680 ≤ 4095 := by omega
  rw [ht]
  generalize v - 327680 = k at *
  have hT := Text_ok (G := G) k (by omega)
  have hle : ((k : Int) ≤ 4095) = True := eq_true (by omega)
  have hlen : (6 + (textN k).length ≤ 9223372036854775807) = True := eq_true (by have := textN_len k; omega)
  have hc : convI .u64 (k : Int) = (k : Int) := IntWalk.u64_in _ ⟨by omega, by omega⟩
  simp
  refine callK_of actions_ok (by simp) ?_
  simp
  refine callS_of (nameA_ok v) ?_
  simp [hs, hsub, hle, hc]
  refine callP_of hT ?_
  simp [hlen, errW]
 ·have hb : (nameS v).isEmpty = false := by simpa using hs
  have ht : actT v = nameS v := if_neg hs
  rw [ht]
  simp
  refine callK_of actions_ok (by simp) ?_
  simp
  refine callS_of (nameA_ok v) ?_
  simp [hs, hb]
theorem act_err {v : Nat} (h : actB v = true) (hs : nameS v = []) : ∃ k, v = 327680 + k ∧ k ≤ 4095 ∧ actT v = errW ++ textN k := by
 have hb := act_no h hs
 exact ⟨v - 327680, by omega, by omega, if_pos hs⟩
theorem ReadAction_ok [HasParse G] [HasName G] [HasTopN G] (v : Nat) (hv : actB v = true) : FP G 457 [.str (actT v)] (.tup [.int .u32 v, .int .i64 0]) := by
 refine FP_of HasTopN.h_names_ReadAction (Nat.le_of_ble_eq_true rfl) ?_
 have w := actions_ok (G := G)
 have hm : (actsM.map fun p : List UInt8 × Int => ((V.str p.1, V.int .u32 p.2) : V × V)) = prV actsM := rfl
 rw [hm] at w
 by_cases hs : nameS v = []
 ·have hb := act_no hv hs
  obtain ⟨k, hvk, hk, hA⟩ := act_err hv hs
  obtain ⟨S, hS⟩ : ∃ S, S = actT v := ⟨_, rfl⟩
  obtain ⟨T, hT⟩ : ∃ T, T = textN k := ⟨_, rfl⟩
  have hP := ParseN_ok (G := G) k (by omega)
  have htl := textN_len k
  rw [← hT] at hP hA htl
  rw [← hS] at hA ⊢
  have hf : actsM.find? (fun p => p.1 == S) = none := by rw [hA]; simp [actsM, errW]
  have hf' := mfM_none 0 hf
  have hl : S.length = 6 + T.length := by rw [hA]; simp [errW]; omega
  have ht6 : S.take 6 = [101, 114, 114, 111, 114, 58] := by rw [hA]; rfl
  have hd6 : S.drop 6 = T := by rw [hA]; rfl
  have c1 : ((S.length : Int) < 6) = False := eq_false (by omega)
  have c2 : ((6 : Int) ≤ (S.length : Int)) = True := eq_true (by omega)
  have c3 : (4095 < (k : Int)) = False := eq_false (by omega)
  have c4 : convI .u32 (k : Int) = (k : Int) := IntWalk.u32_in _ ⟨by omega, by omega⟩
  have c5 : addI .u32 327680 (k : Int) = (v : Int) := by
   unfold addI
   rw [show (327680 : Int) + (k : Int) = (v : Int) by omega]
   exact IntWalk.u32_in _ ⟨by omega, by omega⟩
  have c6 : T.take (S.length - 6) = T := List.take_of_length_le (by omega)
  simp
  refine callK_of w (by simp) ?_
  simp [hf', c1, c2, ht6, hd6, c6, keep_cl]
  refine callP_of hP ?_
  simp [c3, c4, c5]
 ·have ht : actT v = nameM actsM v := if_neg hs
  obtain ⟨j, hf⟩ := mfM_some 0 (find_key actsM_good.keys (nameM_mem hs))
  rw [ht]
  simp
  refine callK_of w (by simp) ?_
  simp [hf]
theorem wordy_at {w : List UInt8} (hw : wordy w) {i : Nat} (h : i < w.length) : ∃ b, w[i]? = some b ∧ b.toNat < 128 ∧ b.toNat ≠ 32 ∧ b.toNat ≠ 10 := by
 have := hw w[i] (List.getElem_mem h)
 refine ⟨w[i], List.getElem?_eq_getElem h, this.2.2, fun e => this.1 ?_, fun e => this.2.1 ?_⟩
 ·exact UInt8.toNat_inj.1 e
 ·exact UInt8.toNat_inj.1 e
theorem beqN {a b : Nat} (h : a ≠ b) : ((a : Int) == (b : Int)) = false := by simp; omega
theorem cut_ok [HasTopC G] (w : List UInt8) (hw : wordy w) (rest : List UInt8) (hl : w.length + 1 + rest.length < 4611686018427387904) : FP G 459 [.str (w ++ 32 :: rest)] (.tup [.str w, .str rest]) := by
 refine FP_of HasTopC.h_cond_cut (Nat.le_of_ble_eq_true rfl) ?_
 obtain ⟨S, hS⟩ : ∃ S, S = w ++ 32 :: rest := ⟨_, rfl⟩
 have hSl : S.length = w.length + 1 + rest.length := by rw [hS]; simp; omega
 have hSi : ∀ i, i < w.length → S[i]? = w[i]? := fun i hi => by rw [hS, List.getElem?_append_left hi]
 have hSn : S[w.length]? = some 32 := by rw [hS]; simp
 have htk : S.take w.length = w := by rw [hS]; simp
 have hdr : S.drop (w.length + 1) = rest := by rw [hS, ← List.drop_drop]; simp
 rw [← hS]
 simp
 refine W_up w.length (fun i => [(0, .str S), (7, .ptr 0 0)]) (fun i => [some (.siter S i)]) (fun _ => True) ?_ ?_
 ·simp [keep_cl, trunc]
 intro i hi _
 rcases Nat.eq_or_lt_of_le hi with hi | hlt
 ·subst hi
  have hu := utf8_lt hSn (by decide)
  have h1 : w.length < S.length := by omega
  have e1 : ((w.length : Int) ≤ (S.length : Int)) = True := eq_true (by omega)
  have e2 : (((w.length : Int) + 1) ≤ (S.length : Int)) = True := eq_true (by omega)
  have e3 : addI .i64 (w.length : Int) 1 = ((w.length + 1 : Nat) : Int) := by rw [addI64] <;> omega
  have e4 : rest.take (S.length - (w.length + 1)) = rest := List.take_of_length_le (by omega)
  have e5 : (((w.length + 1 : Nat) : Int) ≤ (S.length : Int)) = True := eq_true (by omega)
  simp (disch := omega) [h1, hu, e1, e2, e3, e4, e5, htk, hdr, keep_cl, trunc, -Int.natCast_add]
 ·obtain ⟨b, g1, g2, g3, _⟩ := wordy_at hw hlt
  rw [← hSi i hlt] at g1
  have hu := utf8_lt g1 g2
  have h1 : i < S.length := by omega
  have hb : ((b.toNat : Int) == 32) = false := beqN (b := 32) g3
  simp (disch := omega) [h1, hu, hb, keep_cl, trunc, hlt]
theorem cmpW_len (c : Int) : (cmpW c).length = 2 := by unfold cmpW; repeat' split
                                                       all_goals rfl
def condT (c : Cd) : List UInt8 := joinW (condW4 c)
theorem condT_eq (c : Cd) : condT c = [97, UInt8.ofNat (48 + c.arg.toNat)] ++ 32 :: (textN c.mask ++ 32 :: (cmpW c.cmp ++ 32 :: textN c.val)) := rfl
theorem condT_len (c : Cd) : (condT c).length ≤ 43 := by
 have h1 := textN_len c.mask
 have h2 := textN_len c.val
 have h3 := cmpW_len c.cmp
 rw [condT_eq]
 simp
 omega
theorem i2s_arg {a : Int} (h0 : 0 ≤ a) (h5 : a ≤ 5) : (Utf8.encode (48 + a)).data.toList = [UInt8.ofNat (48 + a.toNat)] := by
 have : a = 0 ∨ a = 1 ∨ a = 2 ∨ a = 3 ∨ a = 4 ∨ a = 5 := by omega
 rcases this with rfl | rfl | rfl | rfl | rfl | rfl <;> rfl
theorem CondPrint_ok [HasWText G] [HasCondR G] [HasCondN G] [HasTopC G] (c : Cd) (hr : c.right = true) (ho : c.ok) : FP G 458 [.agg c.cs] (.tup [.str (condT c), .int .i64 0]) := by
 refine FP_of HasTopC.h_cond_Print (Nat.le_of_ble_eq_true rfl) ?_
 have hR := CondR_ok (G := G) c
 rw [hr] at hR
 have hr' := hr
 simp only [Cd.right, decide_eq_true_eq] at hr'
 have w1 := Text_ok (G := G) c.mask ho.1
 have w2 := Text_ok (G := G) c.val ho.2
 have l1 := textN_len c.mask
 have l2 := textN_len c.val
 have ha : addI .i64 48 c.arg = 48 + c.arg := by unfold addI; exact IntWalk.i64_in _ ⟨by omega, by omega⟩
 have hc : convI .i32 (48 + c.arg) = 48 + c.arg := IntWalk.i32_in _ ⟨by omega, by omega⟩
 have hi := i2s_arg (a := c.arg) (by omega) (by omega)
 rw [condT_eq]
 obtain ⟨T1, hT1⟩ : ∃ T1, T1 = textN c.mask := ⟨_, rfl⟩
 obtain ⟨T2, hT2⟩ : ∃ T2, T2 = textN c.val := ⟨_, rfl⟩
 obtain ⟨A, hA⟩ : ∃ A, A = UInt8.ofNat (48 + c.arg.toNat) := ⟨_, rfl⟩
 rw [← hT1] at w1 l1 ⊢
 rw [← hT2] at w2 l2 ⊢
 rw [← hA] at hi ⊢
 simp only [Cd.cs] at hR ⊢
 have hlen : (T1.length + 4 + 1 + 1 + 1 + T2.length ≤ 9223372036854775807) = True := eq_true (by omega)
 have hb : ∀ n : Nat, n ≤ 100 → (n ≤ 9223372036854775807) = True := fun n hn => eq_true (by omega)
 simp
 refine callP_of hR ?_
 simp [ha, hc, hi]
 refine callP_of w1 ?_
 simp (disch := omega) [hb]
 refine callP_of kinds_ok ?_
 have hcc : c.cmp = 0 ∨ c.cmp = 1 ∨ c.cmp = 2 ∨ c.cmp = 3 ∨ c.cmp = 4 ∨ c.cmp = 5 := by omega
 rcases hcc with h | h | h | h | h | h <;> simp (disch := omega) [h, kindsV, hb]
 all_goals
  refine callP_of w2 ?_
  simp (disch := simp; omega) [hb, cmpW, hlen]
end Go.Ev
/- Conditions read: contract. -/
namespace Go.Ev
open Go Go.RowKit
variable {G : Tbl}
set_option maxRecDepth 10000
set_option maxHeartbeats 8000000
set_option linter.unusedSimpArgs false
set_option linter.unusedVariables false
theorem CondParse_ok [HasParse G] [HasCondN G] [HasTopC G] (c : Cd) (hr : c.right = true) (ho : c.ok) : FP G 460 [.str (condT c)] (.tup [.agg c.cs, .int .i64 0]) := by
 refine FP_of HasTopC.h_cond_Parse (Nat.le_of_ble_eq_true rfl) ?_
 have hr' := hr
 simp only [Cd.right, decide_eq_true_eq] at hr'
 have l1 := textN_len c.mask
 have l2 := textN_len c.val
 have l3 := cmpW_len c.cmp
 have wA := arg_wordy hr
 have wT := textN_wordy c.mask ho.1
 have wC := cmpW_wordy c.cmp
 have p1 := ParseN_ok (G := G) c.mask ho.1
 have p2 := ParseN_ok (G := G) c.val ho.2
 have hA : ∃ A : UInt8, UInt8.ofNat (48 + c.arg.toNat) = A ∧ (A.toNat : Int) = 48 + c.arg := by
  have : c.arg = 0 ∨ c.arg = 1 ∨ c.arg = 2 ∨ c.arg = 3 ∨ c.arg = 4 ∨ c.arg = 5 := by omega
  rcases this with h | h | h | h | h | h <;> rw [h] <;> exact ⟨_, rfl, rfl⟩
 obtain ⟨A, hA1, hA2⟩ := hA
 rw [condT_eq]
 rw [hA1] at wA ⊢
 generalize textN c.mask = T1 at *
 generalize textN c.val = T2 at *
 obtain ⟨R2, hR2⟩ : ∃ R, R = cmpW c.cmp ++ 32 :: T2 := ⟨_, rfl⟩
 obtain ⟨R1, hR1⟩ : ∃ R, R = T1 ++ 32 :: R2 := ⟨_, rfl⟩
 have r2 : R2.length ≤ 21 := by rw [hR2]; simp; omega
 have r1 : R1.length ≤ 40 := by rw [hR1]; simp; omega
 have q1 := cut_ok (G := G) [97, A] wA R1 (by simp; omega)
 have q2 := cut_ok (G := G) T1 wT R2 (by omega)
 have q3 := cut_ok (G := G) (cmpW c.cmp) wC T2 (by omega)
 rw [← hR2] at q3 ⊢
 rw [← hR1] at q2 ⊢
 have a1 : ((A.toNat : Int) < 48) = False := eq_false (by omega)
 have a2 : (53 < (A.toNat : Int)) = False := eq_false (by omega)
 have a3 : subI .u8 (A.toNat : Int) 48 = c.arg := by
  unfold subI
  rw [hA2, show 48 + c.arg - 48 = c.arg by omega]
  exact IntWalk.u8_in _ ⟨by omega, by omega⟩
 have a4 : convI .i64 c.arg = c.arg := IntWalk.i64_in _ ⟨by omega, by omega⟩
 simp only [List.cons_append, List.nil_append] at q1 ⊢
 simp
 refine callP_of q1 ?_
 simp
 refine callP_of q2 ?_
 simp
 refine callP_of q3 ?_
 simp [a1, a2, keep_cl]
 refine callP_of p1 ?_
 simp
 refine callP_of p2 ?_
 simp
 refine callP_of kinds_ok ?_
 have hcc : c.cmp = 0 ∨ c.cmp = 1 ∨ c.cmp = 2 ∨ c.cmp = 3 ∨ c.cmp = 4 ∨ c.cmp = 5 := by omega
 obtain ⟨N, hN⟩ : ∃ N : Nat, c.cmp = N := ⟨c.cmp.toNat, by omega⟩
 simp
 refine W_up N (fun i => [(2, .ptr 0 0), (4, .str [97, A]), (7, .str (cmpW c.cmp)), (9, .int .u64 c.mask), (10, .int .i64 0), (11, .int .u64 c.val), (12, .int .i64 0), (59, .agg kindsV), (60, .int .i64 i)]) (fun _ => [some (.cells [.int .i64 0, .int .i64 0, .int .u64 0, .int .u64 0])]) (fun _ => True) ?_ ?_
 ·simp [keep_cl, trunc, clL, V.cl, kindsV]
 intro i hi _
 have hN6 : N ≤ 5 := by omega
 rcases Nat.eq_or_lt_of_le hi with he | hlt
 ·have : i = 0 ∨ i = 1 ∨ i = 2 ∨ i = 3 ∨ i = 4 ∨ i = 5 := by omega
  rcases this with rfl | rfl | rfl | rfl | rfl | rfl <;> subst he <;> simp [hN, cmpW, kindsV, Cd.cs, a3, a4, keep_cl, trunc]
 ·have : i = 0 ∨ i = 1 ∨ i = 2 ∨ i = 3 ∨ i = 4 := by omega
  have hN' : N = 1 ∨ N = 2 ∨ N = 3 ∨ N = 4 ∨ N = 5 := by omega
  rcases this with rfl | rfl | rfl | rfl | rfl <;> rcases hN' with rfl | rfl | rfl | rfl | rfl <;> first
   | (exfalso; omega)
   | (simp [hN, cmpW, kindsV, keep_cl, trunc, add1', show addI .i64 0 1 = 1 from rfl, show addI .i64 1 1 = 2 from rfl, show addI .i64 2 1 = 3 from rfl, show addI .i64 3 1 = 4 from rfl, show addI .i64 4 1 = 5 from rfl, clL, V.cl]; done)
end Go.Ev
/- Policies as texts: contracts. -/
namespace Go.Ev
open Go Go.RowKit
variable {G : Tbl}
set_option maxRecDepth 10000
set_option maxHeartbeats 8000000
set_option linter.unusedSimpArgs false
set_option linter.unusedVariables false
theorem condsW_append : ∀ (a : List Cd) (k : Nat) (b : List Cd), condsW k (a ++ b) = condsW k a ++ condsW (k + a.length) b
 | [], k, b => by simp [condsW]
 | c :: a, k, b => by
  simp only [List.cons_append, condsW, List.length_cons]
  rw [condsW_append a (k + 1) b, show k + 1 + a.length = k + (a.length + 1) by omega]
  simp
def headW (r : Ru) : List (List UInt8) := [[111, 110], textM machM r.arch, textM (callN r.arch) r.nr, actT r.act]
def ruleI (r : Ru) (i : Nat) : List UInt8 := joinW (headW r ++ condsW 0 (r.conds.take i))
theorem ruleI_zero (r : Ru) : ruleI r 0 = [111, 110, 32] ++ textM machM r.arch ++ [32] ++ textM (callN r.arch) r.nr ++ [32] ++ actT r.act := by
 simp [ruleI, headW, condsW, joinW]
theorem ruleI_all (r : Ru) : ruleI r r.conds.length = joinW (ruleW r) := by rw [ruleI, List.take_length]; rfl
theorem ruleI_succ {r : Ru} {i : Nat} {c : Cd} (h : r.conds[i]? = some c) : ruleI r (i + 1) = ruleI r i ++ (32 :: jointW i ++ 32 :: condT c) := by
 have hi := (List.getElem?_eq_some_iff.1 h).1
 have ht : r.conds.take (i + 1) = r.conds.take i ++ [c] := by rw [List.take_add_one, h]; rfl
 have e : headW r ++ condsW 0 (r.conds.take (i + 1)) = (headW r ++ condsW 0 (r.conds.take i)) ++ (jointW i :: condW4 c) := by
  rw [ht, condsW_append, List.length_take, Nat.min_eq_left (by omega), Nat.zero_add]
  simp [condsW]
 rw [ruleI, e, joinW_append (by simp [headW]) (by simp), joinW_cons _ (by simp [condW4])]
 simp [ruleI, condT]
theorem joint_len (k : Nat) : (jointW k).length ≤ 3 := by unfold jointW; split <;> simp
theorem ruleI_len (r : Ru) : ∀ i, i ≤ r.conds.length → (ruleI r i).length ≤ 80 + 50 * i
 | 0, _ => by
  have h1 := textM_len machM_good (v := r.arch)
  have h2 := textM_len (callN_good r.arch) (v := r.nr)
  have h3 := actT_len (v := r.act)
  rw [ruleI_zero]
  simp
  omega
 | i + 1, h => by
  have ih := ruleI_len r i (by omega)
  have hg : r.conds[i]? = some r.conds[i] := List.getElem?_eq_getElem (by omega)
  have h1 := condT_len r.conds[i]
  have h2 := joint_len i
  rw [ruleI_succ hg]
  simp
  omega
theorem polRule_ok [HasWText G] [HasName G] [HasCondR G] [HasCondN G] [HasTopN G] [HasTopC G] [HasTopP G] (r : Ru) (hm : mayB r = true) (ho : ∀ c ∈ r.conds, c.ok) (ha : r.arch < 4294967296) (hn : r.nr < 4294967296) (hv : r.act < 4294967296) :
  FP G 461 [.agg r.cs] (.str (joinW (ruleW r))) := by
 refine FP_of HasTopP.h_policy_rule (Nat.le_of_ble_eq_true rfl) ?_
 simp only [mayB, Bool.and_eq_true, decide_eq_true_eq, List.all_eq_true] at hm
 obtain ⟨⟨hc, hb⟩, h4⟩ := hm
 have w1 := ActionT_ok (G := G) r.act hb
 have w2 := Machine_ok (G := G) r.arch ha
 have w3 := Call_ok (G := G) r.arch r.nr hn
 have l1 := textM_len machM_good (v := r.arch)
 have l2 := textM_len (callN_good r.arch) (v := r.nr)
 have l3 := actT_len (v := r.act)
 have hz := ruleI_zero r
 obtain ⟨T, hT⟩ : ∃ T : Nat → List UInt8, ∀ i, T i = ruleI r i := ⟨_, fun _ => rfl⟩
 have hTl : ∀ i, i ≤ r.conds.length → (T i).length ≤ 80 + 50 * i := fun i hi => by rw [hT]; exact ruleI_len r i hi
 have hTs : ∀ i c, r.conds[i]? = some c → T (i + 1) = T i ++ (32 :: jointW i ++ 32 :: condT c) := fun i c h => by rw [hT, hT]; exact ruleI_succ h
 have hTN : T r.conds.length = joinW (ruleW r) := by rw [hT]; exact ruleI_all r
 rw [← hTN]
 rw [← hT] at hz
 generalize textM machM r.arch = M at *
 generalize textM (callN r.arch) r.nr = C at *
 generalize actT r.act = A at *
 have hz' : T 0 = 111 :: 110 :: 32 :: (M ++ 32 :: (C ++ 32 :: A)) := by rw [hz]; simp
 have b1 : (M.length + 1 + 1 + 1 ≤ 9223372036854775807) = True := eq_true (by omega)
 have b2 : ∀ n : Nat, n ≤ 400 → (n ≤ 9223372036854775807) = True := fun n h => eq_true (by omega)
 simp only [Ru.cs]
 simp
 refine callP_of w1 ?_
 simp
 refine callP_of w2 ?_
 simp (disch := (first | omega | (simp; omega))) [b2]
 refine callP_of w3 ?_
 simp (disch := (first | omega | (simp; omega))) [b2]
 refine W_up r.conds.length (fun i => [(5, .str (T i)), (6, .str (32 :: jointW i ++ [32])), (32, .vs (CL r.conds) .no), (33, .int .i64 r.conds.length), (34, .int .i64 i)]) (fun _ => [some (.cells r.cs)]) (fun _ => True) ?_ ?_
 ·simp [keep_cl, trunc, hz', jointW, Ru.cs]
 intro i hi _
 by_cases hlt : i < r.conds.length
 ·obtain ⟨x, hx⟩ : ∃ x, x = r.conds[i] := ⟨_, rfl⟩
  have hg : r.conds[i]? = some x := by rw [List.getElem?_eq_getElem hlt, hx]
  have hxm := List.mem_of_getElem? hg
  have hgc := CL_get hg
  have hget : (CL r.conds)[i]'(by simpa using hlt) = x.cs := by rw [List.getElem?_eq_getElem (by simpa using hlt)] at hgc; exact Option.some.inj hgc
  have wP := CondPrint_ok (G := G) x (hc x hxm) (ho x hxm)
  have hs := hTs i x hg
  have hl := hTl i hi
  have hcl := condT_len x
  have hjl := joint_len i
  obtain ⟨J, hJ⟩ : ∃ J, J = jointW i := ⟨_, rfl⟩
  rw [← hJ] at hs hjl
  have hj1 : jointW (i + 1) = [97, 110, 100] := by simp [jointW]
  simp only [Cd.cs] at wP hgc hget
  generalize condT x = P at *
  simp (disch := omega) [ltT, get_in, hgc, hget, hlt, Ru.cs]
  refine callP_of wP ?_
  rw [← hJ]
  have hs' : T i ++ 32 :: (J ++ 32 :: P) = T (i + 1) := by rw [hs]; simp
  have b3 : (J.length + 1 + 1 + P.length ≤ 9223372036854775807) = True := eq_true (by omega)
  have b4 : ((T i).length + (J.length + (P.length + 1) + 1) ≤ 9223372036854775807) = True := eq_true (by omega)
  simp (disch := omega) [hs', b2, b3, b4, keep_cl, trunc, add1', hlt, hj1, Ru.cs, -Int.natCast_add]
 ·have : i = r.conds.length := by omega
  subst this
  simp (disch := omega) [ltF, keep_cl, trunc, Ru.cs]
def polI (p : Po) (i : Nat) : List UInt8 := linesT ((p.rules.take i).map fun r => joinW (ruleW r))
theorem linesT_append (a b : List (List UInt8)) : linesT (a ++ b) = linesT a ++ linesT b := by simp [linesT]
theorem polI_succ {p : Po} {i : Nat} {r : Ru} (h : p.rules[i]? = some r) : polI p (i + 1) = polI p i ++ (joinW (ruleW r) ++ [10]) := by
 rw [polI, List.take_add_one, h, List.map_append, linesT_append]
 simp [polI, linesT]
theorem polT_eq (p : Po) : polT p = polI p p.rules.length ++ [100, 101, 102, 97, 117, 108, 116, 32] ++ actT p.dflt ++ [10] := by
 rw [polT, polL, linesT_append, polI, List.take_length]
 simp [linesT, dfltW, joinW]
theorem polI_len (p : Po) (h4 : ∀ r ∈ p.rules, r.conds.length ≤ 4) : ∀ i, i ≤ p.rules.length → (polI p i).length ≤ 281 * i
 | 0, _ => by simp [polI, linesT]
 | i + 1, h => by
  have ih := polI_len p h4 i (by omega)
  have hg : p.rules[i]? = some p.rules[i] := List.getElem?_eq_getElem (by omega)
  have h1 := ruleI_len p.rules[i] _ (Nat.le_refl _)
  have h2 := h4 _ (List.getElem_mem (by omega : i < p.rules.length))
  rw [ruleI_all] at h1
  rw [polI_succ hg]
  simp
  omega
theorem right_parts {p : Po} (h : rightP p = true) : (∀ r ∈ p.rules, mayB r = true) ∧ actB p.dflt = true ∧ p.rules.length ≤ 64 ∧ ∀ r ∈ p.rules, r.conds.length ≤ 4 := by
 simp only [rightP, Bool.and_eq_true, decide_eq_true_eq, List.all_eq_true] at h
 refine ⟨h.1.1, h.1.2, h.2, fun r hr => ?_⟩
 have := h.1.1 r hr
 simp only [mayB, Bool.and_eq_true, decide_eq_true_eq] at this
 exact this.2
def Ru.okk (r : Ru) : Prop := (∀ c ∈ r.conds, c.ok) ∧ r.arch < 4294967296 ∧ r.nr < 4294967296 ∧ r.act < 4294967296
theorem polPrint_ok [HasWText G] [HasName G] [HasCondR G] [HasCondN G] [HasPol G] [HasTopN G] [HasTopC G] [HasTopP G] (p : Po) (hr : rightP p = true) (ho : ∀ r ∈ p.rules, r.okk) (hd : p.dflt < 4294967296) :
  FP G 462 [.agg p.cs] (.tup [.str (polT p), .int .i64 0]) := by
 refine FP_of HasTopP.h_policy_Print (Nat.le_of_ble_eq_true rfl) ?_
 obtain ⟨h1, h2, h3, h4⟩ := right_parts hr
 have wR := polRight_ok (G := G) p (by unfold maxLen; omega) (fun r hrr => ⟨by have := h4 r hrr; unfold maxLen; omega, (ho r hrr).2.2.2⟩) hd
 rw [hr] at wR
 have wA := ActionT_ok (G := G) p.dflt h2
 have lA := actT_len (v := p.dflt)
 obtain ⟨S, hS⟩ : ∃ S : Nat → List UInt8, ∀ i, S i = polI p i := ⟨_, fun _ => rfl⟩
 have hSl : ∀ i, i ≤ p.rules.length → (S i).length ≤ 281 * i := fun i hi => by rw [hS]; exact polI_len p h4 i hi
 have hSs : ∀ i r, p.rules[i]? = some r → S (i + 1) = S i ++ (joinW (ruleW r) ++ [10]) := fun i r h => by rw [hS, hS]; exact polI_succ h
 have hSN : polT p = S p.rules.length ++ ([100, 101, 102, 97, 117, 108, 116, 32] ++ (actT p.dflt ++ [10])) := by rw [hS, polT_eq]; simp
 have hS0 : S 0 = [] := by rw [hS]; rfl
 rw [hSN]
 simp only [Po.cs] at wR ⊢
 generalize actT p.dflt = A at *
 have b2 : ∀ n : Nat, n ≤ 40000 → (n ≤ 9223372036854775807) = True := fun n h => eq_true (by omega)
 simp
 refine callP_of wR ?_
 simp
 refine W_up p.rules.length (fun i => [(1, .ptr 0 0), (4, .str (S i)), (13, .vs (RL p.rules) .no), (14, .int .i64 p.rules.length), (15, .int .i64 i)]) (fun _ => [some (.cells p.cs)]) (fun _ => True) ?_ ?_
 ·simp [keep_cl, trunc, hS0, Po.cs]
 intro i hi _
 by_cases hlt : i < p.rules.length
 ·obtain ⟨x, hx⟩ : ∃ x, x = p.rules[i] := ⟨_, rfl⟩
  have hg : p.rules[i]? = some x := by rw [List.getElem?_eq_getElem hlt, hx]
  have hxm := List.mem_of_getElem? hg
  have hgc := RL_get hg
  have hget : (RL p.rules)[i]'(by simpa using hlt) = x.cs := by rw [List.getElem?_eq_getElem (by simpa using hlt)] at hgc; exact Option.some.inj hgc
  have hxo := ho x hxm
  have wP := polRule_ok (G := G) x (h1 x hxm) hxo.1 hxo.2.1 hxo.2.2.1 hxo.2.2.2
  have hl1 := ruleI_len x _ (Nat.le_refl _)
  rw [ruleI_all] at hl1
  have hx4 := h4 x hxm
  have hs := hSs i x hg
  have hl := hSl i hi
  simp only [Ru.cs] at wP hgc hget
  generalize joinW (ruleW x) = L at *
  simp (disch := omega) [ltT, get_in, hgc, hget, hlt, Po.cs]
  refine callP_of wP ?_
  have b3 : (L.length + 1 ≤ 9223372036854775807) = True := eq_true (by omega)
  have b4 : ((S i).length + (L.length + 1) ≤ 9223372036854775807) = True := eq_true (by omega)
  simp (disch := omega) [b3, b4, ← hs, keep_cl, trunc, add1', hlt, Po.cs, -Int.natCast_add]
 ·have : i = p.rules.length := by omega
  subst this
  have hl := hSl _ (Nat.le_refl p.rules.length)
  simp (disch := omega) [ltF, keep_cl, trunc, Po.cs]
  refine callP_of wA ?_
  simp (disch := (first | omega | (simp; omega))) [b2]
end Go.Ev
