/- States and records; which way a branch goes; the parts of two states. -/
import Derived.Test.YtkodfphojbfieaaGreatDoorEvXW
import Derived.Test.YtkodfphojbfieaaGreatDoorEvBitsCW
import Derived.Test.YtkodfphojbfieaaGreatDoorEvSW
import Derived.Test.YtkodfphojbfieaaGreatDoorEvWinCW
import Derived.Test.YtkodfphojbfieaaGreatDoorEvMW
set_option linter.unusedVariables false
set_option linter.unusedSimpArgs false
namespace Go.Ev
open Go Go.RowKit
variable {G : Tbl}
set_option maxRecDepth 10000
set_option maxHeartbeats 2000000
set_option linter.unusedSimpArgs false
set_option linter.unusedVariables false
structure St where
 a : Nat
 x : Nat
 m : List Nat
 deriving DecidableEq
def St.cs (s : St) : List V := .int .u32 (s.a : Int) :: .int .u32 (s.x : Int) :: cnats .u32 s.m
def SV (s : St) : V := .agg s.cs
def St.ok (s : St) : Prop := s.a < 4294967296 ∧ s.x < 4294967296 ∧ s.m.length = 16 ∧ ∀ w ∈ s.m, w < 4294967296
structure Da where
 nr : Nat
 arch : Nat
 ip : Nat
 args : List Nat
def Da.cs (d : Da) : List V := .int .u32 (d.nr : Int) :: .int .u32 (d.arch : Int) :: .int .u64 (d.ip : Int) :: cnats .u64 d.args
def DV (d : Da) : V := .agg d.cs
def Da.ok (d : Da) : Prop := d.nr < 4294967296 ∧ d.arch < 4294967296 ∧ d.ip < 18446744073709551616 ∧ d.args.length = 6 ∧ ∀ w ∈ d.args, w < 18446744073709551616
theorem take2 (a b : V) (l : List V) (n : Nat) : (a :: b :: l).take (2 + n) = a :: b :: l.take n := by rw [Nat.add_comm]; rfl
theorem drop2 (a b : V) (l : List V) (n : Nat) : (a :: b :: l).drop (2 + n) = l.drop n := by rw [Nat.add_comm]; rfl
theorem drop1 (a : V) (l : List V) (n : Nat) : (a :: l).drop (2 + n) = l.drop (n + 1) := by rw [show 2 + n = (n + 1) + 1 by omega]; rfl
theorem drop21 (a b : V) (l : List V) (n : Nat) : (a :: b :: l).drop (2 + n + 1) = l.drop (n + 1) := by rw [show 2 + n + 1 = (n + 1) + 2 by omega]; rfl
def takesB (s : St) (x : In4) : Bool :=
 let b := if x.op ∈ [29, 45, 61, 77] then s.x else x.k
 if x.op = 21 ∨ x.op = 29 then decide (s.a = b) else if x.op = 37 ∨ x.op = 45 then decide (b < s.a) else if x.op = 53 ∨ x.op = 61 then decide (b ≤ s.a) else if x.op = 69 ∨ x.op = 77 then decide (s.a &&& b ≠ 0) else false
end Go.Ev
/- A record's words, by data. -/
namespace Go.Ev
open Go Go.RowKit
variable {G : Tbl}
set_option maxRecDepth 10000
set_option maxHeartbeats 2000000
set_option linter.unusedSimpArgs false
set_option linter.unusedVariables false
def lo (v : Nat) : Nat := v % 4294967296
def hi (v : Nat) : Nat := v / 4294967296 % 4294967296
def wordsD (d : Da) : List Nat := [d.nr, d.arch, lo d.ip, hi d.ip] ++ d.args.flatMap fun a => [lo a, hi a]
theorem flat2_len (l : List Nat) : (l.flatMap fun a => [lo a, hi a]).length = 2 * l.length := by
 induction l with
 | nil => rfl
 | cons a l ih => simp only [List.flatMap_cons, List.length_append, ih, List.length_cons, List.length_nil]; omega
theorem flat2_get : ∀ (l : List Nat) (i : Nat) (h : i < l.length), (l.flatMap fun a => [lo a, hi a])[2 * i]? = some (lo l[i]) ∧ (l.flatMap fun a => [lo a, hi a])[2 * i + 1]? = some (hi l[i])
 | [], i, h => by simp at h
 | a :: l, 0, _ => by simp
 | a :: l, i + 1, h => by
  have := flat2_get l i (by simpa using h)
  rw [show 2 * (i + 1) = 2 * i + 2 by omega, show 2 * i + 2 + 1 = 2 * i + 1 + 2 by omega]
  simpa using this
theorem wordsD_len {d : Da} (h : d.args.length = 6) : (wordsD d).length = 16 := by rw [wordsD, List.length_append, flat2_len, h]; rfl
theorem lo_lt (v : Nat) : lo v < 4294967296 := Nat.mod_lt _ (by decide)
theorem hi_lt (v : Nat) : hi v < 4294967296 := Nat.mod_lt _ (by decide)
theorem wordsD_lt {d : Da} (h : d.ok) : ∀ w ∈ wordsD d, w < 4294967296 := by
 intro w hw
 simp only [wordsD, List.mem_append, List.mem_cons, List.not_mem_nil, or_false, List.mem_flatMap] at hw
 rcases hw with (rfl | rfl | rfl | rfl) | ⟨a, _, rfl | rfl⟩
 ·exact h.1
 ·exact h.2.1
 ·exact lo_lt _
 ·exact hi_lt _
 ·exact lo_lt _
 ·exact hi_lt _
theorem conv_lo (v : Nat) : convI .u32 (v : Int) = ((lo v : Nat) : Int) := rfl
theorem shr_hi (v : Nat) (h : v < 18446744073709551616) : shrI .u64 (v : Int) 32 = ((v / 4294967296 : Nat) : Int) := by
 unfold shrI
 have : (min (32 : Int).toNat IntKind.u64.bits) = 32 := by decide
 rw [this]
 change (v : Int).fdiv 4294967296 = _
 rw [Int.fdiv_eq_ediv_of_nonneg _ (by decide)]
 rfl
theorem lo_hi (v : Nat) : lo (v / 4294967296) = hi v := rfl
def H4 (cs : List V) (l : List Nat) (n : Nat) : Heap := [some (.cells cs), some (.cells (cnats .u32 (zeros 16))), some (.cells (cnats .u32 l)), some (.cells [.int .i64 n])]
theorem put_ok [HasData G] (cs : List V) (l : List Nat) (n v : Nat) (hl : l.length = 16) (hn : n + 1 < 16) (hv : v < 18446744073709551616) :
  Big G (.F 159 [.int .u64 v, .ptr 2 0, .ptr 3 0] (H4 cs l n) (.tup []) (H4 cs ((l.set n (lo v)).set (n + 1) (hi v)) (n + 2))) := by
 refine F_of HasData.h_data_words_1 (Nat.le_of_ble_eq_true rfl) ?_
 have c1 := cnats_set .u32 l n (lo v) (by omega)
 have c2 := cnats_set .u32 (l.set n (lo v)) (n + 1) (hi v) (by simp; omega)
 have e1 : addI .i64 (n : Int) 1 = ((n + 1 : Nat) : Int) := add1' (by omega)
 have e2 : addI .i64 (n : Int) 2 = ((n + 2 : Nat) : Int) := addL (n := 2) (by omega)
 have e3 := shr_hi v hv
 have i1 : ((n : Int) < 16) = True := ltT (by omega)
 have i2 : (((n + 1 : Nat) : Int) < 16) = True := ltT (by omega)
 have j1 : (n + 1 ≤ 16) = True := leTn (by omega)
 have j2 : (n + 1 + 1 ≤ 16) = True := leTn (by omega)
 have j3 : (n ≤ 14) = True := leTn (by omega)
 simp [H4, e1, e2, e3, conv_lo, lo_hi, hl, i1, i2, j1, j3, c1, c2, -Int.natCast_add, -Int.natCast_ediv]
theorem convU (v : Nat) (h : v < 18446744073709551616) : convI .u64 (v : Int) = (v : Int) := by unfold convI; exact IntWalk.u64_in _ ⟨by omega, by omega⟩
theorem or_two (a b : Nat) (ha : a < 4294967296) (hb : b < 4294967296) : orI .u64 (a : Int) (shlI .u64 (b : Int) 32) = ((a + b * 4294967296 : Nat) : Int) := by
 have h1 : shlI .u64 (b : Int) 32 = ((b * 4294967296 : Nat) : Int) := by
  unfold shlI
  have : (min (32 : Int).toNat IntKind.u64.bits) = 32 := by decide
  rw [this]
  rw [show ((b : Int) * 2 ^ 32) = ((b * 4294967296 : Nat) : Int) by omega]
  exact IntWalk.u64_in _ ⟨by omega, by omega⟩
 rw [h1]
 change IntKind.u64.wrap ((BitVec.ofInt 64 (a : Int) ||| BitVec.ofInt 64 ((b * 4294967296 : Nat) : Int)).toNat : Int) = _
 rw [ofInt_nat, ofInt_nat]
 have h2 : (BitVec.ofNat 64 a ||| BitVec.ofNat 64 (b * 4294967296)).toNat = a + b * 4294967296 := by
  rw [BitVec.toNat_or, BitVec.toNat_ofNat, BitVec.toNat_ofNat, Nat.mod_eq_of_lt (by omega), Nat.mod_eq_of_lt (by omega)]
  have := Nat.two_pow_add_eq_or_of_lt (i := 32) (b := a) (by omega) b
  rw [Nat.or_comm, Nat.mul_comm, show (4294967296 : Nat) = 2 ^ 32 from rfl, ← this]
  omega
 rw [h2]
 exact IntWalk.u64_in _ ⟨by omega, by omega⟩
def fillW (d : Da) (i : Nat) : List Nat := (wordsD d).take (4 + 2 * i) ++ zeros (12 - 2 * i)
theorem fillW_len {d : Da} (h : d.args.length = 6) {i : Nat} (hi : i ≤ 6) : (fillW d i).length = 16 := by
 simp [fillW, wordsD_len h]; omega
theorem fillW_get {d : Da} (h : d.args.length = 6) {i : Nat} (hi : i ≤ 6) (j : Nat) : (fillW d i)[j]? = if j < 4 + 2 * i then (wordsD d)[j]? else if j < 16 then some 0 else none := by
 have hl := wordsD_len h
 rw [fillW, List.getElem?_append, List.length_take, hl, List.getElem?_take]
 by_cases h1 : j < 4 + 2 * i
 ·rw [if_pos (by omega), if_pos h1, if_pos h1]
 ·rw [if_neg (by omega), if_neg h1]
  by_cases h2 : j < 16
  ·rw [if_pos h2]; simp [zeros, List.getElem?_replicate]; omega
  ·rw [if_neg h2]; simp [zeros, List.getElem?_replicate]; omega
theorem fillW_step {d : Da} (h : d.args.length = 6) {i : Nat} (hlt : i < 6) : ((fillW d i).set (4 + 2 * i) (lo d.args[i])).set (4 + 2 * i + 1) (hi d.args[i]) = fillW d (i + 1) := by
 have hl := fillW_len h (show i ≤ 6 by omega)
 have hw := flat2_get d.args i (by omega)
 have g0 : (wordsD d)[4 + 2 * i]? = some (lo d.args[i]) := by rw [wordsD, List.getElem?_append_right (by simp)]; simpa using hw.1
 have g1 : (wordsD d)[4 + 2 * i + 1]? = some (hi d.args[i]) := by rw [wordsD, List.getElem?_append_right (by simp; omega)]; simpa [show 4 + 2 * i + 1 - 4 = 2 * i + 1 by omega] using hw.2
 apply List.ext_getElem?
 intro j
 rw [fillW_get h (by omega), List.getElem?_set, List.getElem?_set, List.length_set, hl, fillW_get h (by omega)]
 by_cases e1 : 4 + 2 * i + 1 = j
 ·subst e1
  rw [if_pos rfl, if_pos (by omega), if_pos (by omega), g1]
 ·rw [if_neg e1]
  by_cases e0 : 4 + 2 * i = j
  ·subst e0
   rw [if_pos rfl, if_pos (by omega), if_pos (by omega), g0]
  ·rw [if_neg e0]
   by_cases h1 : j < 4 + 2 * i
   ·rw [if_pos h1, if_pos (by omega)]
   ·rw [if_neg h1]
    by_cases h2 : j < 4 + 2 * (i + 1)
    ·omega
    ·rw [if_neg h2]
theorem fillW_0 (d : Da) (h : d.args.length = 6) : ((((zeros 16).set 0 d.nr).set 1 d.arch).set 2 (lo d.ip)).set 3 (hi d.ip) = fillW d 0 := by
 have : zeros 16 = 0 :: 0 :: 0 :: 0 :: zeros 12 := rfl
 rw [this]
 simp [fillW, wordsD]
theorem fillW_6 (d : Da) (h : d.args.length = 6) : fillW d 6 = wordsD d := by
 simp only [fillW, show 12 - 2 * 6 = 0 from rfl, zeros, List.replicate_zero, List.append_nil]
 exact List.take_of_length_le (by rw [wordsD_len h]; exact Nat.le_refl _)
theorem words_ok [HasData G] (d : Da) (hd : d.ok) : FP G 160 [DV d] (.agg (cnats .u32 (wordsD d))) := by
 obtain ⟨h1, h2, h3, h4, h5⟩ := hd
 refine FP_of HasData.h_data_words (Nat.le_of_ble_eq_true rfl) ?_
 have o := or_two d.nr d.arch h1 h2
 have e0 : lo (d.nr + d.arch * 4294967296) = d.nr := by unfold lo; omega
 have e1 : hi (d.nr + d.arch * 4294967296) = d.arch := by unfold hi; omega
 have p1 := put_ok (G := G) d.cs (zeros 16) 0 (d.nr + d.arch * 4294967296) (by simp) (by decide) (by omega)
 have p2 := put_ok (G := G) d.cs (((zeros 16).set 0 d.nr).set 1 d.arch) 2 d.ip (by simp) (by decide) h3
 rw [e0, e1] at p1
 have ht := take_full (k := .u64) h4
 simp [H4, Da.cs, -Int.natCast_add, -Int.natCast_mul] at p1 p2
 simp (disch := omega) [DV, Da.cs, convU, o, -Int.natCast_add, -Int.natCast_mul]
 refine callV_of p1 (by simp) ?_
 simp [keep_cl, trunc]
 refine callV_of p2 (by simp) ?_
 simp [keep_cl, trunc, h4, ht]
 refine W_up 6 (fun i => [(2, .ptr 1 0), (3, .ptr 2 0), (5, .fn 159 [.ptr 2 0, .ptr 3 0]), (24, .agg (cnats .u64 d.args)), (25, .int .i64 i)])
  (fun i => H4 d.cs (fillW d i) (4 + 2 * i)) (fun _ => True) ?_ ?_
 ·simp [keep_cl, trunc, H4, Da.cs, fillW_0 d h4]
 intro i hi _
 by_cases hlt : i < 6
 ·have p3 := put_ok (G := G) d.cs (fillW d i) (4 + 2 * i) d.args[i] (fillW_len h4 hi) (by omega) (h5 _ (List.getElem_mem _))
  rw [fillW_step h4 hlt] at p3
  have c1 := cnats_get .u64 d.args i (by omega)
  simp [H4, Da.cs, -Int.natCast_add, -Int.natCast_mul] at p3
  simp (disch := omega) [ltT, leTn, h4, c1, H4, Da.cs, -Int.natCast_add, -Int.natCast_mul]
  refine callV_of p3 (by simp) ?_
  simp (disch := omega) [trunc, add1', hlt, keep_cl, h4, show 4 + 2 * (i + 1) = 4 + 2 * i + 2 from by omega, -Int.natCast_add, -Int.natCast_mul]
 ·have hne : i = 6 := by omega
  subst hne
  have hl := wordsD_len h4
  have ht2 := take_full (k := .u32) hl
  simp [H4, fillW_6 d h4, hl, ht2]
def wordS (d : Da) (at' : Nat) : Nat × Bool := if at' % 4 = 0 ∧ at' < 64 then ((wordsD d).getD (at' / 4) 0, true) else (0, false)
theorem there_ok [HasData G] (n : Nat) (hn : n < 4294967296) : FP G 158 [.int .u32 n] (.bool (decide (n % 4 = 0 ∧ n < 64))) := by
 refine FP_of HasData.h_data_there (Nat.le_of_ble_eq_true rfl) ?_
 have hr : remI (n : Int) 4 = ((n % 4 : Nat) : Int) := rem64 (b := 4)
 by_cases h : n % 4 = 0
 ·have lt : ((n : Int) < 64) = (n < 64) := propext (by omega)
  simp [hr, h, lt]
 ·have : ((n % 4 : Nat) : Int) ≠ 0 := by omega
  simp [hr, h, beqF this, -Int.natCast_emod]
theorem Word_ok [HasData G] (d : Da) (n : Nat) (hd : d.ok) (hn : n < 4294967296) : FP G 161 [DV d, .int .u32 n] (.tup [.int .u32 ((wordS d n).1 : Nat), .bool (wordS d n).2]) := by
 refine FP_of HasData.h_data_Word (Nat.le_of_ble_eq_true rfl) ?_
 have hw := words_ok (G := G) d hd
 have ht := take_full (k := .u64) hd.2.2.2.1
 have h6 := hd.2.2.2.1
 simp [DV, Da.cs] at hw ⊢
 refine callP_of (there_ok n hn) ?_
 by_cases h : n % 4 = 0 ∧ n < 64
 ·have hq : quoI .u32 (n : Int) 4 = ((n / 4 : Nat) : Int) := quo32 (b := 4) hn (by decide)
  have hl := wordsD_len h6
  have c := cnats_get .u32 (wordsD d) (n / 4) (by omega)
  have hg : (wordsD d).getD (n / 4) 0 = (wordsD d)[n / 4]'(by omega) := by simp [List.getD, List.getElem?_eq_getElem (show n / 4 < (wordsD d).length by omega)]
  simp [h, h6, ht, wordS, hg]
  refine callP_of hw ?_
  simp (disch := omega) [hq, ltT, leTn, hl, c, -Int.natCast_ediv]
 ·simp [h, wordS]
end Go.Ev
/- Arguments of the statements: instructions, states, records. -/
namespace Go.Ev
open Go Go.RowKit
set_option linter.unusedSimpArgs false
set_option linter.unusedVariables false
def i64R (n : Int) : Prop := -9223372036854775808 ≤ n ∧ n ≤ 9223372036854775807
def In4.ok (x : In4) : Prop := (i64R x.op ∧ i64R x.jt ∧ i64R x.jf) ∧ x.k < 4294967296
theorem i64_wf {n : Int} (h : (Lit.int .i64 n).wf = true) : i64R n := by
 simp [Lit.wf, IntKind.min, IntKind.max, IntKind.signed, IntKind.bits] at h
 unfold i64R
 omega
theorem ins_cells {cs : List V} (h : HasTy (.agg [.int .i64, .int .i64, .int .i64, .int .u32]) cs) : ∃ x : In4, cs = x.cs ∧ x.ok := by
 simp only [HasTy, HasTys] at h
 obtain ⟨a, _, rfl, ⟨n1, rfl, w1⟩, b, _, rfl, ⟨n2, rfl, w2⟩, c, _, rfl, ⟨n3, rfl, w3⟩, d, _, rfl, ⟨n4, rfl, w4⟩, rfl⟩ := h
 have w4 := u32_wf w4
 refine ⟨⟨n1, n2, n3, n4.toNat⟩, ?_, ⟨i64_wf w1, i64_wf w2, i64_wf w3⟩, by simp only; omega⟩
 simp [In4.cs, Int.toNat_of_nonneg w4.1]
theorem flt_list : ∀ {es : List (List V)}, (∀ x ∈ es, HasTy (.agg [.int .i64, .int .i64, .int .i64, .int .u32]) x) → ∃ f : List In4, es = IL f ∧ ∀ x ∈ f, x.ok
 | [], _ => ⟨[], rfl, by simp⟩
 | e :: es, h => by
  obtain ⟨x, rfl, hx⟩ := ins_cells (h e (by simp))
  obtain ⟨f, rfl, hf⟩ := flt_list (es := es) fun y hy => h y (by simp [hy])
  refine ⟨x :: f, by simp [IL], fun y hy => ?_⟩
  simp only [List.mem_cons] at hy
  rcases hy with rfl | hy
  ·exact hx
  ·exact hf y hy
theorem flt_arg {v : V} (h : ArgIs (.sl (.agg [.int .i64, .int .i64, .int .i64, .int .u32])) v) : ∃ f : List In4, v = FL f ∧ f.length ≤ maxLen ∧ ∀ x ∈ f, x.ok := by
 have h : HasTy (.sl (.agg [.int .i64, .int .i64, .int .i64, .int .u32])) [v] := h
 rw [HasTy] at h
 obtain ⟨es, hes, hl, he⟩ := h
 obtain ⟨f, rfl, hf⟩ := flt_list he
 simp only [List.cons.injEq, and_true] at hes
 exact ⟨f, by rw [hes]; rfl, by simpa using hl, hf⟩
end Go.Ev
/- Simplified code of Go functions, by scode.py. -/
namespace Go.Ev
/-- hurdle/search.numbers -/
def c_search_numbers : SFn := ⟨92,.seq (.region 0 [oS 2 (.mv (.c (.vs [] .full)))]) (.seq (.region 0 [oS 3 (.mv (.c (.vs [] .full)))]) (.seq (.seq (.region 0 [mM 18 0,oS 19 (.len false (.t 18)),oS 20 (.mv (kI 0))]) (.seq (.give 3 none) (.block 0 (.loop [0,3,18,19,20] (.seq (.region 0 [oS 21 (.bin .lss (.t 20) (.t 19))]) (.seq (.cond (.t 21) (.skip) (.exit 0)) (.seq (.block 1 (.seq (.region 1 [oS 22 (.iaddr 4 (.t 18) (.t 20)),oS 23 (.load 4 true false (.t 22)),oS 5 (.alloc 0 ([.int .i64 0,.int .i64 0,.int .i64 0,.int .u32 0])),oN (.store 4 (.t 5) (.t 23))]) (.seq (.region 0 [oS 25 (.load 4 true false (.t 5)),oS 26 (.pcall 141 [.t 25]),mM 24 26,eX 27 0 24,eX 28 1 24,eX 29 2 24,mM 6 27,mM 7 28,mM 8 29]) (.seq (.keep [0,3,5,7,8,18,19,20]) (.seq (.region 0 [mM 30 8,mM 31 30,oT 32 31 (.mv (.t 7)),oT 33 31 (.un .not (.t 32)),oS 34 (.pick (.t 31) (.t 33) (.c (.bool false))),mM 35 34,oF 36 35 (.faddr 0 (.t 5)),oF 37 35 (.load 1 false false (.t 36)),oF 38 35 (.bin .eql (.t 37) (kI 0)),oS 39 (.pick (.t 35) (.c (.bool true)) (.t 38)),mM 40 39,oF 41 40 (.faddr 0 (.t 5)),oF 42 40 (.load 1 false false (.t 41)),oF 43 40 (.bin .eql (.t 42) (kI 1)),oS 44 (.pick (.t 40) (.c (.bool true)) (.t 43))]) (.seq (.keep [0,3,5,18,19,20,44]) (.cond (.t 44) (.region 1 [mM 45 3,fA 46 3 5,lD 47 46,oS 48 (.bslice 1 ([.int .u32 0]) [(0,.t 47)]),oS 49 (.app 0 1 4 (.t 45) (.t 48)),mM 3 49]) (.skip)))))))) (.seq (.keep [0,3,18,19,20]) (.region 0 [oS 50 (.bin .add (.t 20) (kI 1)),mM 20 50]))))))))) (.seq (.keep [0,3])
  (.seq (.region 0 [oS 51 (.kcall false 256 []),mM 9 51]) (.seq (.give 51 (some 0)) (.seq (.region 1 [mM 53 9,mM 54 0,oS 55 (.scall 296 [.t 53,.t 54]),mM 52 55,eX 56 0 52,eX 57 1 52,oS 10 (.alloc 0 ([.int .i64 0,.int .i64 0,.int .i64 0,.int .i64 0,.int .i64 0,.int .i64 0,.int .i64 0,.int .i64 0,.int .i64 0,.int .i64 0,.int .i64 0,.int .i64 0,.int .i64 0,.int .i64 0,.int .i64 0,.int .i64 0,.int .i64 0,.int .i64 0,.vs [] .full])),oN (.store 19 (.t 10) (.t 56)),mM 11 57]) (.seq (.keep [3,9,10]) (.seq (.seq (.region 0 [mM 59 9,fA 60 0 10,oS 61 (.iaddrA 18 1 (.t 60) (kI 0)),lD 62 61,oS 63 (.scall 266 [.t 59,.t 62]),mM 58 63,eX 64 0 58,eX 65 1 58,mM 12 64,mM 13 65]) (.seq (.keep [3,9,10,12,13]) (.seq (.region 0 [mM 66 13]) (.cond (.t 66) (.region 1 [mM 67 3,mM 68 12,oS 69 (.bslice 1 ([.int .u32 0]) [(0,.t 68)]),oS 70 (.app 0 1 4 (.t 67) (.t 69)),mM 3 70]) (.skip))))) (.seq (.keep [3,9,10]) (.seq (.seq (.region 0 [oS 71 (.build ([.int .u32 0,.int .u32 0]) [(0,1,.c (.int .u32 0)),(1,1,.c (.int .u32 4294967295))]),oS 72 (.mv (kI 0))]) (.seq (.give 3 none) (.block 2 (.loop [3,9,10,71,72] (.seq (.region 0 [oS 73 (.bin .lss (.t 72) (kI 2))]) (.seq (.cond (.t 73) (.skip) (.exit 2)) (.seq (.block 3 (.seq (.region 0 [oS 74 (.idx 2 1 false (.t 71) (.t 72)),mM 15 74]) (.seq (.region 0 [mM 76 9,fA 77 0 10,oS 78 (.iaddrA 18 1 (.t 77) (kI 0)),lD 79 78,mM 80 15,oS 81 (.build (rep 34 (.int .u32 0)) [(0,1,.t 80)]),oS 82 (.scall 276 [.t 76,.t 79,.t 81]),mM 75 82,eX 83 0 75,eX 84 1 75,mM 16 83,
 mM 17 84]) (.seq (.keep [3,9,10,16,17,71,72]) (.seq (.region 0 [mM 85 17]) (.cond (.t 85) (.region 1 [mM 86 3,mM 87 16,oS 88 (.bslice 1 ([.int .u32 0]) [(0,.t 87)]),oS 89 (.app 0 1 4 (.t 86) (.t 88)),mM 3 89]) (.skip))))))) (.seq (.keep [3,9,10,71,72]) (.region 0 [oS 90 (.bin .add (.t 72) (kI 1)),mM 72 90]))))))))) (.seq (.keep [3]) (.seq (.region 0 [mM 91 3,mM 2 91]) (.ret))))))))))))),[.tmp 2]⟩
/-- hurdle/search.Letters$1 -/
def c_search_Letters_1 : SFn := ⟨19,.seq (.region 1 [oS 3 (.box 0 (.t 0))]) (.seq (.region 0 [lD 4 1,oS 5 (.load 4 true false (.t 3)),oS 6 (.mget (.row ([.int,.int,.int,.int])) false (.bool false) (.t 4) (.t 5)),oS 7 (.un .not (.t 6)),mM 8 7,oT 9 8 (.load 4 true false (.t 3)),oT 10 8 (.bslice 1 ([.int .i64 0,.int .i64 0,.int .i64 0,.int .u32 0]) [(0,.t 9)]),oT 11 8 (.pcall 202 [.t 10]),oS 12 (.pick (.t 8) (.t 11) (.c (.bool false)))]) (.seq (.keep [1,2,3,12]) (.cond (.t 12) (.seq (.region 0 [lD 13 1,oS 14 (.load 4 true false (.t 3)),oN (.mput (.row ([.int,.int,.int,.int])) (.t 13) (.t 14) (.c (.bool true)))]) (.region 1 [lD 15 2,oS 16 (.load 4 true false (.t 3)),oS 17 (.bslice 1 ([.int .i64 0,.int .i64 0,.int .i64 0,.int .u32 0]) [(0,.t 16)]),oS 18 (.app 0 4 32 (.t 15) (.t 17)),oN (.store 1 (.t 2) (.t 18))])) (.skip)))),[]⟩
/-- hurdle/search.Letters -/
def c_search_Letters : SFn := ⟨53,.seq (.region 0 [oS 2 (.mv (.c (.vs [] .full))),oS 3 (.mv (kI 0))]) (.seq (.seq (.region 0 [mM 13 0,oS 14 (.pcall 202 [.t 13]),oS 15 (.un .not (.t 14))]) (.cond (.t 15) (.seq (.region 0 [oS 2 (.mv (.c (.vs [] .full))),oS 3 (.mv (kI 1))]) (.ret)) (.skip))) (.seq (.keep [0]) (.seq (.region 1 [oS 4 (.alloc 0 ([.vs [] .full]))]) (.seq (.region 2 [oS 16 (.mkmap 0),oS 5 (.alloc 1 ([.nilm])),oN (.store 1 (.t 5) (.t 16))]) (.seq (.region 0 [oS 17 (.mkfn 327 [.t 5,.t 4]),mM 6 17]) (.seq (.seq (.region 0 [mM 18 0,oS 19 (.len false (.t 18)),oS 20 (.mv (kI 0))]) (.seq (.give 4 (some 0)) (.block 0 (.loop [0,4,6,18,19,20] (.seq (.region 0 [oS 21 (.bin .lss (.t 20) (.t 19))]) (.seq (.cond (.t 21) (.skip) (.exit 0)) (.seq (.block 1 (.seq (.region 1 [oS 22 (.iaddr 4 (.t 18) (.t 20)),oS 23 (.load 4 true false (.t 22)),oS 8 (.alloc 0 ([.int .i64 0,.int .i64 0,.int .i64 0,.int .u32 0])),oN (.store 4 (.t 8) (.t 23))]) (.region 0 [mM 24 6,oS 25 (.load 4 true false (.t 8)),oS 26 (.vcall false (.t 24) [.t 25])]))) (.seq (.keep [0,4,6,18,19,20]) (.region 0 [oS 27 (.bin .add (.t 20) (kI 1)),mM 20 27]))))))))) (.seq (.keep [0,4,6]) (.seq (.region 0 [mM 28 6,oS 29 (.build ([.int .i64 0,.int .i64 0,.int .i64 0,.int .u32 0]) [(0,1,.c (.int .i64 7))]),oS 30 (.vcall false (.t 28) [.t 29])]) (.seq (.keep [0,4,6]) (.seq (.region 0 [mM 31 6,oS 32 (.build ([.int .i64 0,.int .i64 0,.int .i64 0,.int .u32 0]) [(0,1,.c (.int .i64 135))]),oS 33 (.vcall false (.t 31) [.t 32])]) (.seq (.keep [0,4,6]) (.seq
  (.seq (.region 0 [mM 34 0,oS 35 (.pcall 326 [.t 34]),oS 36 (.len false (.t 35)),oS 37 (.mv (kI 0))]) (.seq (.give 4 (some 0)) (.block 2 (.loop [4,6,35,36,37] (.seq (.region 0 [oS 38 (.bin .lss (.t 37) (.t 36))]) (.seq (.cond (.t 38) (.skip) (.exit 2)) (.seq (.block 3 (.seq (.region 0 [oS 39 (.iaddr 1 (.t 35) (.t 37)),lD 40 39,mM 10 40]) (.seq (.region 0 [oS 41 (.build ([.int .i64 0,.int .i64 0,.int .i64 0,.int .i64 0,.int .i64 0,.int .i64 0]) [(0,1,.c (.int .i64 0)),(1,1,.c (.int .i64 1)),(2,1,.c (.int .i64 4)),(3,1,.c (.int .i64 84)),(4,1,.c (.int .i64 68)),(5,1,.c (.int .i64 164))]),oS 42 (.mv (kI 0))]) (.seq (.give 4 (some 0)) (.block 4 (.loop [4,6,10,35,36,37,41,42] (.seq (.region 0 [oS 43 (.bin .lss (.t 42) (kI 6))]) (.seq (.cond (.t 43) (.skip) (.exit 4)) (.seq (.block 5 (.seq (.region 0 [oS 44 (.idx 6 1 false (.t 41) (.t 42)),mM 12 44]) (.region 0 [mM 45 6,mM 46 12,mM 47 10,oS 48 (.build ([.int .i64 0,.int .i64 0,.int .i64 0,.int .u32 0]) [(0,1,.t 46),(3,1,.t 47)]),oS 49 (.vcall false (.t 45) [.t 48])]))) (.seq (.keep [4,6,10,35,36,37,41,42]) (.region 0 [oS 50 (.bin .add (.t 42) (kI 1)),mM 42 50]))))))))))) (.seq (.keep [4,6,35,36,37]) (.region 0 [oS 51 (.bin .add (.t 37) (kI 1)),mM 37 51]))))))))) (.seq (.keep [4]) (.seq (.region 0 [lD 52 4,mM 2 52,oS 3 (.mv (kI 0))]) (.ret))))))))))))))),[.tmp 2,.tmp 3]⟩
/-- hurdle/search.candidates$1 -/
def c_search_candidates_1 : SFn := ⟨65,.seq (.seq (.region 0 [lD 11 1,oS 12 (.len false (.t 11)),oS 13 (.bin .eql (.t 12) (kI 0)),mM 14 13,oF 15 14 (.mv (.t 0)),oF 16 14 (.vcall false (.t 15) [.c (.int .i64 0),.c (.vs [] .full)]),oF 17 14 (.un .not (.t 16)),oS 18 (.pick (.t 14) (.c (.bool true)) (.t 17)),mM 19 18,oF 20 19 (.load 1 false false (.t 1)),oF 21 19 (.len false (.t 20)),oF 22 19 (.bin .eql (.t 21) (kI 1)),oS 23 (.pick (.t 19) (.c (.bool true)) (.t 22))]) (.seq (.keep [0,1,2,23]) (.cond (.t 23) (.ret) (.skip)))) (.seq (.keep [0,1,2]) (.seq (.region 0 [oS 4 (.mv (kI 1))]) (.seq (.seq (.region 0 [lD 24 2,oS 25 (.len false (.t 24)),oS 26 (.mv (kI 0))]) (.block 0 (.loop [0,1,2,4,24,25,26] (.seq (.region 0 [oS 27 (.bin .lss (.t 26) (.t 25))]) (.seq (.cond (.t 27) (.skip) (.exit 0)) (.seq (.block 1 (.seq (.region 1 [oS 28 (.iaddr 4 (.t 24) (.t 26)),oS 29 (.load 4 true false (.t 28)),oS 6 (.alloc 0 ([.int .i64 0,.int .i64 0,.int .i64 0,.int .u32 0])),oN (.store 4 (.t 6) (.t 29))]) (.seq (.seq (.region 0 [mM 30 0,mM 31 4,oS 32 (.load 4 true false (.t 6)),oS 33 (.bslice 1 ([.int .i64 0,.int .i64 0,.int .i64 0,.int .u32 0]) [(0,.t 32)]),oS 34 (.vcall false (.t 30) [.t 31,.t 33]),oS 35 (.un .not (.t 34))]) (.seq (.keep [0,1,2,4,24,25,26,35]) (.cond (.t 35) (.ret) (.skip)))) (.seq (.keep [0,1,2,4,24,25,26]) (.region 0 [mM 36 4,oS 37 (.bin .add (.t 36) (kI 1)),mM 4 37]))))) (.seq (.keep [0,1,2,4,24,25,26]) (.region 0 [oS 38 (.bin .add (.t 26) (kI 1)),mM 26 38])))))))) (.seq (.keep [0,1,2,4]) (.seq
  (.seq (.region 0 [lD 39 1,oS 40 (.len false (.t 39)),oS 41 (.bin .eql (.t 40) (kI 2))]) (.cond (.t 41) (.ret) (.skip))) (.seq (.keep [0,2,4]) (.seq (.region 0 [lD 42 2,oS 43 (.len false (.t 42)),oS 44 (.mv (kI 0))]) (.block 2 (.loop [0,2,4,42,43,44] (.seq (.region 0 [oS 45 (.bin .lss (.t 44) (.t 43))]) (.seq (.cond (.t 45) (.skip) (.exit 2)) (.seq (.block 3 (.seq (.region 1 [oS 46 (.iaddr 4 (.t 42) (.t 44)),oS 47 (.load 4 true false (.t 46)),oS 8 (.alloc 0 ([.int .i64 0,.int .i64 0,.int .i64 0,.int .u32 0])),oN (.store 4 (.t 8) (.t 47))]) (.seq (.region 0 [lD 48 2,oS 49 (.len false (.t 48)),oS 50 (.mv (kI 0))]) (.block 4 (.loop [0,2,4,8,42,43,44,48,49,50] (.seq (.region 0 [oS 51 (.bin .lss (.t 50) (.t 49))]) (.seq (.cond (.t 51) (.skip) (.exit 4)) (.seq (.block 5 (.seq (.region 1 [oS 52 (.iaddr 4 (.t 48) (.t 50)),oS 53 (.load 4 true false (.t 52)),oS 10 (.alloc 0 ([.int .i64 0,.int .i64 0,.int .i64 0,.int .u32 0])),oN (.store 4 (.t 10) (.t 53))]) (.seq (.seq (.region 0 [mM 54 0,mM 55 4,oS 56 (.load 4 true false (.t 8)),oS 57 (.load 4 true false (.t 10)),oS 58 (.bslice 2 ([.int .i64 0,.int .i64 0,.int .i64 0,.int .u32 0]) [(0,.t 56),(1,.t 57)]),oS 59 (.vcall false (.t 54) [.t 55,.t 58]),oS 60 (.un .not (.t 59))]) (.seq (.keep [0,2,4,8,42,43,44,48,49,50,60]) (.cond (.t 60) (.ret) (.skip)))) (.seq (.keep [0,2,4,8,42,43,44,48,49,50]) (.region 0 [mM 61 4,oS 62 (.bin .add (.t 61) (kI 1)),mM 4 62])))))
  (.seq (.keep [0,2,4,8,42,43,44,48,49,50]) (.region 0 [oS 63 (.bin .add (.t 50) (kI 1)),mM 50 63])))))))))) (.seq (.keep [0,2,4,42,43,44]) (.region 0 [oS 64 (.bin .add (.t 44) (kI 1)),mM 44 64])))))))))))))),[]⟩
/-- hurdle/search.candidates -/
def c_search_candidates : SFn := ⟨6,.seq (.region 2 [oS 2 (.box 0 (.t 0)),oS 3 (.box 1 (.t 1)),oS 4 (.mv (.c (.nilf)))]) (.seq (.region 0 [oS 5 (.mkfn 328 [.t 2,.t 3]),mM 4 5]) (.ret)),[.tmp 4]⟩
/-- hurdle/search.Candidate -/
def c_search_Candidate : SFn := ⟨28,.seq (.region 4 [oS 3 (.box 0 (.t 1)),oS 4 (.alloc 1 ([.vs [] .full])),oS 5 (.alloc 2 ([.bool false])),oS 6 (.alloc 3 ([.int .i64 0]))]) (.seq (.region 0 [mM 12 0,oS 13 (.pcall 330 [.t 12]),mM 11 13,eX 14 0 11,eX 15 1 11,mM 7 14,mM 8 15]) (.seq (.keep [0,3,4,5,6,7,8]) (.seq (.seq (.region 0 [mM 16 8,oS 17 (.bin .neq (.t 16) (kI 0))]) (.cond (.t 17) (.seq (.region 0 [mM 18 8,oN (.store 1 (.t 4) (.c (.vs [] .full))),oN (.store 1 (.t 5) (.c (.bool false))),oN (.store 1 (.t 6) (.t 18))]) (.ret)) (.skip))) (.seq (.keep [0,3,4,5,6,7]) (.seq (.seq (.region 0 [mM 19 0,mM 20 7,oS 21 (.kcall false 329 [.t 19,.t 20])]) (.block 0 (.rangeF (.t 21) [3,4,5,6] [22,23] (.seq (.region 0 [mM 9 22]) (.region 0 [mM 10 23])) (.block 1 (.seq (.region 0 [mM 24 9,lD 25 3,oS 26 (.bin .eql (.t 24) (.t 25))]) (.cond (.t 26) (.seq (.region 0 [mM 27 10,oN (.store 1 (.t 4) (.t 27)),oN (.store 1 (.t 5) (.c (.bool true))),oN (.store 1 (.t 6) (kI 0))]) (.ret)) (.skip))))))) (.seq (.keep [4,5,6]) (.seq (.region 0 [oN (.store 1 (.t 4) (.c (.vs [] .full))),oN (.store 1 (.t 5) (.c (.bool false))),oN (.store 1 (.t 6) (kI 0))]) (.ret)))))))),[.cell 4 1 false,.cell 5 1 false,.cell 6 1 false]⟩
/-- hurdle/search.Find -/
def c_search_Find : SFn := ⟨42,.seq (.region 6 [oS 3 (.box 0 (.t 0)),oS 4 (.box 1 (.t 1)),oS 5 (.box 2 (.t 2)),oS 6 (.alloc 3 ([.vs [] .full])),oS 7 (.alloc 4 ([.bool false])),oS 8 (.alloc 5 ([.int .i64 0]))]) (.seq (.region 0 [lD 16 3,oS 17 (.pcall 330 [.t 16]),mM 15 17,eX 18 0 15,eX 19 1 15,mM 9 18,mM 10 19]) (.seq (.keep [3,4,5,6,7,8,9,10]) (.seq (.seq (.region 0 [mM 20 10,oS 21 (.bin .neq (.t 20) (kI 0))]) (.cond (.t 21) (.seq (.region 0 [mM 22 10,oN (.store 1 (.t 6) (.c (.vs [] .full))),oN (.store 1 (.t 7) (.c (.bool false))),oN (.store 1 (.t 8) (.t 22))]) (.ret)) (.skip))) (.seq (.keep [3,4,5,6,7,8,9]) (.seq (.seq (.region 0 [lD 23 3,mM 24 9,oS 25 (.kcall false 329 [.t 23,.t 24])]) (.block 0 (.rangeF (.t 25) [3,4,5,6,7,8] [26,27] (.seq (.region 0 [mM 11 26]) (.region 0 [mM 12 27])) (.block 1 (.seq (.seq (.region 0 [mM 28 11,lD 29 5,oS 30 (.bin .geq (.t 28) (.t 29))]) (.cond (.t 30) (.exit 0) (.skip))) (.seq (.keep [3,4,6,7,8,12]) (.seq (.region 1 [lD 32 3,mM 33 12,lD 34 4,oS 35 (.pcall 312 [.t 32,.t 33,.t 34]),mM 31 35,eX 36 0 31,eX 37 1 31,oS 13 (.alloc 0 ([.int .i64 0] ++ rep 20 (.int .u32 0) ++ rep 7 (.int .u64 0))),oN (.store 28 (.t 13) (.t 36)),mM 14 37]) (.seq (.keep [6,7,8,12,13]) (.seq (.region 0 [fA 38 0 13,lD 39 38,oS 40 (.bin .eql (.t 39) (kI 0))]) (.cond (.t 40) (.seq (.region 0 [mM 41 12,oN (.store 1 (.t 6) (.t 41)),oN (.store 1 (.t 7) (.c (.bool true))),oN (.store 1 (.t 8) (kI 0))]) (.ret)) (.skip))))))))))) (.seq (.keep [6,7,8])
  (.seq (.region 0 [oN (.store 1 (.t 6) (.c (.vs [] .full))),oN (.store 1 (.t 7) (.c (.bool false))),oN (.store 1 (.t 8) (kI 0))]) (.ret)))))))),[.cell 6 1 false,.cell 7 1 false,.cell 8 1 false]⟩
/-- hurdle/hurdleref19.own -/
def c_hurdleref19_own : SFn := ⟨53,.seq (.region 0 [oS 2 (.mv (.c (.vs [] .full)))]) (.seq (.region 0 [oS 3 (.mv (.c (.vs [] .full)))]) (.seq (.seq (.region 0 [oS 4 (.mv (kI 0))]) (.seq (.give 3 none) (.block 0 (.loop [0,3,4] (.seq (.seq (.region 0 [mM 8 4,mM 9 0,oS 10 (.len false (.t 9)),oS 11 (.bin .lss (.t 8) (.t 10))]) (.seq (.keep [0,3,4,11]) (.cond (.t 11) (.skip) (.exit 0)))) (.seq (.keep [0,3,4]) (.seq (.block 1 (.seq (.region 0 [mM 15 0,mM 16 4,oS 17 (.iaddr 4 (.t 15) (.t 16)),oS 18 (.load 4 true false (.t 17)),oS 19 (.pcall 179 [.t 18]),mM 14 19,eX 20 0 14,eX 21 1 14,eX 22 2 14,mM 5 20,mM 6 21,mM 7 22]) (.seq (.keep [0,3,4,6,7]) (.seq (.region 0 [mM 23 7,mM 24 23,oT 25 24 (.mv (.t 6)),oT 26 24 (.un .not (.t 25)),oS 27 (.pick (.t 24) (.t 26) (.c (.bool false))),mM 28 27,oF 29 28 (.mv (.t 0)),oF 30 28 (.mv (.t 4)),oF 31 28 (.iaddr 4 (.t 29) (.t 30)),oF 32 28 (.faddr 0 (.t 31)),oF 33 28 (.load 1 false false (.t 32)),oF 34 28 (.bin .eql (.t 33) (kI 0)),oS 35 (.pick (.t 28) (.c (.bool true)) (.t 34)),mM 36 35,oF 37 36 (.mv (.t 0)),oF 38 36 (.mv (.t 4)),oF 39 36 (.iaddr 4 (.t 37) (.t 38)),oF 40 36 (.faddr 0 (.t 39)),oF 41 36 (.load 1 false false (.t 40)),oF 42 36 (.bin .eql (.t 41) (kI 1)),oS 43 (.pick (.t 36) (.c (.bool true)) (.t 42))]) (.seq (.keep [0,3,4,43]) (.cond (.t 43) (.region 1 [mM 44 3,mM 45 0,mM 46 4,oS 47 (.iaddr 4 (.t 45) (.t 46)),fA 48 3 47,lD 49 48,oS 50 (.bslice 1 ([.int .u32 0]) [(0,.t 49)]),oS 51 (.app 0 1 4 (.t 44) (.t 50)),mM 3 51]) (.skip)))))))
  (.seq (.keep [0,3,4]) (.region 0 [mM 12 4,oS 13 (.bin .add (.t 12) (kI 1)),mM 4 13]))))))))) (.seq (.keep [3]) (.seq (.region 0 [mM 52 3,mM 2 52]) (.ret))))),[.tmp 2]⟩
/-- hurdle/hurdleref19.with -/
def c_hurdleref19_with : SFn := ⟨30,.seq (.region 1 [oS 3 (.box 0 (.t 1)),oS 4 (.mv (.c (.vs [] .full)))]) (.seq (.seq (.region 0 [oS 5 (.mv (kI 0))]) (.block 0 (.loop [0,3,5] (.seq (.seq (.region 0 [mM 6 5,mM 7 0,oS 8 (.len false (.t 7)),oS 9 (.bin .lss (.t 6) (.t 8))]) (.seq (.keep [0,3,5,9]) (.cond (.t 9) (.skip) (.exit 0)))) (.seq (.keep [0,3,5]) (.seq (.block 1 (.seq (.region 0 [mM 12 0,mM 13 5,oS 14 (.iaddr 4 (.t 12) (.t 13)),oS 15 (.load 4 true true (.t 14)),oS 16 (.load 4 true true (.t 3)),oS 17 (.aeq ([.int,.int,.int,.int]) false (.t 15) (.t 16))]) (.seq (.keep [0,3,5,17]) (.cond (.t 17) (.seq (.region 0 [mM 18 0,mM 4 18]) (.ret)) (.skip))))) (.seq (.keep [0,3,5]) (.region 0 [mM 10 5,oS 11 (.bin .add (.t 10) (kI 1)),mM 5 11])))))))) (.seq (.keep [0,3]) (.seq (.seq (.region 0 [oS 19 (.load 4 true false (.t 3)),oS 20 (.bslice 1 ([.int .i64 0,.int .i64 0,.int .i64 0,.int .u32 0]) [(0,.t 19)]),oS 21 (.pcall 203 [.t 20]),oS 22 (.un .not (.t 21))]) (.seq (.keep [0,3,22]) (.cond (.t 22) (.seq (.region 0 [mM 23 0,mM 4 23]) (.ret)) (.skip)))) (.seq (.keep [0,3]) (.seq (.region 2 [oS 24 (.bslice 0 ([.int .i64 0,.int .i64 0,.int .i64 0,.int .u32 0]) []),mM 25 0,oS 26 (.app 0 4 32 (.t 24) (.t 25)),oS 27 (.load 4 true true (.t 3)),oS 28 (.bslice 1 ([.int .i64 0,.int .i64 0,.int .i64 0,.int .u32 0]) [(0,.t 27)]),oS 29 (.app 1 4 32 (.t 26) (.t 28)),mM 4 29]) (.ret)))))),[.tmp 4]⟩
/-- hurdle/hurdleref19.Letters -/
def c_hurdleref19_Letters : SFn := ⟨57,.seq (.region 0 [oS 4 (.mv (.c (.vs [] .full)))]) (.seq (.region 0 [oS 5 (.mv (.c (.vs [] .full)))]) (.seq (.seq (.region 0 [oS 6 (.mv (kI 0))]) (.block 0 (.loop [0,1,5,6] (.seq (.seq (.region 0 [mM 11 6,mM 12 0,oS 13 (.len false (.t 12)),oS 14 (.bin .lss (.t 11) (.t 13))]) (.seq (.keep [0,1,5,6,14]) (.cond (.t 14) (.skip) (.exit 0)))) (.seq (.keep [0,1,5,6]) (.seq (.block 1 (.region 0 [mM 17 5,mM 18 0,mM 19 6,oS 20 (.iaddr 4 (.t 18) (.t 19)),oS 21 (.load 4 true false (.t 20)),oS 22 (.pcall 331 [.t 17,.t 21]),mM 5 22])) (.seq (.keep [0,1,5,6]) (.region 0 [mM 15 6,oS 16 (.bin .add (.t 15) (kI 1)),mM 6 16])))))))) (.seq (.keep [0,1,5]) (.seq (.region 0 [mM 23 5,oS 24 (.build ([.int .i64 0,.int .i64 0,.int .i64 0,.int .u32 0]) [(0,1,.c (.int .i64 7))]),oS 25 (.pcall 331 [.t 23,.t 24]),oS 26 (.build ([.int .i64 0,.int .i64 0,.int .i64 0,.int .u32 0]) [(0,1,.c (.int .i64 135))]),oS 27 (.pcall 331 [.t 25,.t 26]),mM 5 27]) (.seq (.keep [0,1,5]) (.seq (.region 1 [mM 28 0,oS 29 (.kcall true 332 [.t 28]),mM 30 1,oS 31 (.app 0 1 4 (.t 29) (.t 30)),mM 7 31]) (.seq (.keep [5,7]) (.seq (.region 0 [oS 32 (.bslice 6 ([.int .i64 0]) [(0,.c (.int .i64 0)),(1,.c (.int .i64 1)),(2,.c (.int .i64 4)),(3,.c (.int .i64 84)),(4,.c (.int .i64 68)),(5,.c (.int .i64 164))]),mM 8 32]) (.seq (.seq (.region 0 [oS 9 (.mv (kI 0))]) (.block 2 (.loop [5,7,8,9] (.seq (.seq (.region 0 [mM 33 9,mM 34 7,oS 35 (.len false (.t 34)),oS 36 (.bin .lss (.t 33) (.t 35))])
  (.seq (.keep [5,7,8,9,36]) (.cond (.t 36) (.skip) (.exit 2)))) (.seq (.keep [5,7,8,9]) (.seq (.block 3 (.seq (.region 0 [oS 10 (.mv (kI 0))]) (.block 4 (.loop [5,7,8,9,10] (.seq (.seq (.region 0 [mM 39 10,mM 40 8,oS 41 (.len false (.t 40)),oS 42 (.bin .lss (.t 39) (.t 41))]) (.seq (.keep [5,7,8,9,10,42]) (.cond (.t 42) (.skip) (.exit 4)))) (.seq (.keep [5,7,8,9,10]) (.seq (.block 5 (.region 0 [mM 45 5,mM 46 8,mM 47 10,oS 48 (.iaddr 1 (.t 46) (.t 47)),lE 49 48,mM 50 7,mM 51 9,oS 52 (.iaddr 1 (.t 50) (.t 51)),lE 53 52,oS 54 (.build ([.int .i64 0,.int .i64 0,.int .i64 0,.int .u32 0]) [(0,1,.t 49),(3,1,.t 53)]),oS 55 (.pcall 331 [.t 45,.t 54]),mM 5 55])) (.seq (.keep [5,7,8,9,10]) (.region 0 [mM 43 10,oS 44 (.bin .add (.t 43) (kI 1)),mM 10 44]))))))))) (.seq (.keep [5,7,8,9]) (.region 0 [mM 37 9,oS 38 (.bin .add (.t 37) (kI 1)),mM 9 38])))))))) (.seq (.keep [5]) (.seq (.region 0 [mM 56 5,mM 4 56]) (.ret)))))))))))),[.tmp 4]⟩
/-- hurdle/hurdleref19.Ends -/
def c_hurdleref19_Ends : SFn := ⟨22,.seq (.region 0 [oS 4 (.mv (.c (.int .u32 0))),oS 5 (.mv (.c (.bool false)))]) (.seq (.region 1 [mM 9 0,mM 10 1,oS 11 (.build (rep 18 (.int .u32 0)) [(0,1,.t 10)]),oS 12 (.build ([.int .u32 0,.int .u32 0,.int .u64 0,.int .u64 0,.int .u64 0,.int .u64 0,.int .u64 0,.int .u64 0,.int .u64 0]) []),oS 13 (.pcall 297 [.t 9,.t 11,.t 12]),mM 8 13,eX 14 0 8,eX 15 1 8,oS 6 (.alloc 0 (rep 18 (.int .u32 0))),oN (.store 18 (.t 6) (.t 14)),mM 7 15]) (.seq (.keep [0,6,7]) (.seq (.region 0 [fA 16 0 6,lD 17 16,mM 18 7,mM 19 0,oS 20 (.len false (.t 19)),oS 21 (.bin .eql (.t 18) (.t 20)),mM 4 17,mM 5 21]) (.ret)))),[.tmp 4,.tmp 5]⟩
/-- hurdle/hurdleref19.Candidate -/
def c_hurdleref19_Candidate : SFn := ⟨69,.seq (.region 0 [oS 6 (.mv (.c (.vs [] .full))),oS 7 (.mv (.c (.bool false)))]) (.seq (.region 0 [mM 10 1,oS 11 (.len false (.t 10)),mM 8 11]) (.seq (.seq (.region 0 [mM 12 2,oS 13 (.bin .eql (.t 12) (kI 0)),mM 14 13,oT 15 14 (.mv (.t 0)),oT 16 14 (.len false (.t 15)),oT 17 14 (.bin .gtr (.t 16) (kI 0)),oS 18 (.pick (.t 14) (.t 17) (.c (.bool false)))]) (.seq (.keep [0,1,2,8,18]) (.cond (.t 18) (.seq (.region 0 [oS 6 (.mv (.c (.vs [] .full))),oS 7 (.mv (.c (.bool true)))]) (.ret)) (.skip)))) (.seq (.keep [0,1,2,8]) (.seq (.seq (.region 0 [mM 19 2,oS 20 (.bin .geq (.t 19) (kI 1)),mM 21 20,oT 22 21 (.mv (.t 2)),oT 23 21 (.mv (.t 8)),oT 24 21 (.bin .leq (.t 22) (.t 23)),oS 25 (.pick (.t 21) (.t 24) (.c (.bool false))),mM 26 25,oT 27 26 (.mv (.t 0)),oT 28 26 (.len false (.t 27)),oT 29 26 (.bin .gtr (.t 28) (kI 1)),oS 30 (.pick (.t 26) (.t 29) (.c (.bool false)))]) (.seq (.keep [0,1,2,8,30]) (.cond (.t 30) (.seq (.region 0 [mM 31 1,mM 32 2,oS 33 (.bin .sub (.t 32) (kI 1)),oS 34 (.iaddr 4 (.t 31) (.t 33)),oS 35 (.load 4 true false (.t 34)),oS 36 (.bslice 1 ([.int .i64 0,.int .i64 0,.int .i64 0,.int .u32 0]) [(0,.t 35)]),mM 6 36,oS 7 (.mv (.c (.bool true)))]) (.ret)) (.skip)))) (.seq (.keep [0,1,2,8]) (.seq (.region 0 [mM 37 2,oS 38 (.bin .sub (.t 37) (kI 1)),mM 39 8,oS 40 (.bin .sub (.t 38) (.t 39)),mM 9 40]) (.seq (.keep [0,1,2,8,9]) (.seq (.seq (.region 0 [mM 41 2,mM 42 8,oS 43 (.bin .gtr (.t 41) (.t 42)),mM 44 43,oT 45 44 (.mv (.t 9)),oT 46 44 (.mv (.t 8)),
 oT 47 44 (.mv (.t 8)),oT 48 44 (.bin .mul (.t 46) (.t 47)),oT 49 44 (.bin .lss (.t 45) (.t 48)),oS 50 (.pick (.t 44) (.t 49) (.c (.bool false))),mM 51 50,oT 52 51 (.mv (.t 0)),oT 53 51 (.len false (.t 52)),oT 54 51 (.bin .gtr (.t 53) (kI 2)),oS 55 (.pick (.t 51) (.t 54) (.c (.bool false)))]) (.seq (.keep [1,8,9,55]) (.cond (.t 55) (.seq (.region 0 [mM 56 1,mM 57 9,mM 58 8,oS 59 (.bin .quo (.t 57) (.t 58)),oS 60 (.iaddr 4 (.t 56) (.t 59)),oS 61 (.load 4 true true (.t 60)),mM 62 1,mM 63 9,mM 64 8,oS 65 (.bin .rem (.t 63) (.t 64)),oS 66 (.iaddr 4 (.t 62) (.t 65)),oS 67 (.load 4 true true (.t 66)),oS 68 (.bslice 2 ([.int .i64 0,.int .i64 0,.int .i64 0,.int .u32 0]) [(0,.t 61),(1,.t 67)]),mM 6 68,oS 7 (.mv (.c (.bool true)))]) (.ret)) (.skip)))) (.seq (.keep []) (.seq (.region 0 [oS 6 (.mv (.c (.vs [] .full))),oS 7 (.mv (.c (.bool false)))]) (.ret))))))))))),[.tmp 6,.tmp 7]⟩
/-- hurdle/hurdlelaw19.told -/
def c_hurdlelaw19_told : SFn := ⟨62,.seq (.region 0 [oS 2 (.mv (.c (.vs [] .full)))]) (.seq (.region 0 [oS 3 (.mv (.c (.vs [] .full)))]) (.seq (.region 0 [oS 13 (.kcall false 256 []),mM 4 13]) (.seq (.give 13 (some 0)) (.seq (.region 1 [mM 15 4,mM 16 0,oS 17 (.scall 296 [.t 15,.t 16]),mM 14 17,eX 18 0 14,eX 19 1 14,oS 5 (.alloc 0 ([.int .i64 0,.int .i64 0,.int .i64 0,.int .i64 0,.int .i64 0,.int .i64 0,.int .i64 0,.int .i64 0,.int .i64 0,.int .i64 0,.int .i64 0,.int .i64 0,.int .i64 0,.int .i64 0,.int .i64 0,.int .i64 0,.int .i64 0,.int .i64 0,.vs [] .full])),oN (.store 19 (.t 5) (.t 18)),mM 6 19]) (.seq (.keep [3,4,5]) (.seq (.region 0 [mM 21 4,fA 22 0 5,oS 23 (.iaddrA 18 1 (.t 22) (kI 0)),lD 24 23,oS 25 (.scall 266 [.t 21,.t 24]),mM 20 25,eX 26 0 20,eX 27 1 20,mM 7 26,mM 8 27]) (.seq (.keep [3,4,5,7,8]) (.seq (.seq (.region 0 [mM 28 8]) (.cond (.t 28) (.region 1 [mM 29 3,mM 30 7,oS 31 (.bslice 1 ([.int .u32 0]) [(0,.t 30)]),oS 32 (.app 0 1 4 (.t 29) (.t 31)),mM 3 32]) (.skip))) (.seq (.keep [3,4,5]) (.seq (.region 0 [mM 34 4,fA 35 0 5,oS 36 (.iaddrA 18 1 (.t 35) (kI 0)),lD 37 36,oS 38 (.build (rep 34 (.int .u32 0)) []),oS 39 (.scall 276 [.t 34,.t 37,.t 38]),mM 33 39,eX 40 0 33,eX 41 1 33,mM 9 40,mM 10 41]) (.seq (.keep [3,4,5,9,10]) (.seq (.seq (.region 0 [mM 42 10]) (.cond (.t 42) (.region 1 [mM 43 3,mM 44 9,oS 45 (.bslice 1 ([.int .u32 0]) [(0,.t 44)]),oS 46 (.app 0 1 4 (.t 43) (.t 45)),mM 3 46]) (.skip))) (.seq (.keep [3,4,5]) (.seq (.region 0 [mM 48 4,fA 49 0 5,oS 50 (.iaddrA 18 1 (.t 49) (kI 0)),
 lD 51 50,oS 52 (.build (rep 34 (.int .u32 0)) [(0,1,.c (.int .u32 4294967295))]),oS 53 (.scall 276 [.t 48,.t 51,.t 52]),mM 47 53,eX 54 0 47,eX 55 1 47,mM 11 54,mM 12 55]) (.seq (.keep [3,11,12]) (.seq (.seq (.region 0 [mM 56 12]) (.cond (.t 56) (.region 1 [mM 57 3,mM 58 11,oS 59 (.bslice 1 ([.int .u32 0]) [(0,.t 58)]),oS 60 (.app 0 1 4 (.t 57) (.t 59)),mM 3 60]) (.skip))) (.seq (.keep [3]) (.seq (.region 0 [mM 61 3,mM 2 61]) (.ret))))))))))))))))))),[.tmp 2]⟩
/-- hurdle/hurdlelaw19.knows -/
def c_hurdlelaw19_knows : SFn := ⟨69,.seq (.region 0 [oS 0 (.mv (.c (.bool false)))]) (.seq (.region 0 [oS 14 (.pcall 148 [.c (.str [97,100,100,32,48,120,49,10,97,100,100,32,48,120,50,10])]),mM 13 14,eX 15 0 13,eX 16 1 13,eX 17 2 13,mM 1 15,mM 2 16,mM 3 17]) (.seq (.keep [1]) (.seq (.region 0 [oS 19 (.pcall 148 [.c (.str [115,116,32,48,120,48,10,109,101,109,32,48,120,48,10])]),mM 18 19,eX 20 0 18,eX 21 1 18,eX 22 2 18,mM 4 20,mM 5 21,mM 6 22]) (.seq (.keep [1,4]) (.seq (.region 0 [mM 24 1,oS 25 (.pcall 333 [.t 24,.c (.int .u32 1),.c (.int .i64 100)]),mM 23 25,eX 26 0 23,eX 27 1 23,eX 28 2 23,mM 7 26,mM 8 27,mM 9 28]) (.seq (.keep [1,4,7,8,9]) (.seq (.region 0 [mM 30 4,oS 31 (.pcall 333 [.t 30,.c (.int .u32 1),.c (.int .i64 1)]),mM 29 31,eX 32 0 29,eX 33 1 29,eX 34 2 29,mM 10 32,mM 11 33,mM 12 34]) (.seq (.keep [1,7,8,9,10,11,12]) (.seq (.region 0 [mM 35 1,oS 36 (.len false (.t 35)),oS 37 (.bin .eql (.t 36) (kI 2)),mM 38 37,oT 39 38 (.mv (.t 7)),oT 40 38 (.len false (.t 39)),oT 41 38 (.bin .eql (.t 40) (kI 1)),oS 42 (.pick (.t 38) (.t 41) (.c (.bool false))),mM 43 42,oT 44 43 (.mv (.t 7)),oT 45 43 (.iaddr 4 (.t 44) (kI 0)),oT 46 43 (.load 4 true false (.t 45)),oT 47 43 (.build ([.int .i64 0,.int .i64 0,.int .i64 0,.int .u32 0]) [(0,1,.c (.int .i64 4)),(3,1,.c (.int .u32 3))]),oT 48 43 (.aeq ([.int,.int,.int,.int]) false (.t 46) (.t 47)),oS 49 (.pick (.t 43) (.t 48) (.c (.bool false))),mM 50 49,oT 51 50 (.mv (.t 8)),oS 52 (.pick (.t 50) (.t 51) (.c (.bool false))),mM 53 52,oT 54 53 (.mv (.t 9)),
 oT 55 53 (.bin .eql (.t 54) (kI 0)),oS 56 (.pick (.t 53) (.t 55) (.c (.bool false))),mM 57 56,oT 58 57 (.mv (.t 10)),oT 59 57 (.len false (.t 58)),oT 60 57 (.bin .eql (.t 59) (kI 0)),oS 61 (.pick (.t 57) (.t 60) (.c (.bool false))),mM 62 61,oT 63 62 (.mv (.t 11)),oS 64 (.pick (.t 62) (.t 63) (.c (.bool false))),mM 65 64,oT 66 65 (.mv (.t 12)),oT 67 65 (.bin .eql (.t 66) (kI 0)),oS 68 (.pick (.t 65) (.t 67) (.c (.bool false))),mM 0 68]) (.ret)))))))))),[.tmp 0]⟩
/-- A table that holds these. -/
class HasSrcN (G : Tbl) : Prop where
  h_search_numbers : G 326 = some c_search_numbers
/-- A table that holds these. -/
class HasSrcL (G : Tbl) : Prop where
  h_search_Letters_1 : G 327 = some c_search_Letters_1
  h_search_Letters : G 330 = some c_search_Letters
/-- A table that holds these. -/
class HasSrcC (G : Tbl) : Prop where
  h_search_candidates_1 : G 328 = some c_search_candidates_1
  h_search_candidates : G 329 = some c_search_candidates
/-- A table that holds these. -/
class HasSrcA (G : Tbl) : Prop where
  h_search_Candidate : G 338 = some c_search_Candidate
/-- A table that holds these. -/
class HasSrcF (G : Tbl) : Prop where
  h_search_Find : G 333 = some c_search_Find
/-- A table that holds these. -/
class HasR19 (G : Tbl) : Prop where
  h_hurdleref19_own : G 332 = some c_hurdleref19_own
  h_hurdleref19_with : G 331 = some c_hurdleref19_with
  h_hurdleref19_Letters : G 337 = some c_hurdleref19_Letters
/-- A table that holds these. -/
class HasR19e (G : Tbl) : Prop where
  h_hurdleref19_Ends : G 339 = some c_hurdleref19_Ends
/-- A table that holds these. -/
class HasR19c (G : Tbl) : Prop where
  h_hurdleref19_Candidate : G 335 = some c_hurdleref19_Candidate
/-- A table that holds these. -/
class HasL19t (G : Tbl) : Prop where
  h_hurdlelaw19_told : G 336 = some c_hurdlelaw19_told
/-- A table that holds these. -/
class HasL19k (G : Tbl) : Prop where
  h_hurdlelaw19_knows : G 334 = some c_hurdlelaw19_knows
end Go.Ev
/- Simplified code of Go functions, by scode.py. -/
namespace Go.Ev
/-- hurdle/hurdlelaw19.SearchNumbers -/
def c_hurdlelaw19_SearchNumbers : SFn := ⟨65,.seq (.region 0 [oS 2 (.mv (.c (.bool false)))]) (.seq (.seq (.region 0 [mM 11 0,oS 12 (.len false (.t 11)),oS 13 (.bin .gtr (.t 12) (kI 100)),mM 14 13,oF 15 14 (.mv (.t 0)),oF 16 14 (.pcall 203 [.t 15]),oF 17 14 (.un .not (.t 16)),oS 18 (.pick (.t 14) (.c (.bool true)) (.t 17))]) (.seq (.keep [0,18]) (.cond (.t 18) (.seq (.region 0 [oS 19 (.pcall 334 []),mM 2 19]) (.ret)) (.skip)))) (.seq (.keep [0]) (.seq (.region 0 [mM 21 0,oS 22 (.pcall 330 [.t 21]),mM 20 22,eX 23 0 20,eX 24 1 20,mM 3 23,mM 4 24]) (.seq (.keep [0,3,4]) (.seq (.region 0 [oS 25 (.bslice 2 ([.int .u32 0]) [(0,.c (.int .u32 0)),(1,.c (.int .u32 4294967295))]),mM 5 25]) (.seq (.seq (.region 0 [oS 6 (.mv (kI 0))]) (.block 0 (.loop [0,3,4,5,6] (.seq (.seq (.region 0 [mM 26 6,oS 27 (.bin .lss (.t 26) (kI 2))]) (.cond (.t 27) (.skip) (.exit 0))) (.seq (.block 1 (.seq (.region 0 [mM 31 0,mM 32 5,mM 33 6,oS 34 (.iaddr 1 (.t 32) (.t 33)),lD 35 34,oS 36 (.pcall 339 [.t 31,.t 35]),mM 30 36,eX 37 0 30,eX 38 1 30,mM 7 37,mM 8 38]) (.seq (.keep [0,3,4,5,6,7,8]) (.seq (.region 0 [oS 9 (.mv (.c (.bool false)))]) (.seq (.seq (.region 0 [oS 10 (.mv (kI 0))]) (.block 2 (.loop [0,3,4,5,6,7,8,9,10] (.seq (.seq (.region 0 [mM 39 10,mM 40 3,oS 41 (.len false (.t 40)),oS 42 (.bin .lss (.t 39) (.t 41))]) (.seq (.keep [0,3,4,5,6,7,8,9,10,42]) (.cond (.t 42) (.skip) (.exit 2)))) (.seq (.keep [0,3,4,5,6,7,8,9,10]) (.seq (.block 3 (.region 0 [mM 45 9,mM 46 45,oF 47 46 (.mv (.t 3)),oF 48 46 (.mv (.t 10)),
 oF 49 46 (.iaddr 4 (.t 47) (.t 48)),oF 50 46 (.load 4 true false (.t 49)),oF 51 46 (.mv (.t 7)),oF 52 46 (.build ([.int .i64 0,.int .i64 0,.int .i64 0,.int .u32 0]) [(0,1,.c (.int .i64 0)),(3,1,.t 51)]),oF 53 46 (.aeq ([.int,.int,.int,.int]) false (.t 50) (.t 52)),oS 54 (.pick (.t 46) (.c (.bool true)) (.t 53)),mM 9 54])) (.seq (.keep [0,3,4,5,6,7,8,9,10]) (.region 0 [mM 43 10,oS 44 (.bin .add (.t 43) (kI 1)),mM 10 44])))))))) (.seq (.keep [0,3,4,5,6,8,9]) (.seq (.region 0 [mM 55 8,mM 56 55,oT 57 56 (.mv (.t 9)),oT 58 56 (.un .not (.t 57)),oS 59 (.pick (.t 56) (.t 58) (.c (.bool false)))]) (.seq (.keep [0,3,4,5,6,59]) (.cond (.t 59) (.seq (.region 0 [oS 2 (.mv (.c (.bool false)))]) (.ret)) (.skip)))))))))) (.seq (.keep [0,3,4,5,6]) (.region 0 [mM 28 6,oS 29 (.bin .add (.t 28) (kI 1)),mM 6 29]))))))) (.seq (.keep [4]) (.seq (.region 0 [mM 60 4,oS 61 (.bin .eql (.t 60) (kI 0)),mM 62 61,oT 63 62 (.pcall 334 []),oS 64 (.pick (.t 62) (.t 63) (.c (.bool false))),mM 2 64]) (.ret))))))))),[.tmp 2]⟩
/-- hurdle/hurdlelaw19.SearchLetters -/
def c_hurdlelaw19_SearchLetters : SFn := ⟨90,.seq (.region 0 [oS 4 (.mv (.c (.bool false)))]) (.seq (.seq (.region 0 [mM 13 0,oS 14 (.len false (.t 13)),oS 15 (.bin .gtr (.t 14) (kI 100))]) (.cond (.t 15) (.seq (.region 0 [oS 16 (.pcall 334 []),mM 4 16]) (.ret)) (.skip))) (.seq (.keep [0,1]) (.seq (.region 0 [mM 18 0,oS 19 (.pcall 330 [.t 18]),mM 17 19,eX 20 0 17,eX 21 1 17,mM 5 20,mM 6 21]) (.seq (.keep [0,1,5,6]) (.seq (.region 0 [mM 23 0,mM 24 1,oS 25 (.pcall 338 [.t 23,.t 24]),mM 22 25,eX 26 0 22,eX 27 1 22,eX 28 2 22,mM 7 26,mM 8 27,mM 9 28]) (.seq (.keep [0,1,5,6,7,8,9]) (.seq (.seq (.region 0 [mM 29 0,oS 30 (.pcall 203 [.t 29]),oS 31 (.un .not (.t 30))]) (.cond (.t 31) (.seq (.region 0 [mM 32 5,oS 33 (.len false (.t 32)),oS 34 (.bin .eql (.t 33) (kI 0)),mM 35 34,oT 36 35 (.mv (.t 6)),oT 37 35 (.bin .eql (.t 36) (kI 1)),oS 38 (.pick (.t 35) (.t 37) (.c (.bool false))),mM 39 38,oT 40 39 (.mv (.t 7)),oT 41 39 (.len false (.t 40)),oT 42 39 (.bin .eql (.t 41) (kI 0)),oS 43 (.pick (.t 39) (.t 42) (.c (.bool false))),mM 44 43,oT 45 44 (.mv (.t 8)),oT 46 44 (.un .not (.t 45)),oS 47 (.pick (.t 44) (.t 46) (.c (.bool false))),mM 48 47,oT 49 48 (.mv (.t 9)),oT 50 48 (.bin .eql (.t 49) (kI 1)),oS 51 (.pick (.t 48) (.t 50) (.c (.bool false))),mM 52 51,oT 53 52 (.pcall 334 []),oS 54 (.pick (.t 52) (.t 53) (.c (.bool false))),mM 4 54]) (.ret)) (.skip))) (.seq (.keep [0,1,5,6,7,8,9]) (.seq (.region 0 [mM 55 0,mM 56 0,oS 57 (.pcall 336 [.t 56]),oS 58 (.pcall 337 [.t 55,.t 57]),mM 10 58]) (.seq (.keep [0,1,5,6,7,8,9,10])
  (.seq (.region 0 [mM 60 0,mM 61 10,mM 62 1,oS 63 (.pcall 335 [.t 60,.t 61,.t 62]),mM 59 63,eX 64 0 59,eX 65 1 59,mM 11 64,mM 12 65]) (.seq (.keep [5,6,7,8,9,10,11,12]) (.seq (.region 0 [mM 66 5,mM 67 10,oS 68 (.pcall 201 [.t 66,.t 67]),mM 69 68,oT 70 69 (.mv (.t 6)),oT 71 69 (.bin .eql (.t 70) (kI 0)),oS 72 (.pick (.t 69) (.t 71) (.c (.bool false))),mM 73 72,oT 74 73 (.mv (.t 7)),oT 75 73 (.mv (.t 11)),oT 76 73 (.pcall 201 [.t 74,.t 75]),oS 77 (.pick (.t 73) (.t 76) (.c (.bool false))),mM 78 77,oT 79 78 (.mv (.t 8)),oT 80 78 (.mv (.t 12)),oT 81 78 (.beq false (.t 79) (.t 80)),oS 82 (.pick (.t 78) (.t 81) (.c (.bool false))),mM 83 82,oT 84 83 (.mv (.t 9)),oT 85 83 (.bin .eql (.t 84) (kI 0)),oS 86 (.pick (.t 83) (.t 85) (.c (.bool false))),mM 87 86,oT 88 87 (.pcall 334 []),oS 89 (.pick (.t 87) (.t 88) (.c (.bool false))),mM 4 89]) (.ret)))))))))))))),[.tmp 4]⟩
/-- A table that holds these. -/
class HasL19 (G : Tbl) : Prop where
  h_hurdlelaw19_SearchNumbers : G 340 = some c_hurdlelaw19_SearchNumbers
  h_hurdlelaw19_SearchLetters : G 344 = some c_hurdlelaw19_SearchLetters
end Go.Ev
/- A nil book: the law SymNil. -/
namespace Go.Ev
open Go Go.RowKit
variable {G : Tbl}
set_option maxRecDepth 10000
set_option maxHeartbeats 4000000
set_option linter.unusedSimpArgs false
set_option linter.unusedVariables false
theorem HShut.self {H : Heap} (h : HShut H) : trunc H.length H = H := by
 have := shut_trunc h [] 0
 simpa using this
theorem HShut.back {H : Heap} (h : HShut H) (r : Heap) : trunc H.length (H ++ r) = H := by
 have := shut_trunc h r 0
 simpa using this
theorem HShut.app {H : Heap} (h : HShut H) {r : Heap} (hr : ∀ n, r.map (Option.map (Blk.cl n)) = r) : HShut (H ++ r) := by
 intro m hm
 rw [List.map_append, hr, h m (by rw [List.length_append] at hm; omega)]
theorem HShut.nil : HShut [] := fun _ _ => rfl
structure Nd where
 kind : Nat
 f : List Nat
 n : Nat
 vars : List Nat
 tab : List Nat
 op : Int
 x : Nat
 y : Nat
 deriving DecidableEq
def Nd.cs (a : Nd) : List V := .int .i64 (a.kind : Int) :: (cnats .u32 a.f ++ .int .i64 (a.n : Int) :: (cnats .i64 a.vars ++ (cnats .u32 a.tab ++ [.int .i64 a.op, .int .i64 (a.x : Int), .int .i64 (a.y : Int)])))
def Nd0 : Nd := ⟨0, zeros 35, 0, zeros 4, zeros 16, 0, 0, 0⟩
theorem nz : (V.int .i64 0 :: (cnats .u32 (zeros 35) ++ V.int .i64 0 :: V.int .i64 0 :: V.int .i64 0 :: V.int .i64 0 :: V.int .i64 0 :: (cnats .u32 (zeros 16) ++ [V.int .i64 0, V.int .i64 0, V.int .i64 0]))) = Nd0.cs := rfl
def Nd.ok (a : Nd) : Prop := a.f.length = 35 ∧ a.vars.length = 4 ∧ a.tab.length = 16
theorem Nd.len {a : Nd} (h : a.ok) : a.cs.length = 60 := by simp [Nd.cs, h.1, h.2.1, h.2.2]
def sumNd (f : List Nat) : Nd := { Nd0 with f := f }
theorem fill_sum (f : List Nat) (hf : f.length = 35) (e : Env) (t : Nat) (he : e t = .agg (cnats .u32 f)) : fillC e Nd0.cs [(0, 1, .c (.int .i64 0)), (1, 35, .t t)] = some (sumNd f).cs := by
 have hl : (cnats .u32 f).length = 35 := by simp [hf]
 have hd : ∀ r : List V, (cnats .u32 (zeros 35) ++ r).drop 35 = r := fun r => by rw [List.drop_left' (by simp)]
 simp [fillC, he, Nd0, Nd.cs, hl, hd, sumNd]
theorem affConst_ok [HasAffine G] (c : Nat) : FP G 243 [.int .u32 c] (.agg (cnats .u32 (c :: zeros 34))) := by
 refine FP_of HasAffine.h_affine_Const (Nat.le_of_ble_eq_true rfl) ?_
 have hz : cnats .u32 (zeros 35) = .int .u32 0 :: cnats .u32 (zeros 34) := rfl
 have hc : cnats .u32 (c :: zeros 34) = .int .u32 (c : Int) :: cnats .u32 (zeros 34) := rfl
 simp [hz, hc]
def varL (i : Nat) : List Nat := (zeros 35).set (i + 1) 1
theorem affVar_ok [HasAffine G] (i : Nat) (hi : i < 34) : FP G 244 [.int .i64 i] (.tup [.agg (cnats .u32 (varL i)), .int .i64 0]) := by
 refine FP_of HasAffine.h_affine_Var (Nat.le_of_ble_eq_true rfl) ?_
 have hz : cnats .u32 (zeros 35) = .int .u32 0 :: cnats .u32 (zeros 34) := rfl
 have cs := cnats_set .u32 (zeros 34) i 1 (by simp; omega)
 have hv : cnats .u32 (varL i) = .int .u32 0 :: cnats .u32 ((zeros 34).set i 1) := by
  rw [varL, show zeros 35 = 0 :: zeros 34 from rfl, List.set_cons_succ]; rfl
 have ht1 : ∀ (a : V) (l : List V), (a :: l).take (1 + i) = a :: l.take i := fun a l => by rw [Nat.add_comm]; rfl
 have hc1 : (1 : Int) = ((1 : Nat) : Int) := rfl
 have hd : (cnats .u32 (zeros 34)).take i ++ V.int .u32 1 :: (cnats .u32 (zeros 34)).drop (1 + i) = cnats .u32 ((zeros 34).set i 1) := by rw [Nat.add_comm]; exact cs
 have hlv : ((zeros 34).set i 1).length = 34 := by simp
 have htv := take_full (k := .u32) hlv
 simp (disch := omega) [ltT, ltF, leF, leTn, hz, hv, hd, ht1, hi, htv]
theorem affVar_no [HasAffine G] (i : Int) (hi : i < 0 ∨ 34 ≤ i) : FP G 244 [.int .i64 i] (.tup [.agg (cnats .u32 (zeros 35)), .int .i64 1]) := by
 refine FP_of HasAffine.h_affine_Var (Nat.le_of_ble_eq_true rfl) ?_
 by_cases h : i < 0
 ·simp [h]
 ·have h2 : (34 ≤ i) = True := eq_true (by omega)
  have h1 : (i < 0) = False := eq_false h
  simp [h1, h2]
end Go.Ev
/- A book in memory: its values, and their numbers. -/
namespace Go.Ev
open Go Go.RowKit
variable {G : Tbl}
set_option maxRecDepth 10000
set_option maxHeartbeats 4000000
set_option linter.unusedSimpArgs false
set_option linter.unusedVariables false
/-! Cells that are alike. -/
theorem eqks_app : ∀ {k1 k2 : List Kd} {a b c d : List V} {x y : Bool}, eqks k1 a b = some x → eqks k2 c d = some y → eqks (k1 ++ k2) (a ++ c) (b ++ d) = some (x && y)
 | [], k2, [], [], c, d, x, y, h1, h2 => by simp only [eqks, Option.some.injEq] at h1; subst h1; simpa using h2
 | [], _, [], _ :: _, _, _, _, _, h, _ => by simp [eqks] at h
 | [], _, _ :: _, _, _, _, _, _, h, _ => by simp [eqks] at h
 | _ :: _, _, [], _, _, _, _, _, h, _ => by simp [eqks] at h
 | _ :: _, _, _ :: _, [], _, _, _, _, h, _ => by simp [eqks] at h
 | k :: k1, k2, a :: as, b :: bs, c, d, x, y, h1, h2 => by
  simp only [eqks] at h1
  split at h1
  case h_2 => cases h1
  rename_i u v hu hv
  simp only [Option.some.injEq] at h1
  subst h1
  simp only [List.cons_append, eqks, hu, eqks_app hv h2, Bool.and_assoc]
theorem eqks_k (k : IntKind) : ∀ {n : Nat} {a b : List Nat}, a.length = n → b.length = n → eqks (List.replicate n .int) (cnats k a) (cnats k b) = some (decide (a = b))
 | 0, [], [], _, _ => rfl
 | 0, _ :: _, _, h, _ => by simp at h
 | 0, [], _ :: _, _, h => by simp at h
 | n + 1, [], _, h, _ => by simp at h
 | n + 1, _ :: _, [], _, h => by simp at h
 | n + 1, x :: a, y :: b, h1, h2 => by
  have ih := eqks_k k (n := n) (a := a) (b := b) (by simpa using h1) (by simpa using h2)
  rw [List.replicate_succ]
  show eqks (.int :: List.replicate n .int) (.int k (x : Int) :: cnats k a) (.int k (y : Int) :: cnats k b) = _
  simp only [eqks, eqk, if_true, ih, Option.some.injEq]
  rw [Bool.eq_iff_iff]
  simp
theorem eqks_one (k : IntKind) (x y : Int) : eqks [.int] [.int k x] [.int k y] = some (decide (x = y)) := by
 simp only [eqks, eqk, if_true, Bool.and_true]
 congr 1
theorem eqks_nd {a b : Nd} (ha : a.ok) (hb : b.ok) : eqks (List.replicate 60 .int) a.cs b.cs = some (decide (a = b)) := by
 have h := eqks_app (eqks_one .i64 a.kind b.kind) (eqks_app (eqks_k .u32 ha.1 hb.1) (eqks_app (eqks_one .i64 a.n b.n) (eqks_app (eqks_k .i64 ha.2.1 hb.2.1) (eqks_app (eqks_k .u32 ha.2.2 hb.2.2)
  (eqks_app (eqks_one .i64 a.op b.op) (eqks_app (eqks_one .i64 a.x b.x) (eqks_one .i64 a.y b.y)))))))
 have hk : List.replicate 60 Kd.int = [Kd.int] ++ (List.replicate 35 .int ++ ([.int] ++ (List.replicate 4 .int ++ (List.replicate 16 .int ++ ([.int] ++ ([.int] ++ [.int])))))) := rfl
 rw [hk]
 have e1 : ∀ c : Nd, c.cs = [.int .i64 (c.kind : Int)] ++ (cnats .u32 c.f ++ ([.int .i64 (c.n : Int)] ++ (cnats .i64 c.vars ++ (cnats .u32 c.tab ++ ([.int .i64 c.op] ++ ([.int .i64 (c.x : Int)] ++ [.int .i64 (c.y : Int)])))))) := fun c => by simp [Nd.cs]
 rw [e1 a, e1 b, h]
 congr 1
 rw [Bool.eq_iff_iff]
 cases a; cases b
 simp
def entsF (i : Nat) : List Nd → List (V × V)
 | [] => []
 | a :: L => (.agg a.cs, .int .i64 (i : Int)) :: entsF (i + 1) L
def ents (L : List Nd) : List (V × V) := entsF 0 L
theorem entsF_app (a : Nd) : ∀ (L : List Nd) (i : Nat), entsF i (L ++ [a]) = entsF i L ++ [(.agg a.cs, .int .i64 ((i + L.length : Nat) : Int))]
 | [], i => by simp [entsF]
 | b :: L, i => by
  have := entsF_app a L (i + 1)
  simp only [List.cons_append, entsF, this, List.length_cons]
  rw [show i + 1 + L.length = i + (L.length + 1) by omega]
theorem mfind_in {a : Nd} (ha : a.ok) : ∀ {L : List Nd} (i : Nat), (∀ x ∈ L, x.ok) → a ∈ L → mfind (.row (List.replicate 60 .int)) (.agg a.cs) (entsF i L) i = some (some (i + L.idxOf a, .int .i64 ((i + L.idxOf a : Nat) : Int)))
 | [], i, _, h => by cases h
 | b :: L, i, hL, h => by
  simp only [entsF, mfind, keyEq, eqks_nd ha (hL b (by simp))]
  by_cases e : a = b
  ·subst e; simp
  ·have hm : a ∈ L := by simpa [e] using h
   have ih := mfind_in ha (i + 1) (fun x hx => hL x (by simp [hx])) hm
   have hix : (b :: L).idxOf a = L.idxOf a + 1 := by rw [List.idxOf_cons, beq_false_of_ne (Ne.symm e)]; rfl
   simp only [e, decide_false, ih, hix, show i + 1 + L.idxOf a = i + (L.idxOf a + 1) from by omega]
theorem mfind_out {a : Nd} (ha : a.ok) : ∀ {L : List Nd} (i : Nat), (∀ x ∈ L, x.ok) → a ∉ L → mfind (.row (List.replicate 60 .int)) (.agg a.cs) (entsF i L) i = some none
 | [], i, _, _ => rfl
 | b :: L, i, hL, h => by
  simp only [List.mem_cons, not_or] at h
  simp only [entsF, mfind, keyEq, eqks_nd ha (hL b (by simp)), h.1, decide_false]
  exact mfind_out ha (i + 1) (fun x hx => hL x (by simp [hx])) h.2
def nds (L : List Nd) : List (List V) := L.map Nd.cs
def bookC (L : List Nd) (z m : Nat) : Blk := .cells [.vs (nds L) (.own z), .mp m]
structure Bk (H : Heap) (b z m : Nat) (L : List Nd) : Prop where
 hb : H[b]? = some (some (bookC L z m))
 hz : H[z]? = some (some (.zone L.length))
 hm : H[m]? = some (some (.map (ents L)))
 shut : HShut H
 ok : ∀ a ∈ L, a.ok
 small : L.length ≤ 1000000
def upd (H : Heap) (b z m : Nat) (L : List Nd) : Heap := ((H.set b (some (bookC L z m))).set z (some (.zone L.length))).set m (some (.map (ents L)))
theorem upd_len (H : Heap) (b z m : Nat) (L : List Nd) : (upd H b z m L).length = H.length := by simp [upd]
section
variable {H : Heap} {b z m : Nat} {L L' : List Nd}
theorem Bk.bz (h : Bk H b z m L) : b ≠ z := fun e => by have h1 := h.hb; rw [e, h.hz] at h1; simp [bookC] at h1
theorem Bk.bm (h : Bk H b z m L) : b ≠ m := fun e => by have h1 := h.hb; rw [e, h.hm] at h1; simp [bookC] at h1
theorem Bk.zm (h : Bk H b z m L) : z ≠ m := fun e => by have h1 := h.hz; rw [e, h.hm] at h1; simp at h1
theorem Bk.lb (h : Bk H b z m L) : b < H.length := (List.getElem?_eq_some_iff.1 h.hb).1
theorem Bk.lz (h : Bk H b z m L) : z < H.length := (List.getElem?_eq_some_iff.1 h.hz).1
theorem Bk.lm (h : Bk H b z m L) : m < H.length := (List.getElem?_eq_some_iff.1 h.hm).1
theorem set_same {α : Type} {l : List α} {i : Nat} {a : α} (h : l[i]? = some a) : l.set i a = l := by
 apply List.ext_getElem?
 intro j
 rw [List.getElem?_set]
 by_cases e : i = j
 ·subst e
  rw [if_pos rfl, if_pos (List.getElem?_eq_some_iff.1 h).1, h]
 ·rw [if_neg e]
theorem Bk.upd_self (h : Bk H b z m L) : upd H b z m L = H := by
 unfold upd
 rw [set_same h.hb, set_same h.hz, set_same h.hm]
theorem ents_cl (n : Nat) : ∀ (L : List Nd) (i : Nat), (entsF i L).map (fun p => (p.1.cl n, p.2.cl n)) = entsF i L
 | [], i => rfl
 | a :: L, i => by
  have ih := ents_cl n L (i + 1)
  have hc : clL n a.cs = a.cs := by rw [clL_eq_map]; simp [Nd.cs, cnats, Function.comp_def, V.cl]
  simp only [entsF, List.map_cons, V.cl, hc, ih]
theorem map_set' {α β : Type} (f : α → β) : ∀ (l : List α) (i : Nat) (a : α), (l.set i a).map f = (l.map f).set i (f a) := fun l i a => List.map_set
theorem Bk.upd_shut (h : Bk H b z m L) (L' : List Nd) : HShut (upd H b z m L') := by
 intro n hn
 rw [upd_len] at hn
 have h1 := h.shut n hn
 have hz := h.lz
 have hm := h.lm
 unfold upd
 rw [map_set', map_set', map_set', h1]
 have c1 : Option.map (Blk.cl n) (some (bookC L' z m)) = some (bookC L' z m) := by
  simp [bookC, Blk.cl, clL, V.cl, Tk.cl, show z < n from by omega, show m < n from by omega]
 have c2 : Option.map (Blk.cl n) (some (Blk.zone L'.length)) = some (.zone L'.length) := rfl
 have c3 : Option.map (Blk.cl n) (some (Blk.map (ents L'))) = some (.map (ents L')) := by
  simp only [Option.map_some, Blk.cl, ents, ents_cl]
 rw [c1, c2, c3]
theorem Bk.upd_bk (h : Bk H b z m L) (hok : ∀ a ∈ L', a.ok) (hs : L'.length ≤ 1000000) : Bk (upd H b z m L') b z m L' := by
 have h1 := h.bz
 have h2 := h.bm
 have h3 := h.zm
 refine ⟨?_, ?_, ?_, h.upd_shut L', hok, hs⟩
 ·unfold upd
  rw [List.getElem?_set_ne h2.symm, List.getElem?_set_ne h1.symm, List.getElem?_set_self h.lb]
 ·unfold upd
  rw [List.getElem?_set_ne h3.symm, List.getElem?_set_self (by simp [h.lz])]
 ·unfold upd
  rw [List.getElem?_set_self (by simp [h.lm])]
theorem Bk.app (h : Bk H b z m L) {r : Heap} (hr : ∀ n, r.map (Option.map (Blk.cl n)) = r) : Bk (H ++ r) b z m L :=
 ⟨by rw [List.getElem?_append_left h.lb]; exact h.hb, by rw [List.getElem?_append_left h.lz]; exact h.hz, by rw [List.getElem?_append_left h.lm]; exact h.hm, h.shut.app hr, h.ok, h.small⟩
theorem Bk.upd_app (h : Bk H b z m L) (r : Heap) (L' : List Nd) : upd (H ++ r) b z m L' = upd H b z m L' ++ r := by
 unfold upd
 rw [List.set_append_left _ _ h.lb, List.set_append_left _ _ (by simp [h.lz]), List.set_append_left _ _ (by simp [h.lm])]
theorem Bk.upd_upd (h : Bk H b z m L) (L1 L2 : List Nd) : upd (upd H b z m L1) b z m L2 = upd H b z m L2 := by
 have h1 := h.bz
 have h2 := h.bm
 have h3 := h.zm
 apply List.ext_getElem?
 intro i
 unfold upd
 simp only [List.getElem?_set, List.length_set]
 repeat' split
 all_goals first | rfl | omega
end
def insN (L : List Nd) (a : Nd) : List Nd := if a ∈ L then L else L ++ [a]
theorem idxOf_out {L : List Nd} {a : Nd} (h : a ∉ L) : L.idxOf a = L.length := List.idxOf_eq_length h
end Go.Ev
/- The smaller functions of a book. -/
namespace Go.Ev
open Go Go.RowKit
variable {G : Tbl}
set_option maxRecDepth 10000
set_option maxHeartbeats 4000000
set_option linter.unusedSimpArgs false
set_option linter.unusedVariables false
variable {H : Heap} {b z m : Nat} {L : List Nd}
def QX (res : List ResV) (R : V → Heap → Prop) (x : Ex) (e1 : Env) (H1 : Heap) : Prop := (x = .nx ∨ x = .ret) ∧ ∃ vs, evRess e1 H1 res = some vs ∧ R (resOf vs) H1
@[simp] theorem QX_nx (res : List ResV) (R : V → Heap → Prop) (e1 : Env) (H1 : Heap) : QX res R .nx e1 H1 = ∃ vs, evRess e1 H1 res = some vs ∧ R (resOf vs) H1 := by simp [QX]
@[simp] theorem QX_ret (res : List ResV) (R : V → Heap → Prop) (e1 : Env) (H1 : Heap) : QX res R .ret e1 H1 = ∃ vs, evRess e1 H1 res = some vs ∧ R (resOf vs) H1 := by simp [QX]
def SF (G : Tbl) (f : Nat) (args : List V) (H : Heap) (r : V) (H' : Heap) : Prop := ∃ r1 H1, Big G (.F f args H r1 H1) ∧ r1.cl H.length = r ∧ trunc H.length H1 = H'
theorem SF_of {f nt : Nat} {body : SCode} {res : List ResV} {args : List V} {r : V} {H H' : Heap} (hg : G f = some ⟨nt, body, res⟩) (hl : args.length ≤ nt)
  (h : W G body [] (mkE (idxE 0 args)) H (QX res fun r1 H1 => r1.cl H.length = r ∧ trunc H.length H1 = H')) : SF G f args H r H' := by
 obtain ⟨x, e1, H1, hb, hx, vs, hvs, hr, ht⟩ := h
 rw [← envOf_eq] at hb
 exact ⟨_, _, .fn hg hl hb hx hvs, hr, ht⟩
theorem callSF_of {f : Nat} {args : List V} {r : V} {H H' : Heap} {base : Nat} {d : Option Nat} {os : List SOper} {K : List Kt} {e : Env} {Q : Ex → Env → Heap → Prop} (h : SF G f args H r H')
  (hr : WO G base os K (e.put d r) H' Q) : callS G f args base d os K e H Q := by
 obtain ⟨r1, H1, hb, hr1, ht⟩ := h
 refine callS_of hb ?_
 rw [hr1, ht]
 exact hr
theorem callEF_of {f : Nat} {args : List V} {r : V} {H H' : Heap} {base : Nat} {d : Option Nat} {os : List SOper} {K : List Kt} {e : Env} {Q : Ex → Env → Heap → Prop} (h : SF G f args H r H') (hel : Elder base args H H')
  (hr : WO G base os K (e.put d r) H' Q) : callE G f args base d os K e H Q := by
 obtain ⟨r1, H1, hb, hr1, ht⟩ := h
 exact ⟨r1, H1, hb, by rw [ht]; exact hel, by rw [hr1, ht]; exact hr⟩
theorem Bk.back (h : Bk H b z m L) (L' : List Nd) (r : Heap) : trunc H.length (upd H b z m L' ++ r) = upd H b z m L' := by
 have := (h.upd_shut L').back r
 rwa [upd_len] at this
@[simp] theorem nds_length (L : List Nd) : (nds L).length = L.length := by simp [nds]
theorem nds_get {x : Nat} {a : Nd} (h : L[x]? = some a) : (nds L)[x]? = some a.cs := by simp [nds, h]
theorem nds_snoc (L : List Nd) (a : Nd) : nds L ++ [a.cs] = nds (L ++ [a]) := by simp [nds]
theorem nds_sz (h : ∀ a ∈ L, a.ok) : (∀ f ∈ nds L, f.length = 60) := by
 intro f hf
 simp only [nds, List.mem_map] at hf
 obtain ⟨a, ha, rfl⟩ := hf
 exact Nd.len (h a ha)
theorem Bk.hb' (h : Bk H b z m L) : H[b]? = some (some (.cells [.vs (nds L) (.own z), .mp m])) := h.hb
theorem Len_ok [HasSym G] (h : Bk H b z m L) : Big G (.F 257 [.ptr b 0] H (.int .i64 L.length) H) := by
 refine F_of HasSym.h_sym_Book_Len (Nat.le_of_ble_eq_true rfl) ?_
 have hb := h.hb'
 simp [hb]
def hasI (L : List Nd) (i : Int) : Bool := decide (0 ≤ i ∧ i < (L.length : Int))
theorem has_ok [HasSym G] (i : Int) (h : Bk H b z m L) : Big G (.F 258 [.ptr b 0, .int .i64 i] H (.bool (hasI L i)) H) := by
 refine F_of HasSym.h_sym_Book_has (Nat.le_of_ble_eq_true rfl) ?_
 have hs := h.shut.self
 by_cases h0 : 0 ≤ i
 ·simp [h0]
  refine callS_of (Len_ok h) ?_
  simp [hs, hasI, h0]
 ·simp [h0, hasI]
theorem asSum_ok [HasSym G] (x : Nat) (a : Nd) (h : Bk H b z m L) (hx : L[x]? = some a) : Big G (.F 264 [.ptr b 0, .int .i64 x] H (.tup [.agg (cnats .u32 a.f), .bool (decide (a.kind = 0))]) (H ++ [some (.cells (cnats .u32 a.f))])) := by
 refine F_of HasSym.h_sym_Book_asSum (Nat.le_of_ble_eq_true rfl) ?_
 have hlt := h.lb
 have hb := h.hb'
 have hb2 : ∀ r : Heap, (H ++ r)[b]? = some (some (.cells [.vs (nds L) (.own z), .mp m])) := fun r => by rw [List.getElem?_append_left hlt]; exact hb
 have hg := nds_get hx
 have hao := h.ok a (List.mem_of_getElem? hx)
 have hl := Nd.len hao
 have t1 : a.cs.take 1 = [.int .i64 (a.kind : Int)] := rfl
 have t35 : (a.cs.drop 1).take 35 = cnats .u32 a.f := by
  show (cnats .u32 a.f ++ _).take 35 = _
  rw [List.take_left' (by simp [hao.1])]
 have t35' : a.cs.tail.take 35 = cnats .u32 a.f := by rw [← List.drop_one]; exact t35
 have hd : (cnats .u32 (zeros 35)).drop 35 = [] := rfl
 have hne : b ≠ H.length := by omega
 have hne' : (H.length = b) = False := eq_false (by omega)
 have hf := hao.1
 have hk0 : ((a.kind : Int) == 0) = decide (a.kind = 0) := by rw [Bool.eq_iff_iff]; simp
 simp [hb2, hb, hg, hl, t1, t35, t35', hd, hne, hne', hf, take_full (k := .u32) hf, hk0]
theorem id_ok [HasSym G] (a : Nd) (ha : a.ok) (h : Bk H b z m L) (hs : L.length < 1000000) : SF G 259 [.ptr b 0, .agg a.cs] H (.int .i64 (L.idxOf a : Nat)) (upd H b z m (insN L a)) := by
 have hlb := h.lb
 have hlz := h.lz
 have hlm := h.lm
 have hb := h.hb'
 have hbz := h.bz
 have hbm := h.bm
 have hzm := h.zm
 have hl := Nd.len ha
 have htk : a.cs.take 60 = a.cs := List.take_of_length_le (by omega)
 have hself := eqks_nd ha ha
 simp only [decide_true] at hself
 have hF : (H.length + 1 ≤ b) = False := eq_false (by omega)
 have hFs : (H.length + 1 ≤ H.length) = False := eq_false (by omega)
 have hF0 : (H.length = b) = False := eq_false (by omega)
 have hFm : (H.length = m) = False := eq_false (by omega)
 have hFz : (H.length = z) = False := eq_false (by omega)
 have hb2 : ∀ r : Heap, (H ++ r)[b]? = some (some (.cells [.vs (nds L) (.own z), .mp m])) := fun r => by rw [List.getElem?_append_left hlb]; exact hb
 have hm2 : ∀ r : Heap, (H ++ r)[m]? = some (some (.map (ents L))) := fun r => by rw [List.getElem?_append_left hlm]; exact h.hm
 have hz2 : ∀ r : Heap, (H ++ r)[z]? = some (some (.zone L.length)) := fun r => by rw [List.getElem?_append_left hlz]; exact h.hz
 refine SF_of HasSym.h_sym_Book_id (Nat.le_of_ble_eq_true rfl) ?_
 by_cases hin : a ∈ L
 ·have hmf := mfind_in ha 0 h.ok hin
  simp only [Nat.zero_add] at hmf
  have hbk := h.shut.back
  have hu : upd H b z m (insN L a) = H := by rw [insN, if_pos hin, h.upd_self]
  simp [-List.reduceReplicate, hb2, hm2, hl, htk, hself, ents, hmf, hF, hF0, hFm, hFz, hFs, hbk, hu]
 ·have hmf := mfind_out ha 0 h.ok hin
  have hset : ∀ (x : Option Blk) (r : Heap), (H ++ r).set m x = H.set m x ++ r := fun x r => List.set_append_left _ _ hlm
  obtain ⟨K, hK⟩ : ∃ K, K = H.set m (some (.map (ents (L ++ [a])))) := ⟨_, rfl⟩
  have hKl : K.length = H.length := by rw [hK, List.length_set]
  have he : entsF 0 L ++ [(V.agg a.cs, V.int .i64 (L.length : Int))] = ents (L ++ [a]) := by rw [ents, entsF_app, Nat.zero_add]
  have kb : ∀ r : Heap, (K ++ r)[b]? = some (some (.cells [.vs (nds L) (.own z), .mp m])) := fun r => by
   rw [List.getElem?_append_left (by omega), hK, List.getElem?_set_ne hbm.symm]; exact hb
  have kz : ∀ r : Heap, (K ++ r)[z]? = some (some (.zone L.length)) := fun r => by
   rw [List.getElem?_append_left (by omega), hK, List.getElem?_set_ne hzm.symm]; exact h.hz
  have kset : ∀ (x : Option Blk) (r : Heap), (K ++ r).set z x = K.set z x ++ r := fun x r => List.set_append_left _ _ (by omega)
  have kzb : ∀ (x : Option Blk) (r : Heap), (K.set z x ++ r)[b]? = some (some (.cells [.vs (nds L) (.own z), .mp m])) := fun x r => by
   rw [List.getElem?_append_left (by simp; omega), List.getElem?_set_ne hbz.symm]; have := kb []; simpa using this
  have kzset : ∀ (x y : Option Blk) (r : Heap), (K.set z x ++ r).set b y = (K.set z x).set b y ++ r := fun x y r => List.set_append_left _ _ (by simp; omega)
  have hlen := idxOf_out hin
  have hsz := nds_sz h.ok
  have hby : ((L.length + 1) * 280 ≤ 140737488355328) = True := eq_true (by omega)
  have hall : (∀ f ∈ nds L, f.length = 60) = True := eq_true hsz
  have hpure : a.cs.all V.pure = true := by simp [Nd.cs, cnats, V.pure]
  have hzl : Nd0.cs.length = 60 := rfl
  have hsn := nds_snoc L a
  have fin : (K.set z (some (.zone (L.length + 1)))).set b (some (.cells [.vs (nds (L ++ [a])) (.own z), .mp m])) = upd H b z m (insN L a) := by
   rw [insN, if_neg hin, upd, hK, bookC, List.length_append]
   apply List.ext_getElem?
   intro i
   simp only [List.getElem?_set, List.length_set]
   repeat' split
   all_goals first | rfl | omega
  have hbk := h.back (insN L a)
  have kh : ∀ r : Heap, (K ++ r)[H.length]? = r[0]? := fun r => by rw [← hKl, List.getElem?_append_right (Nat.le_refl _), Nat.sub_self]
  simp [-List.reduceReplicate, hb2, hm2, hl, htk, hself, ents, hmf, hF, hF0, hFm, hFz, hFs]
  simp [-List.reduceReplicate, hset, he, ← hK, kb, kz, hl, htk, hF, hF0, hFs, hby, hall, hpure, nz, hzl, hsz, kh, kset, kzb, kzset, hsn, fin, hbk, hlen, List.getElem?_append_left hlb]
end Go.Ev
/- Sums of multiples. -/
namespace Go.Ev
open Go Go.RowKit
variable {G : Tbl}
set_option maxRecDepth 10000
set_option maxHeartbeats 4000000
set_option linter.unusedSimpArgs false
set_option linter.unusedVariables false
def mxA (o : Nat → Nat → Nat) (f g : List Nat) (i : Nat) : List Nat := List.zipWith o (f.take i) (g.take i) ++ f.drop i
section
variable {o : Nat → Nat → Nat} {f g : List Nat} {i n : Nat}
theorem mxA_len (hf : f.length = n) (hg : g.length = n) : (mxA o f g i).length = n := by simp [mxA, hf, hg]; omega
theorem mxA_zero : mxA o f g 0 = f := by simp [mxA]
theorem mxA_all (hf : f.length = n) (hg : g.length = n) : mxA o f g n = List.zipWith o f g := by
 rw [mxA, List.take_of_length_le (by omega), List.take_of_length_le (by omega), List.drop_eq_nil_of_le (by omega), List.append_nil]
theorem mxA_get (hf : f.length = n) (hg : g.length = n) (h : i < n) : (mxA o f g i)[i]? = some (f[i]'(by omega)) := by
 rw [mxA, List.getElem?_append_right (by simp; omega)]
 have e : i - (List.zipWith o (f.take i) (g.take i)).length = 0 := by simp; omega
 rw [e, List.getElem?_drop]
 exact get_in (by omega)
theorem mxA_set (hf : f.length = n) (hg : g.length = n) (h : i < n) : (mxA o f g i).set i (o (f[i]'(by omega)) (g[i]'(by omega))) = mxA o f g (i + 1) := by
 apply List.ext_getElem?
 intro j
 have hl : (mxA o f g i).length = n := mxA_len hf hg
 rw [List.getElem?_set]
 have hz : ∀ k, (List.zipWith o (f.take k) (g.take k)).length = min k n := fun k => by simp [hf, hg]
 by_cases hj : i = j
 ·subst hj
  simp only [if_true, hl, h]
  rw [mxA, List.getElem?_append_left (by rw [hz]; omega)]
  simp [List.getElem?_zipWith, List.getElem?_take, show i < f.length by omega, show i < g.length by omega]
 ·rw [if_neg hj, mxA, mxA]
  by_cases hlt : j < i
  ·rw [List.getElem?_append_left (by rw [hz]; omega), List.getElem?_append_left (by rw [hz]; omega)]
   simp [List.getElem?_zipWith, List.getElem?_take, hlt, show j < i + 1 by omega]
  ·rw [List.getElem?_append_right (by rw [hz]; omega), List.getElem?_append_right (by rw [hz]; omega), hz, hz]
   simp only [List.getElem?_drop]
   congr 1
   omega
end
theorem cnats_q {l : List Nat} {i x : Nat} (k : IntKind) (h : l[i]? = some x) : ((cnats k l).drop i).take 1 = [.int k (x : Int)] := by
 obtain ⟨h1, rfl⟩ := List.getElem?_eq_some_iff.1 h
 exact cnats_get k l i h1
section
variable {α : Type} (H l : List α)
theorem ap0 : (H ++ l)[H.length]? = l[0]? := by rw [List.getElem?_append_right (Nat.le_refl _), Nat.sub_self]
theorem apk (k : Nat) : (H ++ l)[H.length + k]? = l[k]? := by rw [List.getElem?_append_right (by omega), Nat.add_sub_cancel_left]
theorem set0 (x : α) : (H ++ l).set H.length x = H ++ l.set 0 x := by rw [List.set_append_right _ _ (Nat.le_refl _), Nat.sub_self]
theorem setk (k : Nat) (x : α) : (H ++ l).set (H.length + k) x = H ++ l.set k x := by rw [List.set_append_right _ _ (by omega), Nat.add_sub_cancel_left]
end
theorem both_ok [HasAffine G] (fn : Nat) (cap : List V) (o : Nat → Nat → Nat) (f g : List Nat) (H : Heap) (hs : HShut H) (hf : f.length = 35) (hg : g.length = 35) (hcap : ∀ n, H.length ≤ n → clL n cap = cap)
  (hc : ∀ (i : Nat) (h : i < 35) (r : Heap), Big G (.F fn ([.int .u32 (f[i]'(by omega) : Nat), .int .u32 (g[i]'(by omega) : Nat)] ++ cap) (H ++ r) (.int .u32 (o (f[i]'(by omega)) (g[i]'(by omega)) : Nat)) (H ++ r))) :
  Big G (.F 245 [.agg (cnats .u32 f), .agg (cnats .u32 g), .fn fn cap] H (.agg (cnats .u32 (List.zipWith o f g))) (H ++ [some (.cells (cnats .u32 (List.zipWith o f g))), some (.cells (cnats .u32 g)), some (.cells (cnats .u32 (List.zipWith o f g)))])) := by
 refine F_of HasAffine.h_affine_both (Nat.le_of_ble_eq_true rfl) ?_
 have hl0 : ∀ i, (mxA o f g i).length = 35 := fun i => mxA_len hf hg
 have hcl : ∀ r, HShut (H ++ [some (.cells (cnats .u32 r)), some (.cells (cnats .u32 g)), some (.cells (cnats .u32 (zeros 35)))]) := fun r => hs.app fun n => by simp [Blk.cl]
 have hb : ∀ r x, trunc (H.length + 3) (H ++ some (.cells (cnats .u32 r)) :: some (.cells (cnats .u32 g)) :: some (.cells (cnats .u32 (zeros 35))) :: x) = H ++ [some (.cells (cnats .u32 r)), some (.cells (cnats .u32 g)), some (.cells (cnats .u32 (zeros 35)))] := fun r x => by
  have := (hcl r).back x
  simpa using this
 have h0 := hc 0 (by omega)
 have g0 : ((cnats .u32 f).drop 0).take 1 = [.int .u32 (f[0] : Nat)] := cnats_get .u32 f 0 (by omega)
 have g0' : ((cnats .u32 g).drop 0).take 1 = [.int .u32 (g[0] : Nat)] := cnats_get .u32 g 0 (by omega)
 rw [List.drop_zero] at g0 g0'
 have htf := take_full (k := .u32) hf
 have htg := take_full (k := .u32) hg
 have e0 : V.int .u32 (o f[0] g[0] : Nat) :: (cnats .u32 f).drop 1 = cnats .u32 (mxA o f g 1) := by
  have h1 := cnats_set .u32 (mxA o f g 0) 0 (o f[0] g[0]) (by rw [hl0]; omega)
  rw [mxA_set hf hg (by omega), mxA_zero] at h1
  simpa using h1
 rw [List.drop_one] at e0
 obtain ⟨BB, hBB⟩ : ∃ BB : Nat → Heap, ∀ i, BB i = H ++ [some (.cells (cnats .u32 (mxA o f g (i + 1)))), some (.cells (cnats .u32 g)), some (.cells (cnats .u32 (zeros 35)))] := ⟨_, fun _ => rfl⟩
 simp [hf, hg, htf, htg, g0, g0', hb]
 refine callV_of (h0 _) (by simp) ?_
 simp [hb, hf, e0, keep_cl]
 refine W_up 34 (fun i => [(2, .fn fn cap), (3, .ptr H.length 0), (4, .ptr (H.length + 1) 0), (6, .ptr (H.length + 2) 0), (15, .int .i64 i)]) BB (fun _ => True) ?_ ?_
 ·simp [keep_cl, hb, hBB, hcap]
 intro i hi _
 by_cases hlt : i < 34
 ·have hfi := mxA_get (o := o) hf hg (show i + 1 < 35 by omega)
  have hgi : g[i + 1]? = some (g[i + 1]'(by omega)) := get_in (by omega)
  have q1 := cnats_q .u32 hfi
  have q2 := cnats_q .u32 hgi
  have hst := cnats_set .u32 (mxA o f g (i + 1)) (i + 1) (o (f[i + 1]'(by omega)) (g[i + 1]'(by omega))) (by rw [hl0]; omega)
  rw [mxA_set hf hg (by omega)] at hst
  simp (disch := omega) [ltT, ltF, leF, leFn, leTn, ap0, apk, set0, setk, hBB, hlt, hl0, hf, hg, show 1 + i = i + 1 from Nat.add_comm 1 i, q1, q2, -Int.natCast_add, hb]
  refine callV_of (hc (i + 1) (by omega) [some (.cells (cnats .u32 (mxA o f g (i + 1)))), some (.cells (cnats .u32 g)), some (.cells (cnats .u32 (zeros 35)))]) (fun _ => by have := hb (mxA o f g (i + 1)) []; simpa using this) ?_
  simp (disch := omega) [ltT, ltF, leF, leFn, leTn, ap0, apk, set0, setk, hBB, hlt, hl0, hf, hg, show 1 + i = i + 1 from Nat.add_comm 1 i, hst, -Int.natCast_add, hb, add1', keep_cl, hcap]
 ·have hi34 : i = 34 := by omega
  subst hi34
  have hml := hl0 35
  have hm := mxA_all (o := o) hf hg
  have hzl : (List.zipWith o f g).length = 35 := by simp [hf, hg]
  simp (disch := omega) [ltT, ltF, leF, leFn, leTn, ap0, apk, set0, setk, hBB, hm, hzl, take_full (k := .u32) hzl]
def fAdd (f g : List Nat) : List Nat := List.zipWith (fun a b => (a + b) % 4294967296) f g
def fSub (f g : List Nat) : List Nat := List.zipWith (fun a b => (a + 4294967296 - b) % 4294967296) f g
def fMul (f : List Nat) (k : Nat) : List Nat := f.map fun a => a * k % 4294967296
theorem Add1_ok [HasAffine G] (a b : Nat) (H : Heap) : Big G (.F 246 [.int .u32 a, .int .u32 b] H (.int .u32 ((a + b) % 4294967296 : Nat)) H) := by
 refine F_of HasAffine.h_affine_Add_1 (Nat.le_of_ble_eq_true rfl) ?_
 simp
 simp [addI, wrap32]
theorem Sub1_ok [HasAffine G] (a b : Nat) (hb : b < 4294967296) (H : Heap) : Big G (.F 248 [.int .u32 a, .int .u32 b] H (.int .u32 ((a + 4294967296 - b) % 4294967296 : Nat)) H) := by
 refine F_of HasAffine.h_affine_Sub_1 (Nat.le_of_ble_eq_true rfl) ?_
 simp
 simp [subI, wrap32]
 omega
theorem Mul1_ok [HasAffine G] (a b k p : Nat) (H : Heap) (hp : H[p]? = some (some (.cells [.int .u32 k]))) : Big G (.F 250 [.int .u32 a, .int .u32 b, .ptr p 0] H (.int .u32 (a * k % 4294967296 : Nat)) H) := by
 refine F_of HasAffine.h_affine_Mul_1 (Nat.le_of_ble_eq_true rfl) ?_
 simp [hp]
 simp [mulI, wrap32]
theorem fAdd_ok [HasAffine G] (f g : List Nat) (hf : f.length = 35) (hg : g.length = 35) : FP G 247 [.agg (cnats .u32 f), .agg (cnats .u32 g)] (.agg (cnats .u32 (fAdd f g))) := by
 refine FP_of HasAffine.h_affine_Add (Nat.le_of_ble_eq_true rfl) ?_
 have htf := take_full (k := .u32) hf
 have htg := take_full (k := .u32) hg
 have hl : (fAdd f g).length = 35 := by simp [fAdd, hf, hg]
 have htl := take_full (k := .u32) hl
 have hs : HShut [some (.cells (cnats .u32 f)), some (.cells (cnats .u32 g)), some (.cells (cnats .u32 (zeros 35)))] := fun n _ => by simp [Blk.cl]
 have hb := hs.back
 simp at hb
 simp [hf, hg, htf, htg]
 refine callS_of (both_ok 246 [] (fun a b => (a + b) % 4294967296) f g _ hs hf hg (fun _ _ => rfl) (fun i h r => Add1_ok _ _ _)) ?_
 have e : List.zipWith (fun a b => (a + b) % 4294967296) f g = fAdd f g := rfl
 simp [e, hb, hl, htl]
theorem fSub_ok [HasAffine G] (f g : List Nat) (hf : f.length = 35) (hg : g.length = 35) (hgw : ∀ x ∈ g, x < 4294967296) : FP G 249 [.agg (cnats .u32 f), .agg (cnats .u32 g)] (.agg (cnats .u32 (fSub f g))) := by
 refine FP_of HasAffine.h_affine_Sub (Nat.le_of_ble_eq_true rfl) ?_
 have htf := take_full (k := .u32) hf
 have htg := take_full (k := .u32) hg
 have hl : (fSub f g).length = 35 := by simp [fSub, hf, hg]
 have htl := take_full (k := .u32) hl
 have hs : HShut [some (.cells (cnats .u32 f)), some (.cells (cnats .u32 g)), some (.cells (cnats .u32 (zeros 35)))] := fun n _ => by simp [Blk.cl]
 have hb := hs.back
 simp at hb
 simp [hf, hg, htf, htg]
 refine callS_of (both_ok 248 [] (fun a b => (a + 4294967296 - b) % 4294967296) f g _ hs hf hg (fun _ _ => rfl) (fun i h r => Sub1_ok _ _ (hgw _ (List.getElem_mem _)) _)) ?_
 have e : List.zipWith (fun a b => (a + 4294967296 - b) % 4294967296) f g = fSub f g := rfl
 simp [e, hb, hl, htl]
theorem fMul_ok [HasAffine G] (f : List Nat) (k : Nat) (hf : f.length = 35) : FP G 251 [.agg (cnats .u32 f), .int .u32 k] (.agg (cnats .u32 (fMul f k))) := by
 refine FP_of HasAffine.h_affine_Mul (Nat.le_of_ble_eq_true rfl) ?_
 have htf := take_full (k := .u32) hf
 have hl : (fMul f k).length = 35 := by simp [fMul, hf]
 have htl := take_full (k := .u32) hl
 have hs : HShut [some (.cells (cnats .u32 f)), some (.cells [.int .u32 k]), some (.cells (cnats .u32 (zeros 35)))] := fun n _ => by simp [Blk.cl]
 have hb := hs.back
 simp at hb
 simp [hf, htf]
 refine callS_of (both_ok 250 [.ptr 1 0] (fun a _ => a * k % 4294967296) f f _ hs hf hf (fun n hn => by simp at hn; simp [clL, V.cl, show 1 < n by omega]) (fun i h r => Mul1_ok _ _ k 1 _ (by simp))) ?_
 have e : f.map (fun a => a * k % 4294967296) = fMul f k := rfl
 simp [e, hb, hf, hl, htl]
def fConst (f : List Nat) : Option Nat := if f.drop 1 = zeros 34 then f.head? else none
theorem fConst_ok [HasAffine G] (f : List Nat) (hf : f.length = 35) : FP G 253 [.agg (cnats .u32 f)] (.tup [.int .u32 ((fConst f).getD 0 : Nat), .bool (fConst f).isSome]) := by
 refine FP_of HasAffine.h_affine_Constant (Nat.le_of_ble_eq_true rfl) ?_
 obtain ⟨c, t, rfl⟩ : ∃ c t, f = c :: t := by cases f with | nil => simp at hf | cons c t => exact ⟨c, t, rfl⟩
 have ht : t.length = 34 := by simpa using hf
 have hc : cnats .u32 (c :: t) = .int .u32 (c : Int) :: cnats .u32 t := rfl
 have he := eqks_k .u32 (n := 34) (a := t) (b := zeros 34) ht (by simp)
 have htt := take_full (k := .u32) ht
 by_cases e : t = zeros 34
 ·have hfc : fConst (c :: t) = some c := by simp [fConst, e]
  rw [decide_eq_true e] at he
  simp [-List.reduceReplicate, hc, ht, htt, he, hfc]
 ·have hfc : fConst (c :: t) = none := by simp [fConst, e]
  rw [decide_eq_false e] at he
  simp [-List.reduceReplicate, hc, ht, htt, he, hfc]
def fSum (f v : List Nat) (i : Nat) : Nat := ((List.zipWith (· * ·) (f.drop 1) v).take i).sum
def fEval (f v : List Nat) : Nat := (f.headD 0 + fSum f v 34) % 4294967296
theorem fEval_ok [HasAffine G] (f v : List Nat) (hf : f.length = 35) (hv : v.length = 34) (hfw : ∀ x ∈ f, x < 4294967296) : FP G 252 [.agg (cnats .u32 f), .agg (cnats .u32 v)] (.int .u32 (fEval f v : Nat)) := by
 refine FP_of HasAffine.h_affine_Eval (Nat.le_of_ble_eq_true rfl) ?_
 obtain ⟨c, t, rfl⟩ : ∃ c t, f = c :: t := by cases f with | nil => simp at hf | cons c t => exact ⟨c, t, rfl⟩
 have ht : t.length = 34 := by simpa using hf
 have hc : cnats .u32 (c :: t) = .int .u32 (c : Int) :: cnats .u32 t := rfl
 have htt := take_full (k := .u32) ht
 have htv := take_full (k := .u32) hv
 have hcw : c < 4294967296 := hfw c (by simp)
 simp [hc, ht, htt, hv, htv]
 obtain ⟨S, hS⟩ : ∃ S : Nat → Nat, ∀ i, S i = (c + fSum (c :: t) v i) % 4294967296 := ⟨_, fun _ => rfl⟩
 have S0 : S 0 = c := by rw [hS]; simp [fSum]; omega
 have S34 : S 34 = fEval (c :: t) v := by rw [hS]; rfl
 have Ss : ∀ (i : Nat) (h : i < 34), (S i + (t[i]'(by omega)) * (v[i]'(by omega))) % 4294967296 = S (i + 1) := fun i h => by
  rw [hS, hS, fSum, fSum, List.take_add_one, List.getElem?_eq_getElem (by simp; omega)]
  simp
  omega
 refine W_up 34 (fun i => [(3, .ptr 1 0), (5, .int .u32 (S i : Nat)), (11, .agg (cnats .u32 t)), (12, .int .i64 i)]) (fun _ => [some (.cells (.int .u32 (c : Int) :: cnats .u32 t)), some (.cells (cnats .u32 v))]) (fun _ => True) ?_ ?_
 ·simp [keep_cl, S0, trunc, clL, V.cl]
 intro i hi _
 by_cases hlt : i < 34
 ·have q1 := cnats_q .u32 (get_in (show i < t.length by omega))
  have q2 := cnats_q .u32 (get_in (show i < v.length by omega))
  have m : addI .u32 (S i : Int) (mulI .u32 (t[i] : Nat) (v[i] : Nat)) = ((S (i + 1) : Nat) : Int) := by
   rw [← Ss i hlt]; simp [addI, mulI, wrap32]
  simp (disch := omega) [ltT, ltF, leF, leFn, leTn, hlt, ht, hv, q1, q2, m, -Int.natCast_add, add1', keep_cl, trunc, clL, V.cl]
 ·have hi34 : i = 34 := by omega
  subst hi34
  simp [S34]
def fOne (f : List Nat) : Option Nat := (List.range 34).find? fun i => decide (f = varL i)
theorem fOne_ok [HasAffine G] (f : List Nat) (hf : f.length = 35) : FP G 254 [.agg (cnats .u32 f)] (.tup [.int .i64 ((fOne f).getD 0 : Nat), .bool (fOne f).isSome]) := by
 refine FP_of HasAffine.h_affine_Single (Nat.le_of_ble_eq_true rfl) ?_
 obtain ⟨c, t, rfl⟩ : ∃ c t, f = c :: t := by cases f with | nil => simp at hf | cons c t => exact ⟨c, t, rfl⟩
 have ht : t.length = 34 := by simpa using hf
 have hc : cnats .u32 (c :: t) = .int .u32 (c : Int) :: cnats .u32 t := rfl
 have htt := take_full (k := .u32) ht
 have htf := take_full (k := .u32) hf
 rw [hc] at htf
 have hk : (List.replicate 35 Kd.int) = Kd.int :: List.replicate 34 .int := rfl
 simp [-List.reduceReplicate, hc, ht, htt]
 refine W_up 34 (fun i => [(1, .ptr 0 0), (9, .agg (cnats .u32 t)), (10, .int .i64 i)]) (fun _ => [some (.cells (.int .u32 (c : Int) :: cnats .u32 t))]) (fun i => ∀ j, j < i → c :: t ≠ varL j) ?_ ?_
 ·simp [keep_cl, trunc, clL, V.cl]
 intro i hi hp
 by_cases hlt : i < 34
 ·have q1 := cnats_q .u32 (get_in (show i < t.length by omega))
  have hd : (cnats .u32 (zeros 35)).drop 35 = [] := rfl
  have hvl : (varL i).length = 35 := by simp [varL]
  have htv := take_full (k := .u32) hvl
  have he := eqks_k .u32 (n := 35) (a := varL i) (b := c :: t) hvl hf
  rw [hc] at he
  have g1 : c :: t = varL i → t[i] = 1 := fun e => by
   have h1 : (c :: t)[i + 1]? = some 1 := by rw [e, varL, List.getElem?_set_self (by simp; omega)]
   rw [List.getElem?_cons_succ, get_in (by omega)] at h1
   exact Option.some.inj h1
  simp (disch := omega) [-List.reduceReplicate, ltT, ltF, leF, leFn, leTn, hlt, ht, q1]
  refine callP_of (affVar_ok i hlt) ?_
  by_cases h1 : t[i] = 1
  ·by_cases e : varL i = c :: t
   ·have hone : fOne (c :: t) = some i := by
     rw [fOne, List.find?_range_eq_some]
     exact ⟨by simpa using e.symm, List.mem_range.2 hlt, fun j hj => by simpa using hp j hj⟩
    rw [decide_eq_true e] at he
    simp (disch := omega) [-List.reduceReplicate, ltT, ltF, leF, leFn, leTn, hlt, ht, hvl, htv, htf, hd, h1, he, hone]
   ·rw [decide_eq_false e] at he
    have hp' : ∀ j, j < i + 1 → c :: t ≠ varL j := fun j hj => by
     by_cases e' : j = i
     ·subst e'; exact fun h => e h.symm
     ·exact hp j (by omega)
    simp (disch := omega) [-List.reduceReplicate, ltT, ltF, leF, leFn, leTn, hlt, ht, hvl, htv, htf, hd, h1, he, -Int.natCast_add, add1', keep_cl, trunc, clL, V.cl]
    exact hp'
  ·have hp' : ∀ j, j < i + 1 → c :: t ≠ varL j := fun j hj => by
    by_cases e' : j = i
    ·subst e'; exact fun h => h1 (g1 h)
    ·exact hp j (by omega)
   have h1' : ((t[i] : Int) == 1) = false := by rw [beq_eq_false_iff_ne]; omega
   simp (disch := omega) [-List.reduceReplicate, ltT, ltF, leF, leFn, leTn, hlt, ht, hvl, htv, htf, hd, h1, h1', -Int.natCast_add, add1', keep_cl, trunc, clL, V.cl]
   exact hp'
 ·have hi34 : i = 34 := by omega
  subst hi34
  have hnone : fOne (c :: t) = none := by
   rw [fOne, List.find?_eq_none]
   intro j hj
   simpa using hp j (List.mem_range.1 hj)
  simp [hnone]
end Go.Ev
/- More of what is done with bits. -/
namespace Go.Ev
open Go Go.RowKit
variable {G : Tbl}
set_option maxRecDepth 10000
set_option maxHeartbeats 4000000
set_option linter.unusedSimpArgs false
set_option linter.unusedVariables false
theorem Do_is (hG : HasBits G) {kind : Int} {fv gv vs : List Int} {ft gt tab : List Nat} (hok : DoOk kind fv gv ft gt) (hft : ∀ w ∈ ft, w < 4294967296) (hgt : ∀ w ∈ gt, w < 4294967296) (hR : Right vs tab)
  (hs : ∀ p, sem vs tab p = (doW kind (sem fv ft p) (sem gv gt p)).1) : FP G 109 [.int .i64 kind, FV fv ft, FV gv gt] (.tup [FV vs tab, .bool true]) := by
 have h1 := hok.2.1.1
 have h2 := hok.2.2.1.1
 have h3 := tab_small h1 hok.2.1.2.1
 have h4 := tab_small h2 hok.2.2.1.2.1
 obtain ⟨r, hr, h | ⟨_, vs', tab', rfl, hR', _, hs'⟩⟩ := Do_ok hG kind fv gv ft gt (by omega) (by omega) (by omega) (by omega) hft hgt
 ·exact absurd hok h.1
 ·obtain ⟨rfl, rfl⟩ := canon hR' hR fun p => by rw [hs, hs']
  exact hr
theorem val_lt (vs : List Int) (tab : List Nat) (r : Int → Nat) : val vs tab r < 4294967296 := wordOf_lt _ 32
theorem val_do {kind : Int} {fv gv vs : List Int} {ft gt tab : List Nat} (h : kind = 68 ∨ kind = 84 ∨ kind = 164) (hs : ∀ p, sem vs tab p = (doW kind (sem fv ft p) (sem gv gt p)).1) (r : Int → Nat) :
  val vs tab r = (doW kind (val fv ft r) (val gv gt r)).1 := by
 refine Nat.eq_of_testBit_eq fun i => ?_
 have hv : ∀ (v : List Int) (t : List Nat), (val v t r).testBit i = (decide (i < 32) && (sem v t fun u => (r u).testBit i).testBit i) := fun v t => by rw [val, wordOf_bit]
 rcases h with rfl | rfl | rfl <;> simp only [doW] at hs ⊢ <;> simp at hs ⊢ <;> (rw [hv, hs]; simp [hv]; try (cases decide (i < 32) <;> simp))
end Go.Ev
/- Sums, constants, variables and bits of a book. -/
namespace Go.Ev
open Go Go.RowKit
variable {G : Tbl}
set_option maxRecDepth 10000
set_option maxHeartbeats 4000000
set_option linter.unusedSimpArgs false
set_option linter.unusedVariables false
variable {H : Heap} {b z m : Nat} {L : List Nd}
theorem sumNd_ok {f : List Nat} (hf : f.length = 35) : (sumNd f).ok := ⟨hf, rfl, rfl⟩
def putN (L : List Nd) (a : Nd) : Int × List Nd := ((L.idxOf a : Nat), insN L a)
def BF (G : Tbl) (f : Nat) (args : List V) (H : Heap) (b z m : Nat) (p : Int × List Nd) : Prop := SF G f (.ptr b 0 :: args) H (.int .i64 p.1) (upd H b z m p.2)
theorem sum_ok [HasSym G] (f : List Nat) (hf : f.length = 35) (h : Bk H b z m L) (hs : L.length < 1000000) : BF G 260 [.agg (cnats .u32 f)] H b z m (putN L (sumNd f)) := by
 have ht := take_full (k := .u32) hf
 have h1 : Bk (H ++ [some (.cells (cnats .u32 f))]) b z m L := h.app fun n => by simp [Blk.cl]
 have hu := h.upd_app [some (.cells (cnats .u32 f))] (insN L (sumNd f))
 have hbk := h.back (insN L (sumNd f)) [some (.cells (cnats .u32 f))]
 refine SF_of HasSym.h_sym_Book_sum (Nat.le_of_ble_eq_true rfl) ?_
 simp [-List.reduceReplicate, hf, ht, -fillC, nz, fill_sum f hf, ap0, apk, leTn, leFn]
 refine callSF_of (id_ok (sumNd f) (sumNd_ok hf) h1 hs) ?_
 simp [putN, hu, hbk]
theorem BConst_ok [HasAffine G] [HasSym G] (c : Nat) (h : Bk H b z m L) (hs : L.length < 1000000) : BF G 262 [.int .u32 c] H b z m (putN L (sumNd (c :: zeros 34))) := by
 have hbk := h.back (insN L (sumNd (c :: zeros 34))) []
 refine SF_of HasSym.h_sym_Book_Const (Nat.le_of_ble_eq_true rfl) ?_
 simp at hbk
 simp
 refine callP_of (affConst_ok c) ?_
 simp
 refine callSF_of (sum_ok (c :: zeros 34) (by simp) h hs) ?_
 simp [putN, hbk]
def varN (L : List Nd) (i : Int) : Int × List Nd := if 0 ≤ i ∧ i < 34 then putN L (sumNd (varL i.toNat)) else (-1, L)
theorem BVar_ok [HasAffine G] [HasSym G] (i : Int) (h : Bk H b z m L) (hs : L.length < 1000000) : BF G 263 [.int .i64 i] H b z m (varN L i) := by
 refine SF_of HasSym.h_sym_Book_Var (Nat.le_of_ble_eq_true rfl) ?_
 have hd : (cnats .u32 (zeros 35)).drop 35 = [] := rfl
 by_cases hi : i < 0 ∨ 34 ≤ i
 ·have hv : varN L i = (-1, L) := by rw [varN, if_neg (by omega)]
  have hbk := h.shut.back
  simp [hv, h.upd_self]
  refine callP_of (affVar_no i hi) ?_
  simp [hd, hbk]
 ·obtain ⟨n, rfl⟩ := Int.eq_ofNat_of_zero_le (show 0 ≤ i by omega)
  have hv : varN L n = putN L (sumNd (varL n)) := by rw [varN, if_pos (by omega)]; rfl
  have hl : (varL n).length = 35 := by simp [varL]
  have ht := take_full (k := .u32) hl
  have h1 : Bk (H ++ [some (.cells (cnats .u32 (varL n)))]) b z m L := h.app fun n => by simp [Blk.cl]
  have hu := h.upd_app [some (.cells (cnats .u32 (varL n)))] (insN L (sumNd (varL n)))
  have hbk := h.back (insN L (sumNd (varL n))) [some (.cells (cnats .u32 (varL n)))]
  have hsh := h1.shut.self
  simp at hsh
  simp [hv]
  refine callP_of (affVar_ok n (by omega)) ?_
  simp [hd, hl, ht, hsh]
  refine callSF_of (sum_ok (varL n) hl h1 hs) ?_
  simp [putN, hu, hbk]
def bitNd (fv : List Int) (ft : List Nat) : Nd := { Nd0 with kind := 1, n := fv.length, vars := fv.map Int.toNat ++ zeros (4 - fv.length), tab := ft ++ zeros (16 - ft.length) }
def ones : Nat := 4294967295
def bitsN (L : List Nd) (fv : List Int) (ft : List Nat) : Int × List Nd :=
 match fv with
 | [] => putN L (sumNd (ft.headD 0 :: zeros 34))
 | [i] => if ft = [0, ones] then putN L (sumNd (varL i.toNat)) else if ft = [ones, 0] then putN L (sumNd (fSub (ones :: zeros 34) (varL i.toNat))) else putN L (bitNd [i] ft)
 | fv => putN L (bitNd fv ft)
theorem Bbits_ok [HasAffine G] [HasSym G] (fv : List Int) (ft : List Nat) (hR : Right fv ft) (h : Bk H b z m L) (hs : L.length < 1000000) : BF G 261 [FV fv ft] H b z m (bitsN L fv ft) := by
 refine SF_of HasSym.h_sym_Book_bits (Nat.le_of_ble_eq_true rfl) ?_
 have h1 : Bk (H ++ [some (.cells [.vs (ints .i64 fv) .no, .vs (nats .u32 ft) .no])]) b z m L := h.app fun n => by simp [Blk.cl, clL, V.cl]
 obtain ⟨h4, hl, hm⟩ := hR
 match fv, h4, hl, hm, h1 with
 | [], _, hl, _, h1 => 
  obtain ⟨c, rfl⟩ : ∃ c, ft = [c] := by match ft, hl with | [c], _ => exact ⟨c, rfl⟩
  have hu := h.upd_app [some (.cells [.vs (ints .i64 []) .no, .vs (nats .u32 [c]) .no])] (insN L (sumNd (c :: zeros 34)))
  have hbk := h.back (insN L (sumNd (c :: zeros 34))) [some (.cells [.vs (ints .i64 []) .no, .vs (nats .u32 [c]) .no])]
  have hn : ∀ x : Nat, nats .u32 [x] = [[.int .u32 (x : Int)]] := fun _ => rfl
  simp only [hn, ints_nil] at h1 hu hbk
  have hsh := h1.shut.self
  simp at hsh
  simp [FV, bitsN, ap0, apk, leTn, leFn, hn, hsh]
  refine callSF_of (BConst_ok c h1 hs) ?_
  simp [putN, hu, hbk]
 | i :: t, h4, hl, hm, h1 => 
  have hlt : t.length + 1 ≤ 4 := by simpa using h4
  have hmt : ∀ v ∈ t, 0 ≤ v := fun v hv => by
   obtain ⟨j, hj, rfl⟩ := List.getElem_of_mem hv
   obtain ⟨w, hw, hw0, _⟩ := hm (j + 1) (by simp; omega)
   rw [List.getElem?_cons_succ, List.getElem?_eq_getElem hj] at hw
   cases hw; exact hw0
  obtain ⟨v, hv, hv0, hv34, _⟩ := hm 0 (by simp)
  obtain rfl : i = v := by simpa using hv
  obtain ⟨n, rfl⟩ := Int.eq_ofNat_of_zero_le hv0
  have hd : (cnats .u32 (zeros 35)).drop 35 = [] := rfl
  have hl2 : (varL n).length = 35 := by simp [varL]
  have ht := take_full (k := .u32) hl2
  obtain ⟨p, q, r, rfl⟩ : ∃ p q r, ft = p :: q :: r := by
   match ft, hl with
   | p :: q :: r, _ => exact ⟨p, q, r, rfl⟩
   | [p], hl => exfalso; have := Nat.one_le_two_pow (n := t.length); simp [Nat.pow_succ] at hl; omega
   | [], hl => exfalso; have := Nat.one_le_two_pow (n := t.length); simp [Nat.pow_succ] at hl; omega
  have h2 : Bk (H ++ [some (.cells [.vs (ints .i64 ((n : Int) :: t)) .no, .vs (nats .u32 (p :: q :: r)) .no]), some (.cells (cnats .u32 (varL n)))]) b z m L := h.app fun n => by simp [Blk.cl, clL, V.cl]
  have hsh1 := h1.shut.self
  have hsh2 := h2.shut.self
  simp at hsh1 hsh2
  simp (disch := omega) [FV, beqF, ap0, apk, leTn, leFn]
  refine callP_of (affVar_ok n (by omega)) ?_
  have cs : (t = [] ∧ p = 0 ∧ q = ones) ∨ (t = [] ∧ p = ones ∧ q = 0) ∨ (t ≠ [] ∨ t = [] ∧ p ≠ 0 ∧ p ≠ ones ∨ t = [] ∧ p = 0 ∧ q ≠ ones ∨ t = [] ∧ p = ones ∧ q ≠ 0) := by
   by_cases e1 : t = []
   ·simp only [e1, true_and, ne_eq, not_true, false_or, ones]; omega
   ·exact .inr (.inr (.inl e1))
  rcases cs with ⟨rfl, rfl, rfl⟩ | ⟨rfl, rfl, rfl⟩ | cs
  ·obtain rfl : r = [] := by simpa using hl
   have hu := h.upd_app [some (.cells [.vs (ints .i64 [(n : Int)]) .no, .vs (nats .u32 [0, ones]) .no]), some (.cells (cnats .u32 (varL n)))] (insN L (sumNd (varL n)))
   have hbk := h.back (insN L (sumNd (varL n))) [some (.cells [.vs (ints .i64 [(n : Int)]) .no, .vs (nats .u32 [0, ones]) .no]), some (.cells (cnats .u32 (varL n)))]
   have h2' := h2
   simp [ones, nats] at hu hbk h2'
   simp (disch := omega) [ones, nats, FV, beqF, ap0, apk, leTn, leFn, hd, ht, hl2, hsh1, hsh2]
   refine callSF_of (sum_ok (varL n) hl2 h2' hs) ?_
   simp [putN, hu, hbk, bitsN, ones]
  ·obtain rfl : r = [] := by simpa using hl
   have hl3 : (fSub (ones :: zeros 34) (varL n)).length = 35 := by simp [fSub, hl2]
   have hu := h.upd_app [some (.cells [.vs (ints .i64 [(n : Int)]) .no, .vs (nats .u32 [ones, 0]) .no]), some (.cells (cnats .u32 (varL n)))] (insN L (sumNd (fSub (ones :: zeros 34) (varL n))))
   have hbk := h.back (insN L (sumNd (fSub (ones :: zeros 34) (varL n)))) [some (.cells [.vs (ints .i64 [(n : Int)]) .no, .vs (nats .u32 [ones, 0]) .no]), some (.cells (cnats .u32 (varL n)))]
   have h2' := h2
   have hvw : ∀ x ∈ varL n, x < 4294967296 := fun x hx => by
    rw [varL] at hx
    rcases List.mem_or_eq_of_mem_set hx with hx | rfl
    ·rw [zeros, List.mem_replicate] at hx; omega
    ·omega
   simp [ones, nats] at hu hbk h2' hl3
   simp (disch := omega) [ones, nats, FV, beqF, ap0, apk, leTn, leFn, hd, ht, hl2, hsh1, hsh2]
   refine callP_of (affConst_ok 4294967295) ?_
   simp (disch := omega) [ones, nats, FV, beqF, ap0, apk, leTn, leFn, hd, ht, hl2, hsh1, hsh2]
   refine callP_of (fSub_ok (4294967295 :: zeros 34) (varL n) (by simp) hl2 hvw) ?_
   simp
   refine callSF_of (sum_ok _ hl3 h2' hs) ?_
   simp [putN, hu, hbk, bitsN, ones]
  ·have hbn : bitsN L ((n : Int) :: t) (p :: q :: r) = putN L (bitNd ((n : Int) :: t) (p :: q :: r)) := by
    cases t with
    | cons _ _ => rfl
    | nil =>
     obtain rfl : r = [] := by simpa using hl
     simp only [bitsN]
     rw [if_neg, if_neg]
     ·intro e; simp at e; simp at cs; omega
     ·intro e; simp at e; simp at cs; omega
   obtain ⟨a, ha⟩ : ∃ a, a = bitNd ((n : Int) :: t) (p :: q :: r) := ⟨_, rfl⟩
   have hlen : (p :: q :: r).length ≤ 16 := by rw [hl]; exact Nat.pow_le_pow_right (n := 2) (by decide) h4
   have hao : a.ok := by
    rw [ha]
    refine ⟨rfl, ?_, ?_⟩
    ·simp [bitNd]; omega
    ·simp [bitNd] at hlen ⊢; omega
   have hll : (cnats .u32 (zeros 35)).length = 35 := by simp
   obtain ⟨a1, ha1⟩ : ∃ a1 : Nd, a1 = { Nd0 with kind := 1, n := t.length + 1 } := ⟨_, rfl⟩
   obtain ⟨a2, ha2⟩ : ∃ a2 : Nd, a2 = { a1 with vars := ((n : Int) :: t).map Int.toNat ++ zeros (4 - (t.length + 1)) } := ⟨_, rfl⟩
   have haa : a = { a2 with tab := p :: q :: r ++ zeros (16 - (r.length + 2)) } := by rw [ha, ha2, ha1]; rfl
   have hfill : ∀ r : List (Nat × V), fillC (mkE ((66, .int .i64 ((t.length : Int) + 1)) :: r)) Nd0.cs [(0, 1, .c (.int .i64 1)), (36, 1, .t 66)] = some a1.cs := fun r => by
    have he : (mkE ((66, .int .i64 ((t.length : Int) + 1)) :: r)) 66 = .int .i64 ((t.length : Int) + 1) := by simp
    have hd : ∀ r : List V, (cnats .u32 (zeros 35) ++ r).drop 36 = r.drop 1 := fun r => by rw [show 36 = (cnats .u32 (zeros 35)).length + 1 by simp, List.drop_append]; simp
    simp [fillC, Nd0, Nd.cs, ha1, hd]
   have hl1 : a1.cs.length = 60 := Nd.len (by rw [ha1]; exact ⟨rfl, rfl, rfl⟩)
   have htk1 : a1.cs.take 60 = a1.cs := List.take_of_length_le (by omega)
   have hz60 : Nd0.cs.length = 60 := rfl
   have hd0 : Nd0.cs.drop 60 = [] := rfl
   obtain ⟨k4, hk4⟩ : ∃ k4, k4 = t.length + 1 := ⟨_, rfl⟩
   obtain ⟨k16, hk16⟩ : ∃ k16, k16 = r.length + 2 := ⟨_, rfl⟩
   have hsI : ∀ l : List Int, ((ints .i64 l).map List.length).sum = l.length := fun l => by induction l with
    | nil => rfl
    | cons x l ih => simp only [ints_cons, List.map_cons, List.sum_cons, ih, List.length_cons, List.length_nil]; omega
   have hsN : ∀ l : List Nat, ((nats .u32 l).map List.length).sum = l.length := fun l => by rw [nats_ints, ints, List.map_map]; induction l with
    | nil => rfl
    | cons x l ih => simp only [List.map_cons, List.sum_cons, List.map_map] at ih ⊢; rw [ih]; simp; omega
   have hm4 : min ((ints .i64 ((n : Int) :: t)).map List.length).sum 4 = k4 := by rw [hsI]; simp; omega
   have hm16 : min ((nats .u32 (p :: q :: r)).map List.length).sum 16 = k16 := by rw [hsN]; simp at hlen ⊢; omega
   have hi4 : (ints .i64 ((n : Int) :: t)).flatten = cnats .i64 (((n : Int) :: t).map Int.toNat) := by
    have : ∀ l : List Int, (∀ v ∈ l, 0 ≤ v) → (ints .i64 l).flatten = cnats .i64 (l.map Int.toNat) := fun l => by
     induction l with
     | nil => intro _; rfl
     | cons x l ih =>
      intro hx
      rw [ints_cons, List.flatten_cons, ih (fun v hv => hx v (by simp [hv]))]
      have := hx x (by simp)
      simp [cnats]; omega
    exact this _ fun v hv => by rcases List.mem_cons.1 hv with rfl | hv; omega; exact hmt v hv
   have hi16 : (nats .u32 (p :: q :: r)).flatten = cnats .u32 (p :: q :: r) := by
    have : ∀ l : List Nat, (nats .u32 l).flatten = cnats .u32 l := fun l => by
     induction l with
     | nil => rfl
     | cons x l ih => rw [nats_cons, List.flatten_cons, ih]; rfl
    exact this _
   have ht4 : (cnats .i64 (((n : Int) :: t).map Int.toNat)).take k4 = cnats .i64 (((n : Int) :: t).map Int.toNat) := List.take_of_length_le (by simp; omega)
   have ht16 : (cnats .u32 (p :: q :: r)).take k16 = cnats .u32 (p :: q :: r) := List.take_of_length_le (by simp; omega)
   have c37 : ∀ c : Nd, c.ok → c.cs.take 37 = .int .i64 (c.kind : Int) :: (cnats .u32 c.f ++ [.int .i64 (c.n : Int)]) ∧ c.cs.drop 37 = cnats .i64 c.vars ++ (cnats .u32 c.tab ++ [.int .i64 c.op, .int .i64 (c.x : Int), .int .i64 (c.y : Int)]) := fun c hc => by
    have e : c.cs = (.int .i64 (c.kind : Int) :: (cnats .u32 c.f ++ [.int .i64 (c.n : Int)])) ++ (cnats .i64 c.vars ++ (cnats .u32 c.tab ++ [.int .i64 c.op, .int .i64 (c.x : Int), .int .i64 (c.y : Int)])) := by simp [Nd.cs]
    have hl : (V.int .i64 (c.kind : Int) :: (cnats .u32 c.f ++ [.int .i64 (c.n : Int)])).length = 37 := by simp [hc.1]
    rw [e]
    exact ⟨List.take_left' hl, List.drop_left' hl⟩
   have c41 : ∀ c : Nd, c.ok → c.cs.take 41 = .int .i64 (c.kind : Int) :: (cnats .u32 c.f ++ .int .i64 (c.n : Int) :: cnats .i64 c.vars) ∧ c.cs.drop 41 = cnats .u32 c.tab ++ [.int .i64 c.op, .int .i64 (c.x : Int), .int .i64 (c.y : Int)] := fun c hc => by
    have e : c.cs = (.int .i64 (c.kind : Int) :: (cnats .u32 c.f ++ .int .i64 (c.n : Int) :: cnats .i64 c.vars)) ++ (cnats .u32 c.tab ++ [.int .i64 c.op, .int .i64 (c.x : Int), .int .i64 (c.y : Int)]) := by simp [Nd.cs]
    have hl : (V.int .i64 (c.kind : Int) :: (cnats .u32 c.f ++ .int .i64 (c.n : Int) :: cnats .i64 c.vars)).length = 41 := by simp [hc.1, hc.2.1]
    rw [e]
    exact ⟨List.take_left' hl, List.drop_left' hl⟩
   have hao1 : a1.ok := by rw [ha1]; exact ⟨rfl, rfl, rfl⟩
   have hao2 : a2.ok := by rw [ha2, ha1]; refine ⟨rfl, ?_, rfl⟩; simp; omega
   have dz : ∀ (k : IntKind) (n j : Nat) (r : List V), j ≤ n → (cnats k (zeros n) ++ r).drop j = cnats k (zeros (n - j)) ++ r := fun k n j r h => by
    rw [List.drop_append_of_le_length (by simp; exact h), cnats, ← List.map_drop, zeros, List.drop_replicate]; rfl
   have m1 : a1.cs.take 37 ++ (cnats .i64 (((n : Int) :: t).map Int.toNat) ++ a1.cs.drop (37 + k4)) = a2.cs := by
    rw [← List.drop_drop, (c37 a1 hao1).1, (c37 a1 hao1).2, show a1.vars = zeros 4 by rw [ha1]; rfl, dz .i64 4 k4 _ (by omega), ha2, hk4]
    simp [Nd.cs, ha1, cnats]
   have m2 : a2.cs.take 41 ++ (cnats .u32 (p :: q :: r) ++ a2.cs.drop (41 + k16)) = a.cs := by
    rw [← List.drop_drop, (c41 a2 hao2).1, (c41 a2 hao2).2, show a2.tab = zeros 16 by rw [ha2, ha1]; rfl, dz .u32 16 k16 _ (by simp at hlen; omega), haa, hk16]
    simp [Nd.cs, cnats]
   have hla := Nd.len hao
   have hla2 := Nd.len hao2
   have hta : a.cs.take 60 = a.cs := List.take_of_length_le (by omega)
   have hcl1 : ∀ (c : Nd) (n : Nat), clL n c.cs = c.cs := fun c n => by rw [clL_eq_map]; simp [Nd.cs, cnats, Function.comp_def, V.cl]
   have h3 : Bk (H ++ [some (.cells [.vs (ints .i64 ((n : Int) :: t)) .no, .vs (nats .u32 (p :: q :: r)) .no]), some (.cells (cnats .u32 (varL n))), some (.cells a.cs)]) b z m L := h.app fun n => by simp [Blk.cl, hcl1, clL, V.cl]
   have hu := h.upd_app [some (.cells [.vs (ints .i64 ((n : Int) :: t)) .no, .vs (nats .u32 (p :: q :: r)) .no]), some (.cells (cnats .u32 (varL n))), some (.cells a.cs)] (insN L a)
   have hbk := h.back (insN L a) [some (.cells [.vs (ints .i64 ((n : Int) :: t)) .no, .vs (nats .u32 (p :: q :: r)) .no]), some (.cells (cnats .u32 (varL n))), some (.cells a.cs)]
   rw [hbn, ← ha]
   rw [hk4] at m1 ht4
   rw [hk16] at m2 ht16
   rw [show r.length + 2 = r.length + 1 + 1 from rfl] at m2 ht16
   simp only [List.map_cons, Int.toNat_natCast] at m1 ht4
   rcases cs with cs | ⟨rfl, cs, cs'⟩ | ⟨rfl, rfl, cs⟩ | ⟨rfl, rfl, cs⟩
   ·have htl : 0 < t.length := List.length_pos_iff.2 cs
    simp (disch := omega) [-fillC, nz, FV, beqF, ap0, apk, leTn, leFn, set0, setk, hd, ht, hl2, hsh1, hsh2, hfill, hl1, htk1, hz60, hd0, hm4, hm16, hi4, hi16, ht4, ht16, m1, m2, hla, hla2, hta]
    refine callSF_of (id_ok a hao h3 hs) ?_
    simp [putN, hu, hbk]
   ·have hp0 : ((p : Int) == 0) = false := beqF (by omega)
    have hp1 : ((p : Int) == 4294967295) = false := beqF (by rw [ones] at cs'; omega)
    have hfill1 : ∀ r, fillC (mkE ((66, .int .i64 1) :: r)) Nd0.cs [(0, 1, .c (.int .i64 1)), (36, 1, .t 66)] = some a1.cs := fun r => hfill r
    simp [ones] at m1 ht4 m2 ht16 h3 hu hbk
    simp (disch := omega) [hp0, hp1, hfill1, -fillC, nz, FV, beqF, ap0, apk, leTn, leFn, set0, setk, hd, ht, hl2, hsh1, hsh2, hfill, hl1, htk1, hz60, hd0, hm4, hm16, hi4, hi16, ht4, ht16, m1, m2, hla, hla2, hta]
    refine callSF_of (id_ok a hao h3 hs) ?_
    simp [putN, hu, hbk]
   ·have hp1 : ((q : Int) == 4294967295) = false := beqF (by rw [ones] at cs; omega)
    have hfill1 : ∀ r, fillC (mkE ((66, .int .i64 1) :: r)) Nd0.cs [(0, 1, .c (.int .i64 1)), (36, 1, .t 66)] = some a1.cs := fun r => hfill r
    simp [ones] at m1 ht4 m2 ht16 h3 hu hbk
    simp (disch := omega) [hp1, hfill1, -fillC, nz, FV, beqF, ap0, apk, leTn, leFn, set0, setk, hd, ht, hl2, hsh1, hsh2, hfill, hl1, htk1, hz60, hd0, hm4, hm16, hi4, hi16, ht4, ht16, m1, m2, hla, hla2, hta]
    refine callSF_of (id_ok a hao h3 hs) ?_
    simp [putN, hu, hbk]
   ·have hp1 : ((q : Int) == 0) = false := beqF (by omega)
    have hfill1 : ∀ r, fillC (mkE ((66, .int .i64 1) :: r)) Nd0.cs [(0, 1, .c (.int .i64 1)), (36, 1, .t 66)] = some a1.cs := fun r => hfill r
    simp [ones] at m1 ht4 m2 ht16 h3 hu hbk
    simp only [ones] at hm16 hi16
    simp (disch := omega) [ones, hp1, hfill1, -fillC, nz, FV, beqF, ap0, apk, leTn, leFn, set0, setk, hd, ht, hl2, hsh1, hsh2, hfill, hl1, htk1, hz60, hd0, hm4, hm16, hi4, hi16, ht4, ht16, m1, m2, hla, hla2, hta]
    refine callSF_of (id_ok a hao h3 hs) ?_
    simp [putN, hu, hbk]
end Go.Ev
/- What a book's values are. -/
namespace Go.Ev
open Go Go.RowKit
variable {G : Tbl}
set_option maxRecDepth 10000
set_option maxHeartbeats 4000000
set_option linter.unusedSimpArgs false
set_option linter.unusedVariables false
variable {H : Heap} {b z m : Nat} {L : List Nd}
def asB (a : Nd) : Option (List Int × List Nat) :=
 if a.kind = 1 then some ((a.vars.take a.n).map fun (x : Nat) => (x : Int), a.tab.take (2 ^ a.n))
 else if a.kind = 0 then (match fConst a.f with
  | some c => some ([], [c])
  | none => match fOne a.f with
   | some i => some ([(i : Int)], [0, ones])
   | none => match fOne (fSub (ones :: zeros 34) a.f) with
    | some i => some ([(i : Int)], [ones, 0])
    | none => none)
 else none
def asBV (o : Option (List Int × List Nat)) : V := match o with
 | some p => .tup [FV p.1 p.2, .bool true]
 | none => .tup [.agg [.vs [] .full, .vs [] .full], .bool false]
theorem chunks_nats (k : IntKind) (r : List V) : ∀ (n : Nat) (l : List Nat), n ≤ l.length → chunks 1 n (cnats k l ++ r) = nats k (l.take n)
 | 0, _, _ => by simp [chunks]
 | n + 1, [], h => by simp at h
 | n + 1, x :: l, h => by
  have ih := chunks_nats k r n l (by simpa using h)
  simp only [cnats, List.map_cons, List.cons_append, chunks, List.take_succ_cons, nats_cons]
  rw [show (V.int k (x : Int) :: ((l.map fun (x : Nat) => V.int k (x : Int)) ++ r)).drop 1 = cnats k l ++ r from rfl, ih]
  rfl
theorem Nd.cs_cl (n : Nat) (c : Nd) : clL n c.cs = c.cs := by rw [clL_eq_map]; simp [Nd.cs, cnats, Function.comp_def, V.cl]
theorem right_var (i : Nat) (hi : i < 34) : Right [(i : Int)] [0, ones] ∧ Right [(i : Int)] [ones, 0] := by
 constructor
 all_goals
  refine ⟨by simp, by simp, fun j hj => ?_⟩
  obtain rfl : j = 0 := by simpa using hj
  exact ⟨_, rfl, by omega, by omega, fun u h => absurd h (by omega), by decide⟩
theorem xor_ones [HasBits G] (i : Nat) (hi : i < 34) : FP G 109 [.int .i64 164, FV [(i : Int)] [0, ones], FV [] [ones]] (.tup [FV [(i : Int)] [ones, 0], .bool true]) := by
 obtain ⟨r1, r2⟩ := right_var i hi
 have r3 : Right [] [ones] := ⟨by simp, by simp, fun j hj => by simp at hj⟩
 exact Do_is (by infer_instance) ⟨by decide, r1, r3, by simp [mer]⟩ (by simp [ones]) (by simp [ones]) r2 fun p => by cases h : p (i : Int) <;> simp [sem, idx, h, doW, ones]
theorem asBits_ok [HasAffine G] [HasBits G] [HasSym G] (x : Nat) (a : Nd) (h : Bk H b z m L) (hx : L[x]? = some a) (hn : a.kind = 1 → a.n ≤ 4) (hw : ∀ c ∈ a.f, c < 4294967296) : SF G 265 [.ptr b 0, .int .i64 x] H (asBV (asB a)) H := by
 refine SF_of HasSym.h_sym_Book_asBits (Nat.le_of_ble_eq_true rfl) ?_
 have hlt := h.lb
 have hb := h.hb'
 have hb2 : ∀ r : Heap, (H ++ r)[b]? = some (some (.cells [.vs (nds L) (.own z), .mp m])) := fun r => by rw [List.getElem?_append_left hlt]; exact hb
 have hg := nds_get hx
 have hao := h.ok a (List.mem_of_getElem? hx)
 have hl := Nd.len hao
 have htk : a.cs.take 60 = a.cs := List.take_of_length_le (by omega)
 have hd0 : Nd0.cs.drop 60 = [] := rfl
 have hz60 : Nd0.cs.length = 60 := rfl
 have hbk := h.shut.back
 have g0 : a.cs.head? = some (.int .i64 (a.kind : Int)) := rfl
 have t1 : a.cs.take 1 = [.int .i64 (a.kind : Int)] := rfl
 have e36 : a.cs = (.int .i64 (a.kind : Int) :: cnats .u32 a.f) ++ (.int .i64 (a.n : Int) :: (cnats .i64 a.vars ++ (cnats .u32 a.tab ++ [.int .i64 a.op, .int .i64 (a.x : Int), .int .i64 (a.y : Int)]))) := by simp [Nd.cs]
 have l36 : (V.int .i64 (a.kind : Int) :: cnats .u32 a.f).length = 36 := by simp [hao.1]
 have d36 : a.cs.drop 36 = .int .i64 (a.n : Int) :: (cnats .i64 a.vars ++ (cnats .u32 a.tab ++ [.int .i64 a.op, .int .i64 (a.x : Int), .int .i64 (a.y : Int)])) := by rw [e36]; exact List.drop_left' l36
 have d37 : a.cs.drop 37 = cnats .i64 a.vars ++ (cnats .u32 a.tab ++ [.int .i64 a.op, .int .i64 (a.x : Int), .int .i64 (a.y : Int)]) := by rw [show 37 = 36 + 1 from rfl, ← List.drop_drop, d36]; rfl
 have d41 : a.cs.drop 41 = cnats .u32 a.tab ++ [.int .i64 a.op, .int .i64 (a.x : Int), .int .i64 (a.y : Int)] := by rw [show 41 = 37 + 4 from rfl, ← List.drop_drop, d37]; exact List.drop_left' (by simp [hao.2.1])
 have t36 : (a.cs.drop 36).take 1 = [.int .i64 (a.n : Int)] := by rw [d36]; rfl
 have t35 : (a.cs.drop 1).take 35 = cnats .u32 a.f := by
  show (cnats .u32 a.f ++ _).take 35 = _
  rw [List.take_left' (by simp [hao.1])]
 have t35' : a.cs.tail.take 35 = cnats .u32 a.f := by rw [← List.drop_one]; exact t35
 have hne' : (H.length = b) = False := eq_false (by omega)
 have hnz : (b = H.length) = False := eq_false (by omega)
 by_cases hk1 : a.kind = 1
 ·have hk : ((a.kind : Int) == 1) = true := beqT (by omega)
  have hn4 := hn hk1
  have hn4' : ((a.n : Int) ≤ 4) = True := eq_true (by omega)
  have hp16 : 2 ^ a.n ≤ 16 := Nat.pow_le_pow_right (n := 2) (by decide) hn4
  obtain ⟨w, hw⟩ : ∃ w, w = 2 ^ a.n := ⟨_, rfl⟩
  have hsh : shlI .i64 1 (a.n : Int) = (w : Int) := by rw [hw]; exact shl1 (by omega)
  rw [← hw] at hp16
  have hn0 : ((a.n : Int) < 0) = False := eq_false (by omega)
  have hpure : a.cs.all V.pure = true := by simp [Nd.cs, cnats, V.pure]
  have hc1 : chunks 1 a.n (a.cs.drop 37) = ints .i64 ((a.vars.take a.n).map fun (x : Nat) => (x : Int)) := by rw [d37, chunks_nats _ _ _ _ (by rw [hao.2.1]; exact hn4), nats_ints]; rfl
  have hc2 : chunks 1 w (a.cs.drop 41) = nats .u32 (a.tab.take w) := by rw [d41, chunks_nats _ _ _ _ (by rw [hao.2.2]; exact hp16)]
  have hasb : asB a = some ((a.vars.take a.n).map fun (x : Nat) => (x : Int), a.tab.take w) := by rw [asB, if_pos hk1, hw]
  have hp16' : ((w : Int) ≤ 16) = True := eq_true (by omega)
  simp (disch := omega) [nz, hn4', hsh, hp16', hn0, hpure, hc1, hc2, hasb, asBV, FV, hbk, hb2, hb, hg, hl, htk, hd0, hz60, ap0, apk, set0, setk, leTn, leFn, hne', t1, t36, hk]
 ·have hk : ((a.kind : Int) == 1) = false := beqF (by omega)
  by_cases hk0 : a.kind = 0
  ·have hk0' : ((a.kind : Int) != 0) = false := bneF (by omega)
   have hfc := fConst_ok (G := G) a.f hao.1
   have hpf := take_full (k := .u32) hao.1
   have hsh : ∀ r : List Blk, True := fun _ => trivial
   cases hc : fConst a.f with
   | some c =>
    have hasb : asB a = some ([], [c]) := by rw [asB, if_neg hk1, if_pos hk0, hc]
    simp (disch := omega) [-List.reduceReplicate, nz, hk0', hasb, asBV, FV, hbk, hb2, hb, hg, hl, htk, hd0, hz60, ap0, apk, set0, setk, leTn, leFn, hne', t1, t35, t35', hk]
    refine callP_of hfc ?_
    simp (disch := omega) [-List.reduceReplicate, hc, nz, hk0', hasb, asBV, FV, hbk, hb2, hb, hg, hl, htk, hd0, hz60, ap0, apk, set0, setk, leTn, leFn, hne', t1, t35, t35', hk]
    refine callP_of (Const_ok (by infer_instance) c) ?_
    simp (disch := omega) [-List.reduceReplicate, hc, nz, hk0', hasb, asBV, FV, hbk, hb2, hb, hg, hl, htk, hd0, hz60, ap0, apk, set0, setk, leTn, leFn, hne', t1, t35, t35', hk]
   | none =>
    have hl3 : (fSub (ones :: zeros 34) a.f).length = 35 := by simp [fSub, hao.1]
    obtain ⟨tf, htf⟩ : ∃ tf, tf = fSub (ones :: zeros 34) a.f := ⟨_, rfl⟩
    have hsu := fSub_ok (G := G) (ones :: zeros 34) a.f (by simp) hao.1 hw
    rw [← htf] at hl3 hsu
    have hpt := take_full (k := .u32) hl3
    have hd35 : (cnats .u32 (zeros 35)).drop 35 = [] := rfl
    simp (disch := omega) [-List.reduceReplicate, nz, hk0', hbk, hb2, hb, hg, hl, htk, hd0, hz60, ap0, apk, set0, setk, leTn, leFn, hne', t1, t35, t35', hk]
    refine callP_of hfc ?_
    simp (disch := omega) [-List.reduceReplicate, hc, nz, hk0', hbk, hb2, hb, hg, hl, htk, hd0, hz60, ap0, apk, set0, setk, leTn, leFn, hne', t1, t35, t35', hk]
    refine callP_of (affConst_ok 4294967295) ?_
    simp (disch := omega) [-List.reduceReplicate, hc, nz, hk0', hbk, hb2, hb, hg, hl, htk, hd0, hz60, ap0, apk, set0, setk, leTn, leFn, hne', t1, t35, t35', hk]
    refine callP_of hsu ?_
    simp (disch := omega) [-List.reduceReplicate, hc, nz, hk0', hbk, hb2, hb, hg, hl, htk, hd0, hz60, ap0, apk, set0, setk, leTn, leFn, hne', t1, t35, t35', hk, hl3, hpt, hpf, hao.1, hd35]
    have h3 : Bk (H ++ [some (.cells [.vs [] .full, .vs [] .full]), some (.cells a.cs), some (.cells (cnats .u32 tf))]) b z m L := h.app fun n => by simp [Blk.cl, clL, V.cl, Nd.cs_cl]
    have hb3 := h3.shut.back
    have hs3 := h3.shut.self
    simp at hb3 hs3
    have hsl : (((List.replicate 2 (cnats .u32 (zeros 35))).set 0 (cnats .u32 a.f)).set 1 (cnats .u32 tf)) = [cnats .u32 a.f, cnats .u32 tf] := rfl
    rw [hsl]
    refine W_up 2 (fun i => [(4, .ptr H.length 0), (6, .ptr (H.length + 1) 0), (56, .vs [cnats .u32 a.f, cnats .u32 tf] .full), (57, .int .i64 2), (58, .int .i64 i)]) (fun _ => H ++ [some (.cells [.vs [] .full, .vs [] .full]), some (.cells a.cs), some (.cells (cnats .u32 tf))])
     (fun i => (0 < i → fOne a.f = none) ∧ (1 < i → fOne tf = none)) ?_ ?_
    ·simp [keep_cl, hs3]
    intro i hi hp
    by_cases hlt : i < 2
    ·obtain ⟨g, hgg, hgl, hgi⟩ : ∃ g, [cnats .u32 a.f, cnats .u32 tf][i]? = some (cnats .u32 g) ∧ g.length = 35 ∧ (i = 0 ∧ g = a.f ∨ i = 1 ∧ g = tf) := by
      rcases (show i = 0 ∨ i = 1 by omega) with rfl | rfl
      ·exact ⟨a.f, rfl, hao.1, .inl ⟨rfl, rfl⟩⟩
      ·exact ⟨tf, rfl, hl3, .inr ⟨rfl, rfl⟩⟩
     have hog := fOne_ok (G := G) g hgl
     have htg := take_full (k := .u32) hgl
     have hge : ([cnats .u32 a.f, cnats .u32 tf][i]'(by simp; omega)) = cnats .u32 g := (List.getElem?_eq_some_iff.1 hgg).2
     have heq := eqks_k .u32 (n := 35) (a := g) (b := a.f) hgl hao.1
     have hb4 : ∀ (r : Heap), trunc (H.length + 3) (H ++ some (.cells [.vs [] .full, .vs [] .full]) :: some (.cells a.cs) :: some (.cells (cnats .u32 tf)) :: r) = H ++ [some (.cells [.vs [] .full, .vs [] .full]), some (.cells a.cs), some (.cells (cnats .u32 tf))] := fun r => by
      have := h3.shut.back r
      simpa using this
     simp (disch := omega) [-List.reduceReplicate, ltT, hlt, hge, hgl, htg, hd35, ap0, apk, set0, setk, leTn, leFn]
     refine callP_of hog ?_
     cases hog2 : fOne g with
     | none =>
      have hp' : fOne a.f = none ∧ (0 < i → fOne tf = none) := by
       rcases hgi with ⟨rfl, rfl⟩ | ⟨rfl, rfl⟩
       ·exact ⟨hog2, fun h => by omega⟩
       ·exact ⟨hp.1 (by omega), fun _ => hog2⟩
      simp (disch := omega) [-List.reduceReplicate, ltT, hlt, hge, hgl, htg, hd35, ap0, apk, set0, setk, leTn, leFn, -Int.natCast_add, add1', keep_cl, hp', hb4]
      exact hp'.2
     | some j =>
      have hj : j < 34 := by
       have := List.mem_of_find?_eq_some hog2
       exact List.mem_range.1 this
      have hv := Var_ok (G := G) (by infer_instance) (j : Int)
      rw [if_pos ⟨by omega, by omega⟩] at hv
      simp (disch := omega) [-List.reduceReplicate, ltT, hlt, hge, hgl, htg, hd35, ap0, apk, set0, setk, leTn, leFn]
      refine callP_of hv ?_
      simp (disch := omega) [FV, -List.reduceReplicate, ltT, hlt, hge, hgl, htg, hd35, ap0, apk, set0, setk, leTn, leFn, t1, t35, t35', hao.1, hl, hpf]
      rcases hgi with ⟨rfl, rfl⟩ | ⟨rfl, rfl⟩
      ·have hasb : asB a = some ([(j : Int)], [0, ones]) := by rw [asB, if_neg hk1, if_pos hk0, hc]; simp only [hog2]
       simp only [decide_true] at heq
       simp (disch := omega) [hasb, asBV, FV, ones, hbk, -List.reduceReplicate, heq, ap0, apk, set0, setk, leTn, leFn]
      ·have hne2 : g ≠ a.f := fun e => by rw [e, hp.1 (by omega)] at hog2; cases hog2
       have hasb : asB a = some ([(j : Int)], [ones, 0]) := by rw [asB, if_neg hk1, if_pos hk0, hc]; simp only [hp.1 (by omega), ← htf, hog2]
       rw [decide_eq_false hne2] at heq
       simp (disch := omega) [hasb, asBV, FV, ones, hbk, -List.reduceReplicate, heq, ap0, apk, set0, setk, leTn, leFn]
       refine callP_of (Const_ok (by infer_instance) 4294967295) ?_
       simp (disch := omega) [hasb, asBV, FV, ones, hbk, -List.reduceReplicate, heq, ap0, apk, set0, setk, leTn, leFn]
       have hx := xor_ones (G := G) j hj
       simp only [FV, ones] at hx
       refine callP_of hx ?_
       simp (disch := omega) [hasb, asBV, FV, ones, hbk, -List.reduceReplicate, heq, ap0, apk, set0, setk, leTn, leFn]
    ·obtain rfl : i = 2 := by omega
     have h1 := hp.1 (by omega)
     have h2 := hp.2 (by omega)
     have hasb : asB a = none := by rw [asB, if_neg hk1, if_pos hk0, hc]; simp only [h1, ← htf, h2]
     simp (disch := omega) [-List.reduceReplicate, hasb, asBV, hbk, ap0, apk, set0, setk, leTn, leFn]
  ·have hasb : asB a = none := by rw [asB, if_neg hk1, if_neg hk0]
   have hk0' : ((a.kind : Int) != 0) = true := bneT (by omega)
   simp (disch := omega) [-List.reduceReplicate, nz, hk0', hasb, asBV, FV, hbk, hb2, hb, hg, hl, htk, hd0, hz60, ap0, apk, set0, setk, leTn, leFn, hne', t1, t36, hk]
end Go.Ev
