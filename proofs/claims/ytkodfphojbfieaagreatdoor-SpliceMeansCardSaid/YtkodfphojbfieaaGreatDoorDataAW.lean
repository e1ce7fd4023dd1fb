/- A record's words, by data. -/
import Derived.Test.YtkodfphojbfieaaGreatDoorInsAW
import Derived.Test.YtkodfphojbfieaaGreatDoorEvSW
import Derived.Test.YtkodfphojbfieaaGreatDoorEvSymCW
import Derived.Test.YtkodfphojbfieaaGreatDoorEvMW
set_option linter.unusedVariables false
set_option linter.unusedSimpArgs false
namespace Go.Ev
open Go Go.RowKit
variable {G : Tbl}
set_option maxRecDepth 10000
set_option maxHeartbeats 2000000
set_option linter.unusedSimpArgs false
set_option linter.unusedVariables false
def lo (v : Nat) : Nat := v % 4294967296
def hi (v : Nat) : Nat := v / 4294967296 % 4294967296
def wordsD (d : Da) : List Nat := [d.nr, d.arch, lo d.ip, hi d.ip] ++ d.args.flatMap fun a => [lo a, hi a]
theorem flat2_len (l : List Nat) : (l.flatMap fun a => [lo a, hi a]).length = 2 * l.length := by
 induction l with
 | nil => rfl
 | cons a l ih => simp only [List.flatMap_cons, List.length_append, ih, List.length_cons, List.length_nil]; omega
theorem flat2_get : ∀ (l : List Nat) (i : Nat) (h : i < l.length), (l.flatMap fun a => [lo a, hi a])[2 * i]? = some (lo l[i]) ∧ (l.flatMap fun a => [lo a, hi a])[2 * i + 1]? = some (hi l[i])
 | [], i, h => by simp at h
 | a :: l, 0, _ => by simp
 | a :: l, i + 1, h => by
  have := flat2_get l i (by simpa using h)
  rw [show 2 * (i + 1) = 2 * i + 2 by omega, show 2 * i + 2 + 1 = 2 * i + 1 + 2 by omega]
  simpa using this
theorem wordsD_len {d : Da} (h : d.args.length = 6) : (wordsD d).length = 16 := by rw [wordsD, List.length_append, flat2_len, h]; rfl
theorem lo_lt (v : Nat) : lo v < 4294967296 := Nat.mod_lt _ (by decide)
theorem hi_lt (v : Nat) : hi v < 4294967296 := Nat.mod_lt _ (by decide)
theorem wordsD_lt {d : Da} (h : d.ok) : ∀ w ∈ wordsD d, w < 4294967296 := by
 intro w hw
 simp only [wordsD, List.mem_append, List.mem_cons, List.not_mem_nil, or_false, List.mem_flatMap] at hw
 rcases hw with (rfl | rfl | rfl | rfl) | ⟨a, _, rfl | rfl⟩
 ·exact h.1
 ·exact h.2.1
 ·exact lo_lt _
 ·exact hi_lt _
 ·exact lo_lt _
 ·exact hi_lt _
theorem conv_lo (v : Nat) : convI .u32 (v : Int) = ((lo v : Nat) : Int) := rfl
theorem shr_hi (v : Nat) (h : v < 18446744073709551616) : shrI .u64 (v : Int) 32 = ((v / 4294967296 : Nat) : Int) := by
 unfold shrI
 have : (min (32 : Int).toNat IntKind.u64.bits) = 32 := by decide
 rw [this]
 change (v : Int).fdiv 4294967296 = _
 rw [Int.fdiv_eq_ediv_of_nonneg _ (by decide)]
 rfl
theorem lo_hi (v : Nat) : lo (v / 4294967296) = hi v := rfl
def H4 (cs : List V) (l : List Nat) (n : Nat) : Heap := [some (.cells cs), some (.cells (cnats .u32 (zeros 16))), some (.cells (cnats .u32 l)), some (.cells [.int .i64 n])]
theorem put_ok [HasData G] (cs : List V) (l : List Nat) (n v : Nat) (hl : l.length = 16) (hn : n + 1 < 16) (hv : v < 18446744073709551616) :
  Big G (.F 159 [.int .u64 v, .ptr 2 0, .ptr 3 0] (H4 cs l n) (.tup []) (H4 cs ((l.set n (lo v)).set (n + 1) (hi v)) (n + 2))) := by
 refine F_of HasData.h_data_words_1 (Nat.le_of_ble_eq_true rfl) ?_
 have c1 := cnats_set .u32 l n (lo v) (by omega)
 have c2 := cnats_set .u32 (l.set n (lo v)) (n + 1) (hi v) (by simp; omega)
 have e1 : addI .i64 (n : Int) 1 = ((n + 1 : Nat) : Int) := add1' (by omega)
 have e2 : addI .i64 (n : Int) 2 = ((n + 2 : Nat) : Int) := addL (n := 2) (by omega)
 have e3 := shr_hi v hv
 have i1 : ((n : Int) < 16) = True := ltT (by omega)
 have i2 : (((n + 1 : Nat) : Int) < 16) = True := ltT (by omega)
 have j1 : (n + 1 ≤ 16) = True := leTn (by omega)
 have j2 : (n + 1 + 1 ≤ 16) = True := leTn (by omega)
 have j3 : (n ≤ 14) = True := leTn (by omega)
 simp [H4, e1, e2, e3, conv_lo, lo_hi, hl, i1, i2, j1, j3, c1, c2, -Int.natCast_add, -Int.natCast_ediv]
theorem convU (v : Nat) (h : v < 18446744073709551616) : convI .u64 (v : Int) = (v : Int) := by unfold convI; exact IntWalk.u64_in _ ⟨by omega, by omega⟩
theorem or_two (a b : Nat) (ha : a < 4294967296) (hb : b < 4294967296) : orI .u64 (a : Int) (shlI .u64 (b : Int) 32) = ((a + b * 4294967296 : Nat) : Int) := by
 have h1 : shlI .u64 (b : Int) 32 = ((b * 4294967296 : Nat) : Int) := by
  unfold shlI
  have : (min (32 : Int).toNat IntKind.u64.bits) = 32 := by decide
  rw [this]
  rw [show ((b : Int) * 2 ^ 32) = ((b * 4294967296 : Nat) : Int) by omega]
  exact IntWalk.u64_in _ ⟨by omega, by omega⟩
 rw [h1]
 change IntKind.u64.wrap ((BitVec.ofInt 64 (a : Int) ||| BitVec.ofInt 64 ((b * 4294967296 : Nat) : Int)).toNat : Int) = _
 rw [ofInt_nat, ofInt_nat]
 have h2 : (BitVec.ofNat 64 a ||| BitVec.ofNat 64 (b * 4294967296)).toNat = a + b * 4294967296 := by
  rw [BitVec.toNat_or, BitVec.toNat_ofNat, BitVec.toNat_ofNat, Nat.mod_eq_of_lt (by omega), Nat.mod_eq_of_lt (by omega)]
  have := Nat.two_pow_add_eq_or_of_lt (i := 32) (b := a) (by omega) b
  rw [Nat.or_comm, Nat.mul_comm, show (4294967296 : Nat) = 2 ^ 32 from rfl, ← this]
  omega
 rw [h2]
 exact IntWalk.u64_in _ ⟨by omega, by omega⟩
def fillW (d : Da) (i : Nat) : List Nat := (wordsD d).take (4 + 2 * i) ++ zeros (12 - 2 * i)
theorem fillW_len {d : Da} (h : d.args.length = 6) {i : Nat} (hi : i ≤ 6) : (fillW d i).length = 16 := by
 simp [fillW, wordsD_len h]; omega
theorem fillW_get {d : Da} (h : d.args.length = 6) {i : Nat} (hi : i ≤ 6) (j : Nat) : (fillW d i)[j]? = if j < 4 + 2 * i then (wordsD d)[j]? else if j < 16 then some 0 else none := by
 have hl := wordsD_len h
 rw [fillW, List.getElem?_append, List.length_take, hl, List.getElem?_take]
 by_cases h1 : j < 4 + 2 * i
 ·rw [if_pos (by omega), if_pos h1, if_pos h1]
 ·rw [if_neg (by omega), if_neg h1]
  by_cases h2 : j < 16
  ·rw [if_pos h2]; simp [zeros, List.getElem?_replicate]; omega
  ·rw [if_neg h2]; simp [zeros, List.getElem?_replicate]; omega
theorem fillW_step {d : Da} (h : d.args.length = 6) {i : Nat} (hlt : i < 6) : ((fillW d i).set (4 + 2 * i) (lo d.args[i])).set (4 + 2 * i + 1) (hi d.args[i]) = fillW d (i + 1) := by
 have hl := fillW_len h (show i ≤ 6 by omega)
 have hw := flat2_get d.args i (by omega)
 have g0 : (wordsD d)[4 + 2 * i]? = some (lo d.args[i]) := by rw [wordsD, List.getElem?_append_right (by simp)]; simpa using hw.1
 have g1 : (wordsD d)[4 + 2 * i + 1]? = some (hi d.args[i]) := by rw [wordsD, List.getElem?_append_right (by simp; omega)]; simpa [show 4 + 2 * i + 1 - 4 = 2 * i + 1 by omega] using hw.2
 apply List.ext_getElem?
 intro j
 rw [fillW_get h (by omega), List.getElem?_set, List.getElem?_set, List.length_set, hl, fillW_get h (by omega)]
 by_cases e1 : 4 + 2 * i + 1 = j
 ·subst e1
  rw [if_pos rfl, if_pos (by omega), if_pos (by omega), g1]
 ·rw [if_neg e1]
  by_cases e0 : 4 + 2 * i = j
  ·subst e0
   rw [if_pos rfl, if_pos (by omega), if_pos (by omega), g0]
  ·rw [if_neg e0]
   by_cases h1 : j < 4 + 2 * i
   ·rw [if_pos h1, if_pos (by omega)]
   ·rw [if_neg h1]
    by_cases h2 : j < 4 + 2 * (i + 1)
    ·omega
    ·rw [if_neg h2]
theorem fillW_0 (d : Da) (h : d.args.length = 6) : ((((zeros 16).set 0 d.nr).set 1 d.arch).set 2 (lo d.ip)).set 3 (hi d.ip) = fillW d 0 := by
 have : zeros 16 = 0 :: 0 :: 0 :: 0 :: zeros 12 := rfl
 rw [this]
 simp [fillW, wordsD]
theorem fillW_6 (d : Da) (h : d.args.length = 6) : fillW d 6 = wordsD d := by
 simp only [fillW, show 12 - 2 * 6 = 0 from rfl, zeros, List.replicate_zero, List.append_nil]
 exact List.take_of_length_le (by rw [wordsD_len h]; exact Nat.le_refl _)
theorem words_ok [HasData G] (d : Da) (hd : d.ok) : FP G 160 [DV d] (.agg (cnats .u32 (wordsD d))) := by
 obtain ⟨h1, h2, h3, h4, h5⟩ := hd
 refine FP_of HasData.h_data_words (Nat.le_of_ble_eq_true rfl) ?_
 have o := or_two d.nr d.arch h1 h2
 have e0 : lo (d.nr + d.arch * 4294967296) = d.nr := by unfold lo; omega
 have e1 : hi (d.nr + d.arch * 4294967296) = d.arch := by unfold hi; omega
 have p1 := put_ok (G := G) d.cs (zeros 16) 0 (d.nr + d.arch * 4294967296) (by simp) (by decide) (by omega)
 have p2 := put_ok (G := G) d.cs (((zeros 16).set 0 d.nr).set 1 d.arch) 2 d.ip (by simp) (by decide) h3
 rw [e0, e1] at p1
 have ht := take_full (k := .u64) h4
 simp [H4, Da.cs, -Int.natCast_add, -Int.natCast_mul] at p1 p2
 simp (disch := omega) [DV, Da.cs, convU, o, -Int.natCast_add, -Int.natCast_mul]
 refine callV_of p1 (by simp) ?_
 simp [keep_cl, trunc]
 refine callV_of p2 (by simp) ?_
 simp [keep_cl, trunc, h4, ht]
 refine W_up 6 (fun i => [(2, .ptr 1 0), (3, .ptr 2 0), (5, .fn 159 [.ptr 2 0, .ptr 3 0]), (24, .agg (cnats .u64 d.args)), (25, .int .i64 i)])
  (fun i => H4 d.cs (fillW d i) (4 + 2 * i)) (fun _ => True) ?_ ?_
 ·simp [keep_cl, trunc, H4, Da.cs, fillW_0 d h4]
 intro i hi _
 by_cases hlt : i < 6
 ·have p3 := put_ok (G := G) d.cs (fillW d i) (4 + 2 * i) d.args[i] (fillW_len h4 hi) (by omega) (h5 _ (List.getElem_mem _))
  rw [fillW_step h4 hlt] at p3
  have c1 := cnats_get .u64 d.args i (by omega)
  simp [H4, Da.cs, -Int.natCast_add, -Int.natCast_mul] at p3
  simp (disch := omega) [ltT, leTn, h4, c1, H4, Da.cs, -Int.natCast_add, -Int.natCast_mul]
  refine callV_of p3 (by simp) ?_
  simp (disch := omega) [trunc, add1', hlt, keep_cl, h4, show 4 + 2 * (i + 1) = 4 + 2 * i + 2 from by omega, -Int.natCast_add, -Int.natCast_mul]
 ·have hne : i = 6 := by omega
  subst hne
  have hl := wordsD_len h4
  have ht2 := take_full (k := .u32) hl
  simp [H4, fillW_6 d h4, hl, ht2]
def wordS (d : Da) (at' : Nat) : Nat × Bool := if at' % 4 = 0 ∧ at' < 64 then ((wordsD d).getD (at' / 4) 0, true) else (0, false)
theorem there_ok [HasData G] (n : Nat) (hn : n < 4294967296) : FP G 158 [.int .u32 n] (.bool (decide (n % 4 = 0 ∧ n < 64))) := by
 refine FP_of HasData.h_data_there (Nat.le_of_ble_eq_true rfl) ?_
 have hr : remI (n : Int) 4 = ((n % 4 : Nat) : Int) := rem64 (b := 4)
 by_cases h : n % 4 = 0
 ·have lt : ((n : Int) < 64) = (n < 64) := propext (by omega)
  simp [hr, h, lt]
 ·have : ((n % 4 : Nat) : Int) ≠ 0 := by omega
  simp [hr, h, beqF this, -Int.natCast_emod]
theorem Word_ok [HasData G] (d : Da) (n : Nat) (hd : d.ok) (hn : n < 4294967296) : FP G 161 [DV d, .int .u32 n] (.tup [.int .u32 ((wordS d n).1 : Nat), .bool (wordS d n).2]) := by
 refine FP_of HasData.h_data_Word (Nat.le_of_ble_eq_true rfl) ?_
 have hw := words_ok (G := G) d hd
 have ht := take_full (k := .u64) hd.2.2.2.1
 have h6 := hd.2.2.2.1
 simp [DV, Da.cs] at hw ⊢
 refine callP_of (there_ok n hn) ?_
 by_cases h : n % 4 = 0 ∧ n < 64
 ·have hq : quoI .u32 (n : Int) 4 = ((n / 4 : Nat) : Int) := quo32 (b := 4) hn (by decide)
  have hl := wordsD_len h6
  have c := cnats_get .u32 (wordsD d) (n / 4) (by omega)
  have hg : (wordsD d).getD (n / 4) 0 = (wordsD d)[n / 4]'(by omega) := by simp [List.getD, List.getElem?_eq_getElem (show n / 4 < (wordsD d).length by omega)]
  simp [h, h6, ht, wordS, hg]
  refine callP_of hw ?_
  simp (disch := omega) [hq, ltT, leTn, hl, c, -Int.natCast_ediv]
 ·simp [h, wordS]
end Go.Ev
/- Arguments of the statements: instructions, states, records. -/
namespace Go.Ev
open Go Go.RowKit
set_option linter.unusedSimpArgs false
set_option linter.unusedVariables false
def i64R (n : Int) : Prop := -9223372036854775808 ≤ n ∧ n ≤ 9223372036854775807
def In4.ok (x : In4) : Prop := (i64R x.op ∧ i64R x.jt ∧ i64R x.jf) ∧ x.k < 4294967296
theorem i64_wf {n : Int} (h : (Lit.int .i64 n).wf = true) : i64R n := by
 simp [Lit.wf, IntKind.min, IntKind.max, IntKind.signed, IntKind.bits] at h
 unfold i64R
 omega
theorem hasty_int {k : IntKind} {cs : List V} (h : HasTy (.int k) cs) : ∃ n, cs = [.int k n] ∧ (Lit.int k n).wf = true := by simpa only [HasTy] using h
theorem ins_cells {cs : List V} (h : HasTy (.agg [.int .i64, .int .i64, .int .i64, .int .u32]) cs) : ∃ x : In4, cs = x.cs ∧ x.ok := by
 simp only [HasTy, HasTys] at h
 obtain ⟨a, _, rfl, ⟨n1, rfl, w1⟩, b, _, rfl, ⟨n2, rfl, w2⟩, c, _, rfl, ⟨n3, rfl, w3⟩, d, _, rfl, ⟨n4, rfl, w4⟩, rfl⟩ := h
 have w4 := u32_wf w4
 refine ⟨⟨n1, n2, n3, n4.toNat⟩, ?_, ⟨i64_wf w1, i64_wf w2, i64_wf w3⟩, by simp only; omega⟩
 simp [In4.cs, Int.toNat_of_nonneg w4.1]
theorem u64_wf {n : Int} (h : (Lit.int .u64 n).wf = true) : 0 ≤ n ∧ n < 18446744073709551616 := by
 simp [Lit.wf, IntKind.min, IntKind.max, IntKind.signed, IntKind.bits] at h
 omega
theorem nats_of64 : ∀ {l : List Int}, (∀ n ∈ l, (Lit.int .u64 n).wf = true) → ∃ t : List Nat, l = t.map (fun (x : Nat) => (x : Int)) ∧ ∀ x ∈ t, x < 18446744073709551616
 | [], _ => ⟨[], rfl, by simp⟩
 | n :: l, h => by
  obtain ⟨t, rfl, ht⟩ := nats_of64 (l := l) fun x hx => h x (by simp [hx])
  have := u64_wf (h n (by simp))
  refine ⟨n.toNat :: t, by simp [Int.toNat_of_nonneg this.1], fun x hx => ?_⟩
  simp only [List.mem_cons] at hx
  rcases hx with rfl | hx
  ·omega
  ·exact ht x hx
theorem flat_nats64 : ∀ t : List Nat, (ints .u64 (t.map fun (x : Nat) => (x : Int))).flatten = cnats .u64 t
 | [] => rfl
 | x :: t => by
  have := flat_nats64 t
  simp only [ints, cnats, List.map_cons, List.flatten_cons] at this ⊢
  rw [this]; rfl
theorem arr_cells64 {n : Nat} {cs : List V} (h : HasTy (.arr n (.int .u64)) cs) : ∃ t : List Nat, cs = cnats .u64 t ∧ t.length = n ∧ ∀ x ∈ t, x < 18446744073709551616 := by
 simp only [HasTy] at h
 obtain ⟨es, rfl, hl, he⟩ := h
 obtain ⟨l, rfl, hw⟩ := ints_of (k := .u64) (fun x hx => by simpa only [HasTy] using he x hx)
 obtain ⟨t, rfl, ht⟩ := nats_of64 hw
 exact ⟨t, flat_nats64 t, by simpa using hl, ht⟩
theorem u32_cell {cs : List V} (h : HasTy (.int .u32) cs) : ∃ n : Nat, cs = [.int .u32 (n : Int)] ∧ n < 4294967296 := by
 obtain ⟨n, rfl, hw⟩ := hasty_int h
 have := u32_wf hw
 exact ⟨n.toNat, by rw [Int.toNat_of_nonneg this.1], by omega⟩
theorem u64_cell {cs : List V} (h : HasTy (.int .u64) cs) : ∃ n : Nat, cs = [.int .u64 (n : Int)] ∧ n < 18446744073709551616 := by
 obtain ⟨n, rfl, hw⟩ := hasty_int h
 have := u64_wf hw
 exact ⟨n.toNat, by rw [Int.toNat_of_nonneg this.1], by omega⟩
theorem da_arg {v : V} (h : ArgIs (.agg [.int .u32, .int .u32, .int .u64, .arr 6 (.int .u64)]) v) : ∃ d : Da, v = DV d ∧ d.ok := by
 unfold ArgIs at h
 obtain ⟨cs, rfl, h⟩ := h
 unfold HasTy HasTys at h
 obtain ⟨a, b, rfl, h1, h⟩ := h
 unfold HasTys at h
 obtain ⟨c, d, rfl, h2, h⟩ := h
 unfold HasTys at h
 obtain ⟨c', d', rfl, h2', h⟩ := h
 unfold HasTys at h
 obtain ⟨f, g, rfl, h3, h⟩ := h
 unfold HasTys at h
 subst h
 obtain ⟨n1, rfl, w1⟩ := u32_cell h1
 obtain ⟨n2, rfl, w2⟩ := u32_cell h2
 obtain ⟨n3, rfl, w3⟩ := u64_cell h2'
 obtain ⟨t, rfl, hl, ht⟩ := arr_cells64 h3
 exact ⟨⟨n1, n2, n3, t⟩, by simp [DV, Da.cs], w1, w2, w3, hl, ht⟩
theorem flt_list : ∀ {es : List (List V)}, (∀ x ∈ es, HasTy (.agg [.int .i64, .int .i64, .int .i64, .int .u32]) x) → ∃ f : List In4, es = IL f ∧ ∀ x ∈ f, x.ok
 | [], _ => ⟨[], rfl, by simp⟩
 | e :: es, h => by
  obtain ⟨x, rfl, hx⟩ := ins_cells (h e (by simp))
  obtain ⟨f, rfl, hf⟩ := flt_list (es := es) fun y hy => h y (by simp [hy])
  refine ⟨x :: f, by simp [IL], fun y hy => ?_⟩
  simp only [List.mem_cons] at hy
  rcases hy with rfl | hy
  ·exact hx
  ·exact hf y hy
theorem flt_arg {v : V} (h : ArgIs (.sl (.agg [.int .i64, .int .i64, .int .i64, .int .u32])) v) : ∃ f : List In4, v = FL f ∧ f.length ≤ maxLen ∧ ∀ x ∈ f, x.ok := by
 have h : HasTy (.sl (.agg [.int .i64, .int .i64, .int .i64, .int .u32])) [v] := h
 rw [HasTy] at h
 obtain ⟨es, hes, hl, he⟩ := h
 obtain ⟨f, rfl, hf⟩ := flt_list he
 simp only [List.cons.injEq, and_true] at hes
 exact ⟨f, by rw [hes]; rfl, by simpa using hl, hf⟩
end Go.Ev
/- Simplified code of Go functions, by scode.py. -/
namespace Go.Ev
/-- hurdle/hurdleref17.Divides -/
def c_hurdleref17_Divides : SFn := ⟨27,.seq (.region 0 [oS 4 (.mv (kI 0))]) (.seq (.region 0 [oS 5 (.mv (kI 0))]) (.seq (.seq (.region 0 [oS 6 (.mv (kI 0))]) (.block 0 (.loop [0,1,5,6] (.seq (.seq (.region 0 [mM 7 6,mM 8 1,oS 9 (.bin .lss (.t 7) (.t 8)),mM 10 9,oT 11 10 (.mv (.t 6)),oT 12 10 (.mv (.t 0)),oT 13 10 (.len false (.t 12)),oT 14 10 (.bin .lss (.t 11) (.t 13)),oS 15 (.pick (.t 10) (.t 14) (.c (.bool false)))]) (.seq (.keep [0,1,5,6,15]) (.cond (.t 15) (.skip) (.exit 0)))) (.seq (.keep [0,1,5,6]) (.seq (.block 1 (.seq (.region 0 [mM 18 0,mM 19 6,oS 20 (.iaddr 4 (.t 18) (.t 19)),fA 21 0 20,lD 22 21,oS 23 (.bin .eql (.t 22) (kI 60))]) (.seq (.keep [0,1,5,6,23]) (.cond (.t 23) (.region 0 [mM 24 5,oS 25 (.bin .add (.t 24) (kI 1)),mM 5 25]) (.skip))))) (.seq (.keep [0,1,5,6]) (.region 0 [mM 16 6,oS 17 (.bin .add (.t 16) (kI 1)),mM 6 17])))))))) (.seq (.keep [5]) (.seq (.region 0 [mM 26 5,mM 4 26]) (.ret))))),[.tmp 4]⟩
/-- A table that holds these. -/
class HasR17d (G : Tbl) : Prop where
  h_hurdleref17_Divides : G 305 = some c_hurdleref17_Divides
end Go.Ev
/- A nil book: the law SymNil. -/
namespace Go.Ev
open Go Go.RowKit
variable {G : Tbl}
set_option maxRecDepth 10000
set_option maxHeartbeats 4000000
set_option linter.unusedSimpArgs false
set_option linter.unusedVariables false
theorem HShut.self {H : Heap} (h : HShut H) : trunc H.length H = H := by
 have := shut_trunc h [] 0
 simpa using this
theorem HShut.back {H : Heap} (h : HShut H) (r : Heap) : trunc H.length (H ++ r) = H := by
 have := shut_trunc h r 0
 simpa using this
theorem HShut.app {H : Heap} (h : HShut H) {r : Heap} (hr : ∀ n, r.map (Option.map (Blk.cl n)) = r) : HShut (H ++ r) := by
 intro m hm
 rw [List.map_append, hr, h m (by rw [List.length_append] at hm; omega)]
theorem HShut.nil : HShut [] := fun _ _ => rfl
structure Nd where
 kind : Nat
 f : List Nat
 n : Nat
 vars : List Nat
 tab : List Nat
 op : Int
 x : Nat
 y : Nat
 deriving DecidableEq
def Nd.cs (a : Nd) : List V := .int .i64 (a.kind : Int) :: (cnats .u32 a.f ++ .int .i64 (a.n : Int) :: (cnats .i64 a.vars ++ (cnats .u32 a.tab ++ [.int .i64 a.op, .int .i64 (a.x : Int), .int .i64 (a.y : Int)])))
def Nd0 : Nd := ⟨0, zeros 35, 0, zeros 4, zeros 16, 0, 0, 0⟩
theorem nz : (V.int .i64 0 :: (cnats .u32 (zeros 35) ++ V.int .i64 0 :: V.int .i64 0 :: V.int .i64 0 :: V.int .i64 0 :: V.int .i64 0 :: (cnats .u32 (zeros 16) ++ [V.int .i64 0, V.int .i64 0, V.int .i64 0]))) = Nd0.cs := rfl
def Nd.ok (a : Nd) : Prop := a.f.length = 35 ∧ a.vars.length = 4 ∧ a.tab.length = 16
theorem Nd.len {a : Nd} (h : a.ok) : a.cs.length = 60 := by simp [Nd.cs, h.1, h.2.1, h.2.2]
def sumNd (f : List Nat) : Nd := { Nd0 with f := f }
theorem fill_sum (f : List Nat) (hf : f.length = 35) (e : Env) (t : Nat) (he : e t = .agg (cnats .u32 f)) : fillC e Nd0.cs [(0, 1, .c (.int .i64 0)), (1, 35, .t t)] = some (sumNd f).cs := by
 have hl : (cnats .u32 f).length = 35 := by simp [hf]
 have hd : ∀ r : List V, (cnats .u32 (zeros 35) ++ r).drop 35 = r := fun r => by rw [List.drop_left' (by simp)]
 simp [fillC, he, Nd0, Nd.cs, hl, hd, sumNd]
theorem affConst_ok [HasAffine G] (c : Nat) : FP G 243 [.int .u32 c] (.agg (cnats .u32 (c :: zeros 34))) := by
 refine FP_of HasAffine.h_affine_Const (Nat.le_of_ble_eq_true rfl) ?_
 have hz : cnats .u32 (zeros 35) = .int .u32 0 :: cnats .u32 (zeros 34) := rfl
 have hc : cnats .u32 (c :: zeros 34) = .int .u32 (c : Int) :: cnats .u32 (zeros 34) := rfl
 simp [hz, hc]
def varL (i : Nat) : List Nat := (zeros 35).set (i + 1) 1
theorem affVar_ok [HasAffine G] (i : Nat) (hi : i < 34) : FP G 244 [.int .i64 i] (.tup [.agg (cnats .u32 (varL i)), .int .i64 0]) := by
 refine FP_of HasAffine.h_affine_Var (Nat.le_of_ble_eq_true rfl) ?_
 have hz : cnats .u32 (zeros 35) = .int .u32 0 :: cnats .u32 (zeros 34) := rfl
 have cs := cnats_set .u32 (zeros 34) i 1 (by simp; omega)
 have hv : cnats .u32 (varL i) = .int .u32 0 :: cnats .u32 ((zeros 34).set i 1) := by
  rw [varL, show zeros 35 = 0 :: zeros 34 from rfl, List.set_cons_succ]; rfl
 have ht1 : ∀ (a : V) (l : List V), (a :: l).take (1 + i) = a :: l.take i := fun a l => by rw [Nat.add_comm]; rfl
 have hc1 : (1 : Int) = ((1 : Nat) : Int) := rfl
 have hd : (cnats .u32 (zeros 34)).take i ++ V.int .u32 1 :: (cnats .u32 (zeros 34)).drop (1 + i) = cnats .u32 ((zeros 34).set i 1) := by rw [Nat.add_comm]; exact cs
 have hlv : ((zeros 34).set i 1).length = 34 := by simp
 have htv := take_full (k := .u32) hlv
 simp (disch := omega) [ltT, ltF, leF, leTn, hz, hv, hd, ht1, hi, htv]
theorem affVar_no [HasAffine G] (i : Int) (hi : i < 0 ∨ 34 ≤ i) : FP G 244 [.int .i64 i] (.tup [.agg (cnats .u32 (zeros 35)), .int .i64 1]) := by
 refine FP_of HasAffine.h_affine_Var (Nat.le_of_ble_eq_true rfl) ?_
 by_cases h : i < 0
 ·simp [h]
 ·have h2 : (34 ≤ i) = True := eq_true (by omega)
  have h1 : (i < 0) = False := eq_false h
  simp [h1, h2]
end Go.Ev
/- A book in memory: its values, and their numbers. -/
namespace Go.Ev
open Go Go.RowKit
variable {G : Tbl}
set_option maxRecDepth 10000
set_option maxHeartbeats 4000000
set_option linter.unusedSimpArgs false
set_option linter.unusedVariables false
/-! Cells that are alike. -/
theorem eqks_app : ∀ {k1 k2 : List Kd} {a b c d : List V} {x y : Bool}, eqks k1 a b = some x → eqks k2 c d = some y → eqks (k1 ++ k2) (a ++ c) (b ++ d) = some (x && y)
 | [], k2, [], [], c, d, x, y, h1, h2 => by simp only [eqks, Option.some.injEq] at h1; subst h1; simpa using h2
 | [], _, [], _ :: _, _, _, _, _, h, _ => by simp [eqks] at h
 | [], _, _ :: _, _, _, _, _, _, h, _ => by simp [eqks] at h
 | _ :: _, _, [], _, _, _, _, _, h, _ => by simp [eqks] at h
 | _ :: _, _, _ :: _, [], _, _, _, _, h, _ => by simp [eqks] at h
 | k :: k1, k2, a :: as, b :: bs, c, d, x, y, h1, h2 => by
  simp only [eqks] at h1
  split at h1
  case h_2 => cases h1
  rename_i u v hu hv
  simp only [Option.some.injEq] at h1
  subst h1
  simp only [List.cons_append, eqks, hu, eqks_app hv h2, Bool.and_assoc]
theorem eqks_k (k : IntKind) : ∀ {n : Nat} {a b : List Nat}, a.length = n → b.length = n → eqks (List.replicate n .int) (cnats k a) (cnats k b) = some (decide (a = b))
 | 0, [], [], _, _ => rfl
 | 0, _ :: _, _, h, _ => by simp at h
 | 0, [], _ :: _, _, h => by simp at h
 | n + 1, [], _, h, _ => by simp at h
 | n + 1, _ :: _, [], _, h => by simp at h
 | n + 1, x :: a, y :: b, h1, h2 => by
  have ih := eqks_k k (n := n) (a := a) (b := b) (by simpa using h1) (by simpa using h2)
  rw [List.replicate_succ]
  show eqks (.int :: List.replicate n .int) (.int k (x : Int) :: cnats k a) (.int k (y : Int) :: cnats k b) = _
  simp only [eqks, eqk, if_true, ih, Option.some.injEq]
  rw [Bool.eq_iff_iff]
  simp
theorem eqks_one (k : IntKind) (x y : Int) : eqks [.int] [.int k x] [.int k y] = some (decide (x = y)) := by
 simp only [eqks, eqk, if_true, Bool.and_true]
 congr 1
theorem eqks_nd {a b : Nd} (ha : a.ok) (hb : b.ok) : eqks (List.replicate 60 .int) a.cs b.cs = some (decide (a = b)) := by
 have h := eqks_app (eqks_one .i64 a.kind b.kind) (eqks_app (eqks_k .u32 ha.1 hb.1) (eqks_app (eqks_one .i64 a.n b.n) (eqks_app (eqks_k .i64 ha.2.1 hb.2.1) (eqks_app (eqks_k .u32 ha.2.2 hb.2.2)
  (eqks_app (eqks_one .i64 a.op b.op) (eqks_app (eqks_one .i64 a.x b.x) (eqks_one .i64 a.y b.y)))))))
 have hk : List.replicate 60 Kd.int = [Kd.int] ++ (List.replicate 35 .int ++ ([.int] ++ (List.replicate 4 .int ++ (List.replicate 16 .int ++ ([.int] ++ ([.int] ++ [.int])))))) := rfl
 rw [hk]
 have e1 : ∀ c : Nd, c.cs = [.int .i64 (c.kind : Int)] ++ (cnats .u32 c.f ++ ([.int .i64 (c.n : Int)] ++ (cnats .i64 c.vars ++ (cnats .u32 c.tab ++ ([.int .i64 c.op] ++ ([.int .i64 (c.x : Int)] ++ [.int .i64 (c.y : Int)])))))) := fun c => by simp [Nd.cs]
 rw [e1 a, e1 b, h]
 congr 1
 rw [Bool.eq_iff_iff]
 cases a; cases b
 simp
def entsF (i : Nat) : List Nd → List (V × V)
 | [] => []
 | a :: L => (.agg a.cs, .int .i64 (i : Int)) :: entsF (i + 1) L
def ents (L : List Nd) : List (V × V) := entsF 0 L
theorem entsF_app (a : Nd) : ∀ (L : List Nd) (i : Nat), entsF i (L ++ [a]) = entsF i L ++ [(.agg a.cs, .int .i64 ((i + L.length : Nat) : Int))]
 | [], i => by simp [entsF]
 | b :: L, i => by
  have := entsF_app a L (i + 1)
  simp only [List.cons_append, entsF, this, List.length_cons]
  rw [show i + 1 + L.length = i + (L.length + 1) by omega]
theorem mfind_in {a : Nd} (ha : a.ok) : ∀ {L : List Nd} (i : Nat), (∀ x ∈ L, x.ok) → a ∈ L → mfind (.row (List.replicate 60 .int)) (.agg a.cs) (entsF i L) i = some (some (i + L.idxOf a, .int .i64 ((i + L.idxOf a : Nat) : Int)))
 | [], i, _, h => by cases h
 | b :: L, i, hL, h => by
  simp only [entsF, mfind, keyEq, eqks_nd ha (hL b (by simp))]
  by_cases e : a = b
  ·subst e; simp
  ·have hm : a ∈ L := by simpa [e] using h
   have ih := mfind_in ha (i + 1) (fun x hx => hL x (by simp [hx])) hm
   have hix : (b :: L).idxOf a = L.idxOf a + 1 := by rw [List.idxOf_cons, beq_false_of_ne (Ne.symm e)]; rfl
   simp only [e, decide_false, ih, hix, show i + 1 + L.idxOf a = i + (L.idxOf a + 1) from by omega]
theorem mfind_out {a : Nd} (ha : a.ok) : ∀ {L : List Nd} (i : Nat), (∀ x ∈ L, x.ok) → a ∉ L → mfind (.row (List.replicate 60 .int)) (.agg a.cs) (entsF i L) i = some none
 | [], i, _, _ => rfl
 | b :: L, i, hL, h => by
  simp only [List.mem_cons, not_or] at h
  simp only [entsF, mfind, keyEq, eqks_nd ha (hL b (by simp)), h.1, decide_false]
  exact mfind_out ha (i + 1) (fun x hx => hL x (by simp [hx])) h.2
def nds (L : List Nd) : List (List V) := L.map Nd.cs
def bookC (L : List Nd) (z m : Nat) : Blk := .cells [.vs (nds L) (.own z), .mp m]
structure Bk (H : Heap) (b z m : Nat) (L : List Nd) : Prop where
 hb : H[b]? = some (some (bookC L z m))
 hz : H[z]? = some (some (.zone L.length))
 hm : H[m]? = some (some (.map (ents L)))
 shut : HShut H
 ok : ∀ a ∈ L, a.ok
 small : L.length ≤ 1000000
def upd (H : Heap) (b z m : Nat) (L : List Nd) : Heap := ((H.set b (some (bookC L z m))).set z (some (.zone L.length))).set m (some (.map (ents L)))
theorem upd_len (H : Heap) (b z m : Nat) (L : List Nd) : (upd H b z m L).length = H.length := by simp [upd]
section
variable {H : Heap} {b z m : Nat} {L L' : List Nd}
theorem Bk.bz (h : Bk H b z m L) : b ≠ z := fun e => by have h1 := h.hb; rw [e, h.hz] at h1; simp [bookC] at h1
theorem Bk.bm (h : Bk H b z m L) : b ≠ m := fun e => by have h1 := h.hb; rw [e, h.hm] at h1; simp [bookC] at h1
theorem Bk.zm (h : Bk H b z m L) : z ≠ m := fun e => by have h1 := h.hz; rw [e, h.hm] at h1; simp at h1
theorem Bk.lb (h : Bk H b z m L) : b < H.length := (List.getElem?_eq_some_iff.1 h.hb).1
theorem Bk.lz (h : Bk H b z m L) : z < H.length := (List.getElem?_eq_some_iff.1 h.hz).1
theorem Bk.lm (h : Bk H b z m L) : m < H.length := (List.getElem?_eq_some_iff.1 h.hm).1
theorem set_same {α : Type} {l : List α} {i : Nat} {a : α} (h : l[i]? = some a) : l.set i a = l := by
 apply List.ext_getElem?
 intro j
 rw [List.getElem?_set]
 by_cases e : i = j
 ·subst e
  rw [if_pos rfl, if_pos (List.getElem?_eq_some_iff.1 h).1, h]
 ·rw [if_neg e]
theorem Bk.upd_self (h : Bk H b z m L) : upd H b z m L = H := by
 unfold upd
 rw [set_same h.hb, set_same h.hz, set_same h.hm]
theorem ents_cl (n : Nat) : ∀ (L : List Nd) (i : Nat), (entsF i L).map (fun p => (p.1.cl n, p.2.cl n)) = entsF i L
 | [], i => rfl
 | a :: L, i => by
  have ih := ents_cl n L (i + 1)
  have hc : clL n a.cs = a.cs := by rw [clL_eq_map]; simp [Nd.cs, cnats, Function.comp_def, V.cl]
  simp only [entsF, List.map_cons, V.cl, hc, ih]
theorem map_set' {α β : Type} (f : α → β) : ∀ (l : List α) (i : Nat) (a : α), (l.set i a).map f = (l.map f).set i (f a) := fun l i a => List.map_set
theorem Bk.upd_shut (h : Bk H b z m L) (L' : List Nd) : HShut (upd H b z m L') := by
 intro n hn
 rw [upd_len] at hn
 have h1 := h.shut n hn
 have hz := h.lz
 have hm := h.lm
 unfold upd
 rw [map_set', map_set', map_set', h1]
 have c1 : Option.map (Blk.cl n) (some (bookC L' z m)) = some (bookC L' z m) := by
  simp [bookC, Blk.cl, clL, V.cl, Tk.cl, show z < n from by omega, show m < n from by omega]
 have c2 : Option.map (Blk.cl n) (some (Blk.zone L'.length)) = some (.zone L'.length) := rfl
 have c3 : Option.map (Blk.cl n) (some (Blk.map (ents L'))) = some (.map (ents L')) := by
  simp only [Option.map_some, Blk.cl, ents, ents_cl]
 rw [c1, c2, c3]
theorem Bk.upd_bk (h : Bk H b z m L) (hok : ∀ a ∈ L', a.ok) (hs : L'.length ≤ 1000000) : Bk (upd H b z m L') b z m L' := by
 have h1 := h.bz
 have h2 := h.bm
 have h3 := h.zm
 refine ⟨?_, ?_, ?_, h.upd_shut L', hok, hs⟩
 ·unfold upd
  rw [List.getElem?_set_ne h2.symm, List.getElem?_set_ne h1.symm, List.getElem?_set_self h.lb]
 ·unfold upd
  rw [List.getElem?_set_ne h3.symm, List.getElem?_set_self (by simp [h.lz])]
 ·unfold upd
  rw [List.getElem?_set_self (by simp [h.lm])]
theorem Bk.app (h : Bk H b z m L) {r : Heap} (hr : ∀ n, r.map (Option.map (Blk.cl n)) = r) : Bk (H ++ r) b z m L :=
 ⟨by rw [List.getElem?_append_left h.lb]; exact h.hb, by rw [List.getElem?_append_left h.lz]; exact h.hz, by rw [List.getElem?_append_left h.lm]; exact h.hm, h.shut.app hr, h.ok, h.small⟩
theorem Bk.upd_app (h : Bk H b z m L) (r : Heap) (L' : List Nd) : upd (H ++ r) b z m L' = upd H b z m L' ++ r := by
 unfold upd
 rw [List.set_append_left _ _ h.lb, List.set_append_left _ _ (by simp [h.lz]), List.set_append_left _ _ (by simp [h.lm])]
theorem Bk.upd_upd (h : Bk H b z m L) (L1 L2 : List Nd) : upd (upd H b z m L1) b z m L2 = upd H b z m L2 := by
 have h1 := h.bz
 have h2 := h.bm
 have h3 := h.zm
 apply List.ext_getElem?
 intro i
 unfold upd
 simp only [List.getElem?_set, List.length_set]
 repeat' split
 all_goals first | rfl | omega
end
def insN (L : List Nd) (a : Nd) : List Nd := if a ∈ L then L else L ++ [a]
theorem idxOf_out {L : List Nd} {a : Nd} (h : a ∉ L) : L.idxOf a = L.length := List.idxOf_eq_length h
end Go.Ev
/- The smaller functions of a book. -/
namespace Go.Ev
open Go Go.RowKit
variable {G : Tbl}
set_option maxRecDepth 10000
set_option maxHeartbeats 4000000
set_option linter.unusedSimpArgs false
set_option linter.unusedVariables false
variable {H : Heap} {b z m : Nat} {L : List Nd}
def QX (res : List ResV) (R : V → Heap → Prop) (x : Ex) (e1 : Env) (H1 : Heap) : Prop := (x = .nx ∨ x = .ret) ∧ ∃ vs, evRess e1 H1 res = some vs ∧ R (resOf vs) H1
@[simp] theorem QX_nx (res : List ResV) (R : V → Heap → Prop) (e1 : Env) (H1 : Heap) : QX res R .nx e1 H1 = ∃ vs, evRess e1 H1 res = some vs ∧ R (resOf vs) H1 := by simp [QX]
@[simp] theorem QX_ret (res : List ResV) (R : V → Heap → Prop) (e1 : Env) (H1 : Heap) : QX res R .ret e1 H1 = ∃ vs, evRess e1 H1 res = some vs ∧ R (resOf vs) H1 := by simp [QX]
def SF (G : Tbl) (f : Nat) (args : List V) (H : Heap) (r : V) (H' : Heap) : Prop := ∃ r1 H1, Big G (.F f args H r1 H1) ∧ r1.cl H.length = r ∧ trunc H.length H1 = H'
theorem SF_of {f nt : Nat} {body : SCode} {res : List ResV} {args : List V} {r : V} {H H' : Heap} (hg : G f = some ⟨nt, body, res⟩) (hl : args.length ≤ nt)
  (h : W G body [] (mkE (idxE 0 args)) H (QX res fun r1 H1 => r1.cl H.length = r ∧ trunc H.length H1 = H')) : SF G f args H r H' := by
 obtain ⟨x, e1, H1, hb, hx, vs, hvs, hr, ht⟩ := h
 rw [← envOf_eq] at hb
 exact ⟨_, _, .fn hg hl hb hx hvs, hr, ht⟩
theorem callSF_of {f : Nat} {args : List V} {r : V} {H H' : Heap} {base : Nat} {d : Option Nat} {os : List SOper} {K : List Kt} {e : Env} {Q : Ex → Env → Heap → Prop} (h : SF G f args H r H')
  (hr : WO G base os K (e.put d r) H' Q) : callS G f args base d os K e H Q := by
 obtain ⟨r1, H1, hb, hr1, ht⟩ := h
 refine callS_of hb ?_
 rw [hr1, ht]
 exact hr
theorem callEF_of {f : Nat} {args : List V} {r : V} {H H' : Heap} {base : Nat} {d : Option Nat} {os : List SOper} {K : List Kt} {e : Env} {Q : Ex → Env → Heap → Prop} (h : SF G f args H r H') (hel : Elder base args H H')
  (hr : WO G base os K (e.put d r) H' Q) : callE G f args base d os K e H Q := by
 obtain ⟨r1, H1, hb, hr1, ht⟩ := h
 exact ⟨r1, H1, hb, by rw [ht]; exact hel, by rw [hr1, ht]; exact hr⟩
theorem Bk.back (h : Bk H b z m L) (L' : List Nd) (r : Heap) : trunc H.length (upd H b z m L' ++ r) = upd H b z m L' := by
 have := (h.upd_shut L').back r
 rwa [upd_len] at this
@[simp] theorem nds_length (L : List Nd) : (nds L).length = L.length := by simp [nds]
theorem nds_get {x : Nat} {a : Nd} (h : L[x]? = some a) : (nds L)[x]? = some a.cs := by simp [nds, h]
theorem nds_snoc (L : List Nd) (a : Nd) : nds L ++ [a.cs] = nds (L ++ [a]) := by simp [nds]
theorem nds_sz (h : ∀ a ∈ L, a.ok) : (∀ f ∈ nds L, f.length = 60) := by
 intro f hf
 simp only [nds, List.mem_map] at hf
 obtain ⟨a, ha, rfl⟩ := hf
 exact Nd.len (h a ha)
theorem Bk.hb' (h : Bk H b z m L) : H[b]? = some (some (.cells [.vs (nds L) (.own z), .mp m])) := h.hb
theorem Len_ok [HasSym G] (h : Bk H b z m L) : Big G (.F 257 [.ptr b 0] H (.int .i64 L.length) H) := by
 refine F_of HasSym.h_sym_Book_Len (Nat.le_of_ble_eq_true rfl) ?_
 have hb := h.hb'
 simp [hb]
def hasI (L : List Nd) (i : Int) : Bool := decide (0 ≤ i ∧ i < (L.length : Int))
theorem has_ok [HasSym G] (i : Int) (h : Bk H b z m L) : Big G (.F 258 [.ptr b 0, .int .i64 i] H (.bool (hasI L i)) H) := by
 refine F_of HasSym.h_sym_Book_has (Nat.le_of_ble_eq_true rfl) ?_
 have hs := h.shut.self
 by_cases h0 : 0 ≤ i
 ·simp [h0]
  refine callS_of (Len_ok h) ?_
  simp [hs, hasI, h0]
 ·simp [h0, hasI]
theorem asSum_ok [HasSym G] (x : Nat) (a : Nd) (h : Bk H b z m L) (hx : L[x]? = some a) : Big G (.F 264 [.ptr b 0, .int .i64 x] H (.tup [.agg (cnats .u32 a.f), .bool (decide (a.kind = 0))]) (H ++ [some (.cells (cnats .u32 a.f))])) := by
 refine F_of HasSym.h_sym_Book_asSum (Nat.le_of_ble_eq_true rfl) ?_
 have hlt := h.lb
 have hb := h.hb'
 have hb2 : ∀ r : Heap, (H ++ r)[b]? = some (some (.cells [.vs (nds L) (.own z), .mp m])) := fun r => by rw [List.getElem?_append_left hlt]; exact hb
 have hg := nds_get hx
 have hao := h.ok a (List.mem_of_getElem? hx)
 have hl := Nd.len hao
 have t1 : a.cs.take 1 = [.int .i64 (a.kind : Int)] := rfl
 have t35 : (a.cs.drop 1).take 35 = cnats .u32 a.f := by
  show (cnats .u32 a.f ++ _).take 35 = _
  rw [List.take_left' (by simp [hao.1])]
 have t35' : a.cs.tail.take 35 = cnats .u32 a.f := by rw [← List.drop_one]; exact t35
 have hd : (cnats .u32 (zeros 35)).drop 35 = [] := rfl
 have hne : b ≠ H.length := by omega
 have hne' : (H.length = b) = False := eq_false (by omega)
 have hf := hao.1
 have hk0 : ((a.kind : Int) == 0) = decide (a.kind = 0) := by rw [Bool.eq_iff_iff]; simp
 simp [hb2, hb, hg, hl, t1, t35, t35', hd, hne, hne', hf, take_full (k := .u32) hf, hk0]
theorem id_ok [HasSym G] (a : Nd) (ha : a.ok) (h : Bk H b z m L) (hs : L.length < 1000000) : SF G 259 [.ptr b 0, .agg a.cs] H (.int .i64 (L.idxOf a : Nat)) (upd H b z m (insN L a)) := by
 have hlb := h.lb
 have hlz := h.lz
 have hlm := h.lm
 have hb := h.hb'
 have hbz := h.bz
 have hbm := h.bm
 have hzm := h.zm
 have hl := Nd.len ha
 have htk : a.cs.take 60 = a.cs := List.take_of_length_le (by omega)
 have hself := eqks_nd ha ha
 simp only [decide_true] at hself
 have hF : (H.length + 1 ≤ b) = False := eq_false (by omega)
 have hFs : (H.length + 1 ≤ H.length) = False := eq_false (by omega)
 have hF0 : (H.length = b) = False := eq_false (by omega)
 have hFm : (H.length = m) = False := eq_false (by omega)
 have hFz : (H.length = z) = False := eq_false (by omega)
 have hb2 : ∀ r : Heap, (H ++ r)[b]? = some (some (.cells [.vs (nds L) (.own z), .mp m])) := fun r => by rw [List.getElem?_append_left hlb]; exact hb
 have hm2 : ∀ r : Heap, (H ++ r)[m]? = some (some (.map (ents L))) := fun r => by rw [List.getElem?_append_left hlm]; exact h.hm
 have hz2 : ∀ r : Heap, (H ++ r)[z]? = some (some (.zone L.length)) := fun r => by rw [List.getElem?_append_left hlz]; exact h.hz
 refine SF_of HasSym.h_sym_Book_id (Nat.le_of_ble_eq_true rfl) ?_
 by_cases hin : a ∈ L
 ·have hmf := mfind_in ha 0 h.ok hin
  simp only [Nat.zero_add] at hmf
  have hbk := h.shut.back
  have hu : upd H b z m (insN L a) = H := by rw [insN, if_pos hin, h.upd_self]
  simp [-List.reduceReplicate, hb2, hm2, hl, htk, hself, ents, hmf, hF, hF0, hFm, hFz, hFs, hbk, hu]
 ·have hmf := mfind_out ha 0 h.ok hin
  have hset : ∀ (x : Option Blk) (r : Heap), (H ++ r).set m x = H.set m x ++ r := fun x r => List.set_append_left _ _ hlm
  obtain ⟨K, hK⟩ : ∃ K, K = H.set m (some (.map (ents (L ++ [a])))) := ⟨_, rfl⟩
  have hKl : K.length = H.length := by rw [hK, List.length_set]
  have he : entsF 0 L ++ [(V.agg a.cs, V.int .i64 (L.length : Int))] = ents (L ++ [a]) := by rw [ents, entsF_app, Nat.zero_add]
  have kb : ∀ r : Heap, (K ++ r)[b]? = some (some (.cells [.vs (nds L) (.own z), .mp m])) := fun r => by
   rw [List.getElem?_append_left (by omega), hK, List.getElem?_set_ne hbm.symm]; exact hb
  have kz : ∀ r : Heap, (K ++ r)[z]? = some (some (.zone L.length)) := fun r => by
   rw [List.getElem?_append_left (by omega), hK, List.getElem?_set_ne hzm.symm]; exact h.hz
  have kset : ∀ (x : Option Blk) (r : Heap), (K ++ r).set z x = K.set z x ++ r := fun x r => List.set_append_left _ _ (by omega)
  have kzb : ∀ (x : Option Blk) (r : Heap), (K.set z x ++ r)[b]? = some (some (.cells [.vs (nds L) (.own z), .mp m])) := fun x r => by
   rw [List.getElem?_append_left (by simp; omega), List.getElem?_set_ne hbz.symm]; have := kb []; simpa using this
  have kzset : ∀ (x y : Option Blk) (r : Heap), (K.set z x ++ r).set b y = (K.set z x).set b y ++ r := fun x y r => List.set_append_left _ _ (by simp; omega)
  have hlen := idxOf_out hin
  have hsz := nds_sz h.ok
  have hby : ((L.length + 1) * 280 ≤ 140737488355328) = True := eq_true (by omega)
  have hall : (∀ f ∈ nds L, f.length = 60) = True := eq_true hsz
  have hpure : a.cs.all V.pure = true := by simp [Nd.cs, cnats, V.pure]
  have hzl : Nd0.cs.length = 60 := rfl
  have hsn := nds_snoc L a
  have fin : (K.set z (some (.zone (L.length + 1)))).set b (some (.cells [.vs (nds (L ++ [a])) (.own z), .mp m])) = upd H b z m (insN L a) := by
   rw [insN, if_neg hin, upd, hK, bookC, List.length_append]
   apply List.ext_getElem?
   intro i
   simp only [List.getElem?_set, List.length_set]
   repeat' split
   all_goals first | rfl | omega
  have hbk := h.back (insN L a)
  have kh : ∀ r : Heap, (K ++ r)[H.length]? = r[0]? := fun r => by rw [← hKl, List.getElem?_append_right (Nat.le_refl _), Nat.sub_self]
  simp [-List.reduceReplicate, hb2, hm2, hl, htk, hself, ents, hmf, hF, hF0, hFm, hFz, hFs]
  simp [-List.reduceReplicate, hset, he, ← hK, kb, kz, hl, htk, hF, hF0, hFs, hby, hall, hpure, nz, hzl, hsz, kh, kset, kzb, kzset, hsn, fin, hbk, hlen, List.getElem?_append_left hlb]
end Go.Ev
/- Sums of multiples. -/
namespace Go.Ev
open Go Go.RowKit
variable {G : Tbl}
set_option maxRecDepth 10000
set_option maxHeartbeats 4000000
set_option linter.unusedSimpArgs false
set_option linter.unusedVariables false
def mxA (o : Nat → Nat → Nat) (f g : List Nat) (i : Nat) : List Nat := List.zipWith o (f.take i) (g.take i) ++ f.drop i
section
variable {o : Nat → Nat → Nat} {f g : List Nat} {i n : Nat}
theorem mxA_len (hf : f.length = n) (hg : g.length = n) : (mxA o f g i).length = n := by simp [mxA, hf, hg]; omega
theorem mxA_zero : mxA o f g 0 = f := by simp [mxA]
theorem mxA_all (hf : f.length = n) (hg : g.length = n) : mxA o f g n = List.zipWith o f g := by
 rw [mxA, List.take_of_length_le (by omega), List.take_of_length_le (by omega), List.drop_eq_nil_of_le (by omega), List.append_nil]
theorem mxA_get (hf : f.length = n) (hg : g.length = n) (h : i < n) : (mxA o f g i)[i]? = some (f[i]'(by omega)) := by
 rw [mxA, List.getElem?_append_right (by simp; omega)]
 have e : i - (List.zipWith o (f.take i) (g.take i)).length = 0 := by simp; omega
 rw [e, List.getElem?_drop]
 exact get_in (by omega)
theorem mxA_set (hf : f.length = n) (hg : g.length = n) (h : i < n) : (mxA o f g i).set i (o (f[i]'(by omega)) (g[i]'(by omega))) = mxA o f g (i + 1) := by
 apply List.ext_getElem?
 intro j
 have hl : (mxA o f g i).length = n := mxA_len hf hg
 rw [List.getElem?_set]
 have hz : ∀ k, (List.zipWith o (f.take k) (g.take k)).length = min k n := fun k => by simp [hf, hg]
 by_cases hj : i = j
 ·subst hj
  simp only [if_true, hl, h]
  rw [mxA, List.getElem?_append_left (by rw [hz]; omega)]
  simp [List.getElem?_zipWith, List.getElem?_take, show i < f.length by omega, show i < g.length by omega]
 ·rw [if_neg hj, mxA, mxA]
  by_cases hlt : j < i
  ·rw [List.getElem?_append_left (by rw [hz]; omega), List.getElem?_append_left (by rw [hz]; omega)]
   simp [List.getElem?_zipWith, List.getElem?_take, hlt, show j < i + 1 by omega]
  ·rw [List.getElem?_append_right (by rw [hz]; omega), List.getElem?_append_right (by rw [hz]; omega), hz, hz]
   simp only [List.getElem?_drop]
   congr 1
   omega
end
theorem cnats_q {l : List Nat} {i x : Nat} (k : IntKind) (h : l[i]? = some x) : ((cnats k l).drop i).take 1 = [.int k (x : Int)] := by
 obtain ⟨h1, rfl⟩ := List.getElem?_eq_some_iff.1 h
 exact cnats_get k l i h1
section
variable {α : Type} (H l : List α)
theorem ap0 : (H ++ l)[H.length]? = l[0]? := by rw [List.getElem?_append_right (Nat.le_refl _), Nat.sub_self]
theorem apk (k : Nat) : (H ++ l)[H.length + k]? = l[k]? := by rw [List.getElem?_append_right (by omega), Nat.add_sub_cancel_left]
theorem set0 (x : α) : (H ++ l).set H.length x = H ++ l.set 0 x := by rw [List.set_append_right _ _ (Nat.le_refl _), Nat.sub_self]
theorem setk (k : Nat) (x : α) : (H ++ l).set (H.length + k) x = H ++ l.set k x := by rw [List.set_append_right _ _ (by omega), Nat.add_sub_cancel_left]
end
theorem both_ok [HasAffine G] (fn : Nat) (cap : List V) (o : Nat → Nat → Nat) (f g : List Nat) (H : Heap) (hs : HShut H) (hf : f.length = 35) (hg : g.length = 35) (hcap : ∀ n, H.length ≤ n → clL n cap = cap)
  (hc : ∀ (i : Nat) (h : i < 35) (r : Heap), Big G (.F fn ([.int .u32 (f[i]'(by omega) : Nat), .int .u32 (g[i]'(by omega) : Nat)] ++ cap) (H ++ r) (.int .u32 (o (f[i]'(by omega)) (g[i]'(by omega)) : Nat)) (H ++ r))) :
  Big G (.F 245 [.agg (cnats .u32 f), .agg (cnats .u32 g), .fn fn cap] H (.agg (cnats .u32 (List.zipWith o f g))) (H ++ [some (.cells (cnats .u32 (List.zipWith o f g))), some (.cells (cnats .u32 g)), some (.cells (cnats .u32 (List.zipWith o f g)))])) := by
 refine F_of HasAffine.h_affine_both (Nat.le_of_ble_eq_true rfl) ?_
 have hl0 : ∀ i, (mxA o f g i).length = 35 := fun i => mxA_len hf hg
 have hcl : ∀ r, HShut (H ++ [some (.cells (cnats .u32 r)), some (.cells (cnats .u32 g)), some (.cells (cnats .u32 (zeros 35)))]) := fun r => hs.app fun n => by simp [Blk.cl]
 have hb : ∀ r x, trunc (H.length + 3) (H ++ some (.cells (cnats .u32 r)) :: some (.cells (cnats .u32 g)) :: some (.cells (cnats .u32 (zeros 35))) :: x) = H ++ [some (.cells (cnats .u32 r)), some (.cells (cnats .u32 g)), some (.cells (cnats .u32 (zeros 35)))] := fun r x => by
  have := (hcl r).back x
  simpa using this
 have h0 := hc 0 (by omega)
 have g0 : ((cnats .u32 f).drop 0).take 1 = [.int .u32 (f[0] : Nat)] := cnats_get .u32 f 0 (by omega)
 have g0' : ((cnats .u32 g).drop 0).take 1 = [.int .u32 (g[0] : Nat)] := cnats_get .u32 g 0 (by omega)
 rw [List.drop_zero] at g0 g0'
 have htf := take_full (k := .u32) hf
 have htg := take_full (k := .u32) hg
 have e0 : V.int .u32 (o f[0] g[0] : Nat) :: (cnats .u32 f).drop 1 = cnats .u32 (mxA o f g 1) := by
  have h1 := cnats_set .u32 (mxA o f g 0) 0 (o f[0] g[0]) (by rw [hl0]; omega)
  rw [mxA_set hf hg (by omega), mxA_zero] at h1
  simpa using h1
 rw [List.drop_one] at e0
 obtain ⟨BB, hBB⟩ : ∃ BB : Nat → Heap, ∀ i, BB i = H ++ [some (.cells (cnats .u32 (mxA o f g (i + 1)))), some (.cells (cnats .u32 g)), some (.cells (cnats .u32 (zeros 35)))] := ⟨_, fun _ => rfl⟩
 simp [hf, hg, htf, htg, g0, g0', hb]
 refine callV_of (h0 _) (by simp) ?_
 simp [hb, hf, e0, keep_cl]
 refine W_up 34 (fun i => [(2, .fn fn cap), (3, .ptr H.length 0), (4, .ptr (H.length + 1) 0), (6, .ptr (H.length + 2) 0), (15, .int .i64 i)]) BB (fun _ => True) ?_ ?_
 ·simp [keep_cl, hb, hBB, hcap]
 intro i hi _
 by_cases hlt : i < 34
 ·have hfi := mxA_get (o := o) hf hg (show i + 1 < 35 by omega)
  have hgi : g[i + 1]? = some (g[i + 1]'(by omega)) := get_in (by omega)
  have q1 := cnats_q .u32 hfi
  have q2 := cnats_q .u32 hgi
  have hst := cnats_set .u32 (mxA o f g (i + 1)) (i + 1) (o (f[i + 1]'(by omega)) (g[i + 1]'(by omega))) (by rw [hl0]; omega)
  rw [mxA_set hf hg (by omega)] at hst
  simp (disch := omega) [ltT, ltF, leF, leFn, leTn, ap0, apk, set0, setk, hBB, hlt, hl0, hf, hg, show 1 + i = i + 1 from Nat.add_comm 1 i, q1, q2, -Int.natCast_add, hb]
  refine callV_of (hc (i + 1) (by omega) [some (.cells (cnats .u32 (mxA o f g (i + 1)))), some (.cells (cnats .u32 g)), some (.cells (cnats .u32 (zeros 35)))]) (fun _ => by have := hb (mxA o f g (i + 1)) []; simpa using this) ?_
  simp (disch := omega) [ltT, ltF, leF, leFn, leTn, ap0, apk, set0, setk, hBB, hlt, hl0, hf, hg, show 1 + i = i + 1 from Nat.add_comm 1 i, hst, -Int.natCast_add, hb, add1', keep_cl, hcap]
 ·have hi34 : i = 34 := by omega
  subst hi34
  have hml := hl0 35
  have hm := mxA_all (o := o) hf hg
  have hzl : (List.zipWith o f g).length = 35 := by simp [hf, hg]
  simp (disch := omega) [ltT, ltF, leF, leFn, leTn, ap0, apk, set0, setk, hBB, hm, hzl, take_full (k := .u32) hzl]
def fAdd (f g : List Nat) : List Nat := List.zipWith (fun a b => (a + b) % 4294967296) f g
def fSub (f g : List Nat) : List Nat := List.zipWith (fun a b => (a + 4294967296 - b) % 4294967296) f g
def fMul (f : List Nat) (k : Nat) : List Nat := f.map fun a => a * k % 4294967296
theorem Add1_ok [HasAffine G] (a b : Nat) (H : Heap) : Big G (.F 246 [.int .u32 a, .int .u32 b] H (.int .u32 ((a + b) % 4294967296 : Nat)) H) := by
 refine F_of HasAffine.h_affine_Add_1 (Nat.le_of_ble_eq_true rfl) ?_
 simp
 simp [addI, wrap32]
theorem Sub1_ok [HasAffine G] (a b : Nat) (hb : b < 4294967296) (H : Heap) : Big G (.F 248 [.int .u32 a, .int .u32 b] H (.int .u32 ((a + 4294967296 - b) % 4294967296 : Nat)) H) := by
 refine F_of HasAffine.h_affine_Sub_1 (Nat.le_of_ble_eq_true rfl) ?_
 simp
 simp [subI, wrap32]
 omega
theorem Mul1_ok [HasAffine G] (a b k p : Nat) (H : Heap) (hp : H[p]? = some (some (.cells [.int .u32 k]))) : Big G (.F 250 [.int .u32 a, .int .u32 b, .ptr p 0] H (.int .u32 (a * k % 4294967296 : Nat)) H) := by
 refine F_of HasAffine.h_affine_Mul_1 (Nat.le_of_ble_eq_true rfl) ?_
 simp [hp]
 simp [mulI, wrap32]
theorem fAdd_ok [HasAffine G] (f g : List Nat) (hf : f.length = 35) (hg : g.length = 35) : FP G 247 [.agg (cnats .u32 f), .agg (cnats .u32 g)] (.agg (cnats .u32 (fAdd f g))) := by
 refine FP_of HasAffine.h_affine_Add (Nat.le_of_ble_eq_true rfl) ?_
 have htf := take_full (k := .u32) hf
 have htg := take_full (k := .u32) hg
 have hl : (fAdd f g).length = 35 := by simp [fAdd, hf, hg]
 have htl := take_full (k := .u32) hl
 have hs : HShut [some (.cells (cnats .u32 f)), some (.cells (cnats .u32 g)), some (.cells (cnats .u32 (zeros 35)))] := fun n _ => by simp [Blk.cl]
 have hb := hs.back
 simp at hb
 simp [hf, hg, htf, htg]
 refine callS_of (both_ok 246 [] (fun a b => (a + b) % 4294967296) f g _ hs hf hg (fun _ _ => rfl) (fun i h r => Add1_ok _ _ _)) ?_
 have e : List.zipWith (fun a b => (a + b) % 4294967296) f g = fAdd f g := rfl
 simp [e, hb, hl, htl]
theorem fSub_ok [HasAffine G] (f g : List Nat) (hf : f.length = 35) (hg : g.length = 35) (hgw : ∀ x ∈ g, x < 4294967296) : FP G 249 [.agg (cnats .u32 f), .agg (cnats .u32 g)] (.agg (cnats .u32 (fSub f g))) := by
 refine FP_of HasAffine.h_affine_Sub (Nat.le_of_ble_eq_true rfl) ?_
 have htf := take_full (k := .u32) hf
 have htg := take_full (k := .u32) hg
 have hl : (fSub f g).length = 35 := by simp [fSub, hf, hg]
 have htl := take_full (k := .u32) hl
 have hs : HShut [some (.cells (cnats .u32 f)), some (.cells (cnats .u32 g)), some (.cells (cnats .u32 (zeros 35)))] := fun n _ => by simp [Blk.cl]
 have hb := hs.back
 simp at hb
 simp [hf, hg, htf, htg]
 refine callS_of (both_ok 248 [] (fun a b => (a + 4294967296 - b) % 4294967296) f g _ hs hf hg (fun _ _ => rfl) (fun i h r => Sub1_ok _ _ (hgw _ (List.getElem_mem _)) _)) ?_
 have e : List.zipWith (fun a b => (a + 4294967296 - b) % 4294967296) f g = fSub f g := rfl
 simp [e, hb, hl, htl]
theorem fMul_ok [HasAffine G] (f : List Nat) (k : Nat) (hf : f.length = 35) : FP G 251 [.agg (cnats .u32 f), .int .u32 k] (.agg (cnats .u32 (fMul f k))) := by
 refine FP_of HasAffine.h_affine_Mul (Nat.le_of_ble_eq_true rfl) ?_
 have htf := take_full (k := .u32) hf
 have hl : (fMul f k).length = 35 := by simp [fMul, hf]
 have htl := take_full (k := .u32) hl
 have hs : HShut [some (.cells (cnats .u32 f)), some (.cells [.int .u32 k]), some (.cells (cnats .u32 (zeros 35)))] := fun n _ => by simp [Blk.cl]
 have hb := hs.back
 simp at hb
 simp [hf, htf]
 refine callS_of (both_ok 250 [.ptr 1 0] (fun a _ => a * k % 4294967296) f f _ hs hf hf (fun n hn => by simp at hn; simp [clL, V.cl, show 1 < n by omega]) (fun i h r => Mul1_ok _ _ k 1 _ (by simp))) ?_
 have e : f.map (fun a => a * k % 4294967296) = fMul f k := rfl
 simp [e, hb, hf, hl, htl]
def fConst (f : List Nat) : Option Nat := if f.drop 1 = zeros 34 then f.head? else none
theorem fConst_ok [HasAffine G] (f : List Nat) (hf : f.length = 35) : FP G 253 [.agg (cnats .u32 f)] (.tup [.int .u32 ((fConst f).getD 0 : Nat), .bool (fConst f).isSome]) := by
 refine FP_of HasAffine.h_affine_Constant (Nat.le_of_ble_eq_true rfl) ?_
 obtain ⟨c, t, rfl⟩ : ∃ c t, f = c :: t := by cases f with | nil => simp at hf | cons c t => exact ⟨c, t, rfl⟩
 have ht : t.length = 34 := by simpa using hf
 have hc : cnats .u32 (c :: t) = .int .u32 (c : Int) :: cnats .u32 t := rfl
 have he := eqks_k .u32 (n := 34) (a := t) (b := zeros 34) ht (by simp)
 have htt := take_full (k := .u32) ht
 by_cases e : t = zeros 34
 ·have hfc : fConst (c :: t) = some c := by simp [fConst, e]
  rw [decide_eq_true e] at he
  simp [-List.reduceReplicate, hc, ht, htt, he, hfc]
 ·have hfc : fConst (c :: t) = none := by simp [fConst, e]
  rw [decide_eq_false e] at he
  simp [-List.reduceReplicate, hc, ht, htt, he, hfc]
def fSum (f v : List Nat) (i : Nat) : Nat := ((List.zipWith (· * ·) (f.drop 1) v).take i).sum
def fEval (f v : List Nat) : Nat := (f.headD 0 + fSum f v 34) % 4294967296
def fOne (f : List Nat) : Option Nat := (List.range 34).find? fun i => decide (f = varL i)
theorem fOne_ok [HasAffine G] (f : List Nat) (hf : f.length = 35) : FP G 254 [.agg (cnats .u32 f)] (.tup [.int .i64 ((fOne f).getD 0 : Nat), .bool (fOne f).isSome]) := by
 refine FP_of HasAffine.h_affine_Single (Nat.le_of_ble_eq_true rfl) ?_
 obtain ⟨c, t, rfl⟩ : ∃ c t, f = c :: t := by cases f with | nil => simp at hf | cons c t => exact ⟨c, t, rfl⟩
 have ht : t.length = 34 := by simpa using hf
 have hc : cnats .u32 (c :: t) = .int .u32 (c : Int) :: cnats .u32 t := rfl
 have htt := take_full (k := .u32) ht
 have htf := take_full (k := .u32) hf
 rw [hc] at htf
 have hk : (List.replicate 35 Kd.int) = Kd.int :: List.replicate 34 .int := rfl
 simp [-List.reduceReplicate, hc, ht, htt]
 refine W_up 34 (fun i => [(1, .ptr 0 0), (9, .agg (cnats .u32 t)), (10, .int .i64 i)]) (fun _ => [some (.cells (.int .u32 (c : Int) :: cnats .u32 t))]) (fun i => ∀ j, j < i → c :: t ≠ varL j) ?_ ?_
 ·simp [keep_cl, trunc, clL, V.cl]
 intro i hi hp
 by_cases hlt : i < 34
 ·have q1 := cnats_q .u32 (get_in (show i < t.length by omega))
  have hd : (cnats .u32 (zeros 35)).drop 35 = [] := rfl
  have hvl : (varL i).length = 35 := by simp [varL]
  have htv := take_full (k := .u32) hvl
  have he := eqks_k .u32 (n := 35) (a := varL i) (b := c :: t) hvl hf
  rw [hc] at he
  have g1 : c :: t = varL i → t[i] = 1 := fun e => by
   have h1 : (c :: t)[i + 1]? = some 1 := by rw [e, varL, List.getElem?_set_self (by simp; omega)]
   rw [List.getElem?_cons_succ, get_in (by omega)] at h1
   exact Option.some.inj h1
  simp (disch := omega) [-List.reduceReplicate, ltT, ltF, leF, leFn, leTn, hlt, ht, q1]
  refine callP_of (affVar_ok i hlt) ?_
  by_cases h1 : t[i] = 1
  ·by_cases e : varL i = c :: t
   ·have hone : fOne (c :: t) = some i := by
     rw [fOne, List.find?_range_eq_some]
     exact ⟨by simpa using e.symm, List.mem_range.2 hlt, fun j hj => by simpa using hp j hj⟩
    rw [decide_eq_true e] at he
    simp (disch := omega) [-List.reduceReplicate, ltT, ltF, leF, leFn, leTn, hlt, ht, hvl, htv, htf, hd, h1, he, hone]
   ·rw [decide_eq_false e] at he
    have hp' : ∀ j, j < i + 1 → c :: t ≠ varL j := fun j hj => by
     by_cases e' : j = i
     ·subst e'; exact fun h => e h.symm
     ·exact hp j (by omega)
    simp (disch := omega) [-List.reduceReplicate, ltT, ltF, leF, leFn, leTn, hlt, ht, hvl, htv, htf, hd, h1, he, -Int.natCast_add, add1', keep_cl, trunc, clL, V.cl]
    exact hp'
  ·have hp' : ∀ j, j < i + 1 → c :: t ≠ varL j := fun j hj => by
    by_cases e' : j = i
    ·subst e'; exact fun h => h1 (g1 h)
    ·exact hp j (by omega)
   have h1' : ((t[i] : Int) == 1) = false := by rw [beq_eq_false_iff_ne]; omega
   simp (disch := omega) [-List.reduceReplicate, ltT, ltF, leF, leFn, leTn, hlt, ht, hvl, htv, htf, hd, h1, h1', -Int.natCast_add, add1', keep_cl, trunc, clL, V.cl]
   exact hp'
 ·have hi34 : i = 34 := by omega
  subst hi34
  have hnone : fOne (c :: t) = none := by
   rw [fOne, List.find?_eq_none]
   intro j hj
   simpa using hp j (List.mem_range.1 hj)
  simp [hnone]
end Go.Ev
/- More of what is done with bits. -/
namespace Go.Ev
open Go Go.RowKit
variable {G : Tbl}
set_option maxRecDepth 10000
set_option maxHeartbeats 4000000
set_option linter.unusedSimpArgs false
set_option linter.unusedVariables false
theorem Do_is (hG : HasBits G) {kind : Int} {fv gv vs : List Int} {ft gt tab : List Nat} (hok : DoOk kind fv gv ft gt) (hft : ∀ w ∈ ft, w < 4294967296) (hgt : ∀ w ∈ gt, w < 4294967296) (hR : Right vs tab)
  (hs : ∀ p, sem vs tab p = (doW kind (sem fv ft p) (sem gv gt p)).1) : FP G 109 [.int .i64 kind, FV fv ft, FV gv gt] (.tup [FV vs tab, .bool true]) := by
 have h1 := hok.2.1.1
 have h2 := hok.2.2.1.1
 have h3 := tab_small h1 hok.2.1.2.1
 have h4 := tab_small h2 hok.2.2.1.2.1
 obtain ⟨r, hr, h | ⟨_, vs', tab', rfl, hR', _, hs'⟩⟩ := Do_ok hG kind fv gv ft gt (by omega) (by omega) (by omega) (by omega) hft hgt
 ·exact absurd hok h.1
 ·obtain ⟨rfl, rfl⟩ := canon hR' hR fun p => by rw [hs, hs']
  exact hr
theorem val_lt (vs : List Int) (tab : List Nat) (r : Int → Nat) : val vs tab r < 4294967296 := wordOf_lt _ 32
theorem val_do {kind : Int} {fv gv vs : List Int} {ft gt tab : List Nat} (h : kind = 68 ∨ kind = 84 ∨ kind = 164) (hs : ∀ p, sem vs tab p = (doW kind (sem fv ft p) (sem gv gt p)).1) (r : Int → Nat) :
  val vs tab r = (doW kind (val fv ft r) (val gv gt r)).1 := by
 refine Nat.eq_of_testBit_eq fun i => ?_
 have hv : ∀ (v : List Int) (t : List Nat), (val v t r).testBit i = (decide (i < 32) && (sem v t fun u => (r u).testBit i).testBit i) := fun v t => by rw [val, wordOf_bit]
 rcases h with rfl | rfl | rfl <;> simp only [doW] at hs ⊢ <;> simp at hs ⊢ <;> (rw [hv, hs]; simp [hv]; try (cases decide (i < 32) <;> simp))
end Go.Ev
/- Sums, constants, variables and bits of a book. -/
namespace Go.Ev
open Go Go.RowKit
variable {G : Tbl}
set_option maxRecDepth 10000
set_option maxHeartbeats 4000000
set_option linter.unusedSimpArgs false
set_option linter.unusedVariables false
variable {H : Heap} {b z m : Nat} {L : List Nd}
theorem sumNd_ok {f : List Nat} (hf : f.length = 35) : (sumNd f).ok := ⟨hf, rfl, rfl⟩
def putN (L : List Nd) (a : Nd) : Int × List Nd := ((L.idxOf a : Nat), insN L a)
def BF (G : Tbl) (f : Nat) (args : List V) (H : Heap) (b z m : Nat) (p : Int × List Nd) : Prop := SF G f (.ptr b 0 :: args) H (.int .i64 p.1) (upd H b z m p.2)
theorem sum_ok [HasSym G] (f : List Nat) (hf : f.length = 35) (h : Bk H b z m L) (hs : L.length < 1000000) : BF G 260 [.agg (cnats .u32 f)] H b z m (putN L (sumNd f)) := by
 have ht := take_full (k := .u32) hf
 have h1 : Bk (H ++ [some (.cells (cnats .u32 f))]) b z m L := h.app fun n => by simp [Blk.cl]
 have hu := h.upd_app [some (.cells (cnats .u32 f))] (insN L (sumNd f))
 have hbk := h.back (insN L (sumNd f)) [some (.cells (cnats .u32 f))]
 refine SF_of HasSym.h_sym_Book_sum (Nat.le_of_ble_eq_true rfl) ?_
 simp [-List.reduceReplicate, hf, ht, -fillC, nz, fill_sum f hf, ap0, apk, leTn, leFn]
 refine callSF_of (id_ok (sumNd f) (sumNd_ok hf) h1 hs) ?_
 simp [putN, hu, hbk]
theorem BConst_ok [HasAffine G] [HasSym G] (c : Nat) (h : Bk H b z m L) (hs : L.length < 1000000) : BF G 262 [.int .u32 c] H b z m (putN L (sumNd (c :: zeros 34))) := by
 have hbk := h.back (insN L (sumNd (c :: zeros 34))) []
 refine SF_of HasSym.h_sym_Book_Const (Nat.le_of_ble_eq_true rfl) ?_
 simp at hbk
 simp
 refine callP_of (affConst_ok c) ?_
 simp
 refine callSF_of (sum_ok (c :: zeros 34) (by simp) h hs) ?_
 simp [putN, hbk]
def varN (L : List Nd) (i : Int) : Int × List Nd := if 0 ≤ i ∧ i < 34 then putN L (sumNd (varL i.toNat)) else (-1, L)
theorem BVar_ok [HasAffine G] [HasSym G] (i : Int) (h : Bk H b z m L) (hs : L.length < 1000000) : BF G 263 [.int .i64 i] H b z m (varN L i) := by
 refine SF_of HasSym.h_sym_Book_Var (Nat.le_of_ble_eq_true rfl) ?_
 have hd : (cnats .u32 (zeros 35)).drop 35 = [] := rfl
 by_cases hi : i < 0 ∨ 34 ≤ i
 ·have hv : varN L i = (-1, L) := by rw [varN, if_neg (by omega)]
  have hbk := h.shut.back
  simp [hv, h.upd_self]
  refine callP_of (affVar_no i hi) ?_
  simp [hd, hbk]
 ·obtain ⟨n, rfl⟩ := Int.eq_ofNat_of_zero_le (show 0 ≤ i by omega)
  have hv : varN L n = putN L (sumNd (varL n)) := by rw [varN, if_pos (by omega)]; rfl
  have hl : (varL n).length = 35 := by simp [varL]
  have ht := take_full (k := .u32) hl
  have h1 : Bk (H ++ [some (.cells (cnats .u32 (varL n)))]) b z m L := h.app fun n => by simp [Blk.cl]
  have hu := h.upd_app [some (.cells (cnats .u32 (varL n)))] (insN L (sumNd (varL n)))
  have hbk := h.back (insN L (sumNd (varL n))) [some (.cells (cnats .u32 (varL n)))]
  have hsh := h1.shut.self
  simp at hsh
  simp [hv]
  refine callP_of (affVar_ok n (by omega)) ?_
  simp [hd, hl, ht, hsh]
  refine callSF_of (sum_ok (varL n) hl h1 hs) ?_
  simp [putN, hu, hbk]
def bitNd (fv : List Int) (ft : List Nat) : Nd := { Nd0 with kind := 1, n := fv.length, vars := fv.map Int.toNat ++ zeros (4 - fv.length), tab := ft ++ zeros (16 - ft.length) }
def ones : Nat := 4294967295
def bitsN (L : List Nd) (fv : List Int) (ft : List Nat) : Int × List Nd :=
 match fv with
 | [] => putN L (sumNd (ft.headD 0 :: zeros 34))
 | [i] => if ft = [0, ones] then putN L (sumNd (varL i.toNat)) else if ft = [ones, 0] then putN L (sumNd (fSub (ones :: zeros 34) (varL i.toNat))) else putN L (bitNd [i] ft)
 | fv => putN L (bitNd fv ft)
theorem Bbits_ok [HasAffine G] [HasSym G] (fv : List Int) (ft : List Nat) (hR : Right fv ft) (h : Bk H b z m L) (hs : L.length < 1000000) : BF G 261 [FV fv ft] H b z m (bitsN L fv ft) := by
 refine SF_of HasSym.h_sym_Book_bits (Nat.le_of_ble_eq_true rfl) ?_
 have h1 : Bk (H ++ [some (.cells [.vs (ints .i64 fv) .no, .vs (nats .u32 ft) .no])]) b z m L := h.app fun n => by simp [Blk.cl, clL, V.cl]
 obtain ⟨h4, hl, hm⟩ := hR
 match fv, h4, hl, hm, h1 with
 | [], _, hl, _, h1 => 
  obtain ⟨c, rfl⟩ : ∃ c, ft = [c] := by match ft, hl with | [c], _ => exact ⟨c, rfl⟩
  have hu := h.upd_app [some (.cells [.vs (ints .i64 []) .no, .vs (nats .u32 [c]) .no])] (insN L (sumNd (c :: zeros 34)))
  have hbk := h.back (insN L (sumNd (c :: zeros 34))) [some (.cells [.vs (ints .i64 []) .no, .vs (nats .u32 [c]) .no])]
  have hn : ∀ x : Nat, nats .u32 [x] = [[.int .u32 (x : Int)]] := fun _ => rfl
  simp only [hn, ints_nil] at h1 hu hbk
  have hsh := h1.shut.self
  simp at hsh
  simp [FV, bitsN, ap0, apk, leTn, leFn, hn, hsh]
  refine callSF_of (BConst_ok c h1 hs) ?_
  simp [putN, hu, hbk]
 | i :: t, h4, hl, hm, h1 => 
  have hlt : t.length + 1 ≤ 4 := by simpa using h4
  have hmt : ∀ v ∈ t, 0 ≤ v := fun v hv => by
   obtain ⟨j, hj, rfl⟩ := List.getElem_of_mem hv
   obtain ⟨w, hw, hw0, _⟩ := hm (j + 1) (by simp; omega)
   rw [List.getElem?_cons_succ, List.getElem?_eq_getElem hj] at hw
   cases hw; exact hw0
  obtain ⟨v, hv, hv0, hv34, _⟩ := hm 0 (by simp)
  obtain rfl : i = v := by simpa using hv
  obtain ⟨n, rfl⟩ := Int.eq_ofNat_of_zero_le hv0
  have hd : (cnats .u32 (zeros 35)).drop 35 = [] := rfl
  have hl2 : (varL n).length = 35 := by simp [varL]
  have ht := take_full (k := .u32) hl2
  obtain ⟨p, q, r, rfl⟩ : ∃ p q r, ft = p :: q :: r := by
   match ft, hl with
   | p :: q :: r, _ => exact ⟨p, q, r, rfl⟩
   | [p], hl => exfalso; have := Nat.one_le_two_pow (n := t.length); simp [Nat.pow_succ] at hl; omega
   | [], hl => exfalso; have := Nat.one_le_two_pow (n := t.length); simp [Nat.pow_succ] at hl; omega
  have h2 : Bk (H ++ [some (.cells [.vs (ints .i64 ((n : Int) :: t)) .no, .vs (nats .u32 (p :: q :: r)) .no]), some (.cells (cnats .u32 (varL n)))]) b z m L := h.app fun n => by simp [Blk.cl, clL, V.cl]
  have hsh1 := h1.shut.self
  have hsh2 := h2.shut.self
  simp at hsh1 hsh2
  simp (disch := omega) [FV, beqF, ap0, apk, leTn, leFn]
  refine callP_of (affVar_ok n (by omega)) ?_
  have cs : (t = [] ∧ p = 0 ∧ q = ones) ∨ (t = [] ∧ p = ones ∧ q = 0) ∨ (t ≠ [] ∨ t = [] ∧ p ≠ 0 ∧ p ≠ ones ∨ t = [] ∧ p = 0 ∧ q ≠ ones ∨ t = [] ∧ p = ones ∧ q ≠ 0) := by
   by_cases e1 : t = []
   ·simp only [e1, true_and, ne_eq, not_true, false_or, ones]; omega
   ·exact .inr (.inr (.inl e1))
  rcases cs with ⟨rfl, rfl, rfl⟩ | ⟨rfl, rfl, rfl⟩ | cs
  ·obtain rfl : r = [] := by simpa using hl
   have hu := h.upd_app [some (.cells [.vs (ints .i64 [(n : Int)]) .no, .vs (nats .u32 [0, ones]) .no]), some (.cells (cnats .u32 (varL n)))] (insN L (sumNd (varL n)))
   have hbk := h.back (insN L (sumNd (varL n))) [some (.cells [.vs (ints .i64 [(n : Int)]) .no, .vs (nats .u32 [0, ones]) .no]), some (.cells (cnats .u32 (varL n)))]
   have h2' := h2
   simp [ones, nats] at hu hbk h2'
   simp (disch := omega) [ones, nats, FV, beqF, ap0, apk, leTn, leFn, hd, ht, hl2, hsh1, hsh2]
   refine callSF_of (sum_ok (varL n) hl2 h2' hs) ?_
   simp [putN, hu, hbk, bitsN, ones]
  ·obtain rfl : r = [] := by simpa using hl
   have hl3 : (fSub (ones :: zeros 34) (varL n)).length = 35 := by simp [fSub, hl2]
   have hu := h.upd_app [some (.cells [.vs (ints .i64 [(n : Int)]) .no, .vs (nats .u32 [ones, 0]) .no]), some (.cells (cnats .u32 (varL n)))] (insN L (sumNd (fSub (ones :: zeros 34) (varL n))))
   have hbk := h.back (insN L (sumNd (fSub (ones :: zeros 34) (varL n)))) [some (.cells [.vs (ints .i64 [(n : Int)]) .no, .vs (nats .u32 [ones, 0]) .no]), some (.cells (cnats .u32 (varL n)))]
   have h2' := h2
   have hvw : ∀ x ∈ varL n, x < 4294967296 := fun x hx => by
    rw [varL] at hx
    rcases List.mem_or_eq_of_mem_set hx with hx | rfl
    ·rw [zeros, List.mem_replicate] at hx; omega
    ·omega
   simp [ones, nats] at hu hbk h2' hl3
   simp (disch := omega) [ones, nats, FV, beqF, ap0, apk, leTn, leFn, hd, ht, hl2, hsh1, hsh2]
   refine callP_of (affConst_ok 4294967295) ?_
   simp (disch := omega) [ones, nats, FV, beqF, ap0, apk, leTn, leFn, hd, ht, hl2, hsh1, hsh2]
   refine callP_of (fSub_ok (4294967295 :: zeros 34) (varL n) (by simp) hl2 hvw) ?_
   simp
   refine callSF_of (sum_ok _ hl3 h2' hs) ?_
   simp [putN, hu, hbk, bitsN, ones]
  ·have hbn : bitsN L ((n : Int) :: t) (p :: q :: r) = putN L (bitNd ((n : Int) :: t) (p :: q :: r)) := by
    cases t with
    | cons _ _ => rfl
    | nil =>
     obtain rfl : r = [] := by simpa using hl
     simp only [bitsN]
     rw [if_neg, if_neg]
     ·intro e; simp at e; simp at cs; omega
     ·intro e; simp at e; simp at cs; omega
   obtain ⟨a, ha⟩ : ∃ a, a = bitNd ((n : Int) :: t) (p :: q :: r) := ⟨_, rfl⟩
   have hlen : (p :: q :: r).length ≤ 16 := by rw [hl]; exact Nat.pow_le_pow_right (n := 2) (by decide) h4
   have hao : a.ok := by
    rw [ha]
    refine ⟨rfl, ?_, ?_⟩
    ·simp [bitNd]; omega
    ·simp [bitNd] at hlen ⊢; omega
   have hll : (cnats .u32 (zeros 35)).length = 35 := by simp
   obtain ⟨a1, ha1⟩ : ∃ a1 : Nd, a1 = { Nd0 with kind := 1, n := t.length + 1 } := ⟨_, rfl⟩
   obtain ⟨a2, ha2⟩ : ∃ a2 : Nd, a2 = { a1 with vars := ((n : Int) :: t).map Int.toNat ++ zeros (4 - (t.length + 1)) } := ⟨_, rfl⟩
   have haa : a = { a2 with tab := p :: q :: r ++ zeros (16 - (r.length + 2)) } := by rw [ha, ha2, ha1]; rfl
   have hfill : ∀ r : List (Nat × V), fillC (mkE ((66, .int .i64 ((t.length : Int) + 1)) :: r)) Nd0.cs [(0, 1, .c (.int .i64 1)), (36, 1, .t 66)] = some a1.cs := fun r => by
    have he : (mkE ((66, .int .i64 ((t.length : Int) + 1)) :: r)) 66 = .int .i64 ((t.length : Int) + 1) := by simp
    have hd : ∀ r : List V, (cnats .u32 (zeros 35) ++ r).drop 36 = r.drop 1 := fun r => by rw [show 36 = (cnats .u32 (zeros 35)).length + 1 by simp, List.drop_append]; simp
    simp [fillC, Nd0, Nd.cs, ha1, hd]
   have hl1 : a1.cs.length = 60 := Nd.len (by rw [ha1]; exact ⟨rfl, rfl, rfl⟩)
   have htk1 : a1.cs.take 60 = a1.cs := List.take_of_length_le (by omega)
   have hz60 : Nd0.cs.length = 60 := rfl
   have hd0 : Nd0.cs.drop 60 = [] := rfl
   obtain ⟨k4, hk4⟩ : ∃ k4, k4 = t.length + 1 := ⟨_, rfl⟩
   obtain ⟨k16, hk16⟩ : ∃ k16, k16 = r.length + 2 := ⟨_, rfl⟩
   have hsI : ∀ l : List Int, ((ints .i64 l).map List.length).sum = l.length := fun l => by induction l with
    | nil => rfl
    | cons x l ih => simp only [ints_cons, List.map_cons, List.sum_cons, ih, List.length_cons, List.length_nil]; omega
   have hsN : ∀ l : List Nat, ((nats .u32 l).map List.length).sum = l.length := fun l => by rw [nats_ints, ints, List.map_map]; induction l with
    | nil => rfl
    | cons x l ih => simp only [List.map_cons, List.sum_cons, List.map_map] at ih ⊢; rw [ih]; simp; omega
   have hm4 : min ((ints .i64 ((n : Int) :: t)).map List.length).sum 4 = k4 := by rw [hsI]; simp; omega
   have hm16 : min ((nats .u32 (p :: q :: r)).map List.length).sum 16 = k16 := by rw [hsN]; simp at hlen ⊢; omega
   have hi4 : (ints .i64 ((n : Int) :: t)).flatten = cnats .i64 (((n : Int) :: t).map Int.toNat) := by
    have : ∀ l : List Int, (∀ v ∈ l, 0 ≤ v) → (ints .i64 l).flatten = cnats .i64 (l.map Int.toNat) := fun l => by
     induction l with
     | nil => intro _; rfl
     | cons x l ih =>
      intro hx
      rw [ints_cons, List.flatten_cons, ih (fun v hv => hx v (by simp [hv]))]
      have := hx x (by simp)
      simp [cnats]; omega
    exact this _ fun v hv => by rcases List.mem_cons.1 hv with rfl | hv; omega; exact hmt v hv
   have hi16 : (nats .u32 (p :: q :: r)).flatten = cnats .u32 (p :: q :: r) := by
    have : ∀ l : List Nat, (nats .u32 l).flatten = cnats .u32 l := fun l => by
     induction l with
     | nil => rfl
     | cons x l ih => rw [nats_cons, List.flatten_cons, ih]; rfl
    exact this _
   have ht4 : (cnats .i64 (((n : Int) :: t).map Int.toNat)).take k4 = cnats .i64 (((n : Int) :: t).map Int.toNat) := List.take_of_length_le (by simp; omega)
   have ht16 : (cnats .u32 (p :: q :: r)).take k16 = cnats .u32 (p :: q :: r) := List.take_of_length_le (by simp; omega)
   have c37 : ∀ c : Nd, c.ok → c.cs.take 37 = .int .i64 (c.kind : Int) :: (cnats .u32 c.f ++ [.int .i64 (c.n : Int)]) ∧ c.cs.drop 37 = cnats .i64 c.vars ++ (cnats .u32 c.tab ++ [.int .i64 c.op, .int .i64 (c.x : Int), .int .i64 (c.y : Int)]) := fun c hc => by
    have e : c.cs = (.int .i64 (c.kind : Int) :: (cnats .u32 c.f ++ [.int .i64 (c.n : Int)])) ++ (cnats .i64 c.vars ++ (cnats .u32 c.tab ++ [.int .i64 c.op, .int .i64 (c.x : Int), .int .i64 (c.y : Int)])) := by simp [Nd.cs]
    have hl : (V.int .i64 (c.kind : Int) :: (cnats .u32 c.f ++ [.int .i64 (c.n : Int)])).length = 37 := by simp [hc.1]
    rw [e]
    exact ⟨List.take_left' hl, List.drop_left' hl⟩
   have c41 : ∀ c : Nd, c.ok → c.cs.take 41 = .int .i64 (c.kind : Int) :: (cnats .u32 c.f ++ .int .i64 (c.n : Int) :: cnats .i64 c.vars) ∧ c.cs.drop 41 = cnats .u32 c.tab ++ [.int .i64 c.op, .int .i64 (c.x : Int), .int .i64 (c.y : Int)] := fun c hc => by
    have e : c.cs = (.int .i64 (c.kind : Int) :: (cnats .u32 c.f ++ .int .i64 (c.n : Int) :: cnats .i64 c.vars)) ++ (cnats .u32 c.tab ++ [.int .i64 c.op, .int .i64 (c.x : Int), .int .i64 (c.y : Int)]) := by simp [Nd.cs]
    have hl : (V.int .i64 (c.kind : Int) :: (cnats .u32 c.f ++ .int .i64 (c.n : Int) :: cnats .i64 c.vars)).length = 41 := by simp [hc.1, hc.2.1]
    rw [e]
    exact ⟨List.take_left' hl, List.drop_left' hl⟩
   have hao1 : a1.ok := by rw [ha1]; exact ⟨rfl, rfl, rfl⟩
   have hao2 : a2.ok := by rw [ha2, ha1]; refine ⟨rfl, ?_, rfl⟩; simp; omega
   have dz : ∀ (k : IntKind) (n j : Nat) (r : List V), j ≤ n → (cnats k (zeros n) ++ r).drop j = cnats k (zeros (n - j)) ++ r := fun k n j r h => by
    rw [List.drop_append_of_le_length (by simp; exact h), cnats, ← List.map_drop, zeros, List.drop_replicate]; rfl
   have m1 : a1.cs.take 37 ++ (cnats .i64 (((n : Int) :: t).map Int.toNat) ++ a1.cs.drop (37 + k4)) = a2.cs := by
    rw [← List.drop_drop, (c37 a1 hao1).1, (c37 a1 hao1).2, show a1.vars = zeros 4 by rw [ha1]; rfl, dz .i64 4 k4 _ (by omega), ha2, hk4]
    simp [Nd.cs, ha1, cnats]
   have m2 : a2.cs.take 41 ++ (cnats .u32 (p :: q :: r) ++ a2.cs.drop (41 + k16)) = a.cs := by
    rw [← List.drop_drop, (c41 a2 hao2).1, (c41 a2 hao2).2, show a2.tab = zeros 16 by rw [ha2, ha1]; rfl, dz .u32 16 k16 _ (by simp at hlen; omega), haa, hk16]
    simp [Nd.cs, cnats]
   have hla := Nd.len hao
   have hla2 := Nd.len hao2
   have hta : a.cs.take 60 = a.cs := List.take_of_length_le (by omega)
   have hcl1 : ∀ (c : Nd) (n : Nat), clL n c.cs = c.cs := fun c n => by rw [clL_eq_map]; simp [Nd.cs, cnats, Function.comp_def, V.cl]
   have h3 : Bk (H ++ [some (.cells [.vs (ints .i64 ((n : Int) :: t)) .no, .vs (nats .u32 (p :: q :: r)) .no]), some (.cells (cnats .u32 (varL n))), some (.cells a.cs)]) b z m L := h.app fun n => by simp [Blk.cl, hcl1, clL, V.cl]
   have hu := h.upd_app [some (.cells [.vs (ints .i64 ((n : Int) :: t)) .no, .vs (nats .u32 (p :: q :: r)) .no]), some (.cells (cnats .u32 (varL n))), some (.cells a.cs)] (insN L a)
   have hbk := h.back (insN L a) [some (.cells [.vs (ints .i64 ((n : Int) :: t)) .no, .vs (nats .u32 (p :: q :: r)) .no]), some (.cells (cnats .u32 (varL n))), some (.cells a.cs)]
   rw [hbn, ← ha]
   rw [hk4] at m1 ht4
   rw [hk16] at m2 ht16
   rw [show r.length + 2 = r.length + 1 + 1 from rfl] at m2 ht16
   simp only [List.map_cons, Int.toNat_natCast] at m1 ht4
   rcases cs with cs | ⟨rfl, cs, cs'⟩ | ⟨rfl, rfl, cs⟩ | ⟨rfl, rfl, cs⟩
   ·have htl : 0 < t.length := List.length_pos_iff.2 cs
    simp (disch := omega) [-fillC, nz, FV, beqF, ap0, apk, leTn, leFn, set0, setk, hd, ht, hl2, hsh1, hsh2, hfill, hl1, htk1, hz60, hd0, hm4, hm16, hi4, hi16, ht4, ht16, m1, m2, hla, hla2, hta]
    refine callSF_of (id_ok a hao h3 hs) ?_
    simp [putN, hu, hbk]
   ·have hp0 : ((p : Int) == 0) = false := beqF (by omega)
    have hp1 : ((p : Int) == 4294967295) = false := beqF (by rw [ones] at cs'; omega)
    have hfill1 : ∀ r, fillC (mkE ((66, .int .i64 1) :: r)) Nd0.cs [(0, 1, .c (.int .i64 1)), (36, 1, .t 66)] = some a1.cs := fun r => hfill r
    simp [ones] at m1 ht4 m2 ht16 h3 hu hbk
    simp (disch := omega) [hp0, hp1, hfill1, -fillC, nz, FV, beqF, ap0, apk, leTn, leFn, set0, setk, hd, ht, hl2, hsh1, hsh2, hfill, hl1, htk1, hz60, hd0, hm4, hm16, hi4, hi16, ht4, ht16, m1, m2, hla, hla2, hta]
    refine callSF_of (id_ok a hao h3 hs) ?_
    simp [putN, hu, hbk]
   ·have hp1 : ((q : Int) == 4294967295) = false := beqF (by rw [ones] at cs; omega)
    have hfill1 : ∀ r, fillC (mkE ((66, .int .i64 1) :: r)) Nd0.cs [(0, 1, .c (.int .i64 1)), (36, 1, .t 66)] = some a1.cs := fun r => hfill r
    simp [ones] at m1 ht4 m2 ht16 h3 hu hbk
    simp (disch := omega) [hp1, hfill1, -fillC, nz, FV, beqF, ap0, apk, leTn, leFn, set0, setk, hd, ht, hl2, hsh1, hsh2, hfill, hl1, htk1, hz60, hd0, hm4, hm16, hi4, hi16, ht4, ht16, m1, m2, hla, hla2, hta]
    refine callSF_of (id_ok a hao h3 hs) ?_
    simp [putN, hu, hbk]
   ·have hp1 : ((q : Int) == 0) = false := beqF (by omega)
    have hfill1 : ∀ r, fillC (mkE ((66, .int .i64 1) :: r)) Nd0.cs [(0, 1, .c (.int .i64 1)), (36, 1, .t 66)] = some a1.cs := fun r => hfill r
    simp [ones] at m1 ht4 m2 ht16 h3 hu hbk
    simp only [ones] at hm16 hi16
    simp (disch := omega) [ones, hp1, hfill1, -fillC, nz, FV, beqF, ap0, apk, leTn, leFn, set0, setk, hd, ht, hl2, hsh1, hsh2, hfill, hl1, htk1, hz60, hd0, hm4, hm16, hi4, hi16, ht4, ht16, m1, m2, hla, hla2, hta]
    refine callSF_of (id_ok a hao h3 hs) ?_
    simp [putN, hu, hbk]
end Go.Ev
/- What a book's values are. -/
namespace Go.Ev
open Go Go.RowKit
variable {G : Tbl}
set_option maxRecDepth 10000
set_option maxHeartbeats 4000000
set_option linter.unusedSimpArgs false
set_option linter.unusedVariables false
variable {H : Heap} {b z m : Nat} {L : List Nd}
def asB (a : Nd) : Option (List Int × List Nat) :=
 if a.kind = 1 then some ((a.vars.take a.n).map fun (x : Nat) => (x : Int), a.tab.take (2 ^ a.n))
 else if a.kind = 0 then (match fConst a.f with
  | some c => some ([], [c])
  | none => match fOne a.f with
   | some i => some ([(i : Int)], [0, ones])
   | none => match fOne (fSub (ones :: zeros 34) a.f) with
    | some i => some ([(i : Int)], [ones, 0])
    | none => none)
 else none
def asBV (o : Option (List Int × List Nat)) : V := match o with
 | some p => .tup [FV p.1 p.2, .bool true]
 | none => .tup [.agg [.vs [] .full, .vs [] .full], .bool false]
theorem chunks_nats (k : IntKind) (r : List V) : ∀ (n : Nat) (l : List Nat), n ≤ l.length → chunks 1 n (cnats k l ++ r) = nats k (l.take n)
 | 0, _, _ => by simp [chunks]
 | n + 1, [], h => by simp at h
 | n + 1, x :: l, h => by
  have ih := chunks_nats k r n l (by simpa using h)
  simp only [cnats, List.map_cons, List.cons_append, chunks, List.take_succ_cons, nats_cons]
  rw [show (V.int k (x : Int) :: ((l.map fun (x : Nat) => V.int k (x : Int)) ++ r)).drop 1 = cnats k l ++ r from rfl, ih]
  rfl
theorem Nd.cs_cl (n : Nat) (c : Nd) : clL n c.cs = c.cs := by rw [clL_eq_map]; simp [Nd.cs, cnats, Function.comp_def, V.cl]
theorem right_var (i : Nat) (hi : i < 34) : Right [(i : Int)] [0, ones] ∧ Right [(i : Int)] [ones, 0] := by
 constructor
 all_goals
  refine ⟨by simp, by simp, fun j hj => ?_⟩
  obtain rfl : j = 0 := by simpa using hj
  exact ⟨_, rfl, by omega, by omega, fun u h => absurd h (by omega), by decide⟩
theorem xor_ones [HasBits G] (i : Nat) (hi : i < 34) : FP G 109 [.int .i64 164, FV [(i : Int)] [0, ones], FV [] [ones]] (.tup [FV [(i : Int)] [ones, 0], .bool true]) := by
 obtain ⟨r1, r2⟩ := right_var i hi
 have r3 : Right [] [ones] := ⟨by simp, by simp, fun j hj => by simp at hj⟩
 exact Do_is (by infer_instance) ⟨by decide, r1, r3, by simp [mer]⟩ (by simp [ones]) (by simp [ones]) r2 fun p => by cases h : p (i : Int) <;> simp [sem, idx, h, doW, ones]
theorem asBits_ok [HasAffine G] [HasBits G] [HasSym G] (x : Nat) (a : Nd) (h : Bk H b z m L) (hx : L[x]? = some a) (hn : a.kind = 1 → a.n ≤ 4) (hw : ∀ c ∈ a.f, c < 4294967296) : SF G 265 [.ptr b 0, .int .i64 x] H (asBV (asB a)) H := by
 refine SF_of HasSym.h_sym_Book_asBits (Nat.le_of_ble_eq_true rfl) ?_
 have hlt := h.lb
 have hb := h.hb'
 have hb2 : ∀ r : Heap, (H ++ r)[b]? = some (some (.cells [.vs (nds L) (.own z), .mp m])) := fun r => by rw [List.getElem?_append_left hlt]; exact hb
 have hg := nds_get hx
 have hao := h.ok a (List.mem_of_getElem? hx)
 have hl := Nd.len hao
 have htk : a.cs.take 60 = a.cs := List.take_of_length_le (by omega)
 have hd0 : Nd0.cs.drop 60 = [] := rfl
 have hz60 : Nd0.cs.length = 60 := rfl
 have hbk := h.shut.back
 have g0 : a.cs.head? = some (.int .i64 (a.kind : Int)) := rfl
 have t1 : a.cs.take 1 = [.int .i64 (a.kind : Int)] := rfl
 have e36 : a.cs = (.int .i64 (a.kind : Int) :: cnats .u32 a.f) ++ (.int .i64 (a.n : Int) :: (cnats .i64 a.vars ++ (cnats .u32 a.tab ++ [.int .i64 a.op, .int .i64 (a.x : Int), .int .i64 (a.y : Int)]))) := by simp [Nd.cs]
 have l36 : (V.int .i64 (a.kind : Int) :: cnats .u32 a.f).length = 36 := by simp [hao.1]
 have d36 : a.cs.drop 36 = .int .i64 (a.n : Int) :: (cnats .i64 a.vars ++ (cnats .u32 a.tab ++ [.int .i64 a.op, .int .i64 (a.x : Int), .int .i64 (a.y : Int)])) := by rw [e36]; exact List.drop_left' l36
 have d37 : a.cs.drop 37 = cnats .i64 a.vars ++ (cnats .u32 a.tab ++ [.int .i64 a.op, .int .i64 (a.x : Int), .int .i64 (a.y : Int)]) := by rw [show 37 = 36 + 1 from rfl, ← List.drop_drop, d36]; rfl
 have d41 : a.cs.drop 41 = cnats .u32 a.tab ++ [.int .i64 a.op, .int .i64 (a.x : Int), .int .i64 (a.y : Int)] := by rw [show 41 = 37 + 4 from rfl, ← List.drop_drop, d37]; exact List.drop_left' (by simp [hao.2.1])
 have t36 : (a.cs.drop 36).take 1 = [.int .i64 (a.n : Int)] := by rw [d36]; rfl
 have t35 : (a.cs.drop 1).take 35 = cnats .u32 a.f := by
  show (cnats .u32 a.f ++ _).take 35 = _
  rw [List.take_left' (by simp [hao.1])]
 have t35' : a.cs.tail.take 35 = cnats .u32 a.f := by rw [← List.drop_one]; exact t35
 have hne' : (H.length = b) = False := eq_false (by omega)
 have hnz : (b = H.length) = False := eq_false (by omega)
 by_cases hk1 : a.kind = 1
 ·have hk : ((a.kind : Int) == 1) = true := beqT (by omega)
  have hn4 := hn hk1
  have hn4' : ((a.n : Int) ≤ 4) = True := eq_true (by omega)
  have hp16 : 2 ^ a.n ≤ 16 := Nat.pow_le_pow_right (n := 2) (by decide) hn4
  obtain ⟨w, hw⟩ : ∃ w, w = 2 ^ a.n := ⟨_, rfl⟩
  have hsh : shlI .i64 1 (a.n : Int) = (w : Int) := by rw [hw]; exact shl1 (by omega)
  rw [← hw] at hp16
  have hn0 : ((a.n : Int) < 0) = False := eq_false (by omega)
  have hpure : a.cs.all V.pure = true := by simp [Nd.cs, cnats, V.pure]
  have hc1 : chunks 1 a.n (a.cs.drop 37) = ints .i64 ((a.vars.take a.n).map fun (x : Nat) => (x : Int)) := by rw [d37, chunks_nats _ _ _ _ (by rw [hao.2.1]; exact hn4), nats_ints]; rfl
  have hc2 : chunks 1 w (a.cs.drop 41) = nats .u32 (a.tab.take w) := by rw [d41, chunks_nats _ _ _ _ (by rw [hao.2.2]; exact hp16)]
  have hasb : asB a = some ((a.vars.take a.n).map fun (x : Nat) => (x : Int), a.tab.take w) := by rw [asB, if_pos hk1, hw]
  have hp16' : ((w : Int) ≤ 16) = True := eq_true (by omega)
  simp (disch := omega) [nz, hn4', hsh, hp16', hn0, hpure, hc1, hc2, hasb, asBV, FV, hbk, hb2, hb, hg, hl, htk, hd0, hz60, ap0, apk, set0, setk, leTn, leFn, hne', t1, t36, hk]
 ·have hk : ((a.kind : Int) == 1) = false := beqF (by omega)
  by_cases hk0 : a.kind = 0
  ·have hk0' : ((a.kind : Int) != 0) = false := bneF (by omega)
   have hfc := fConst_ok (G := G) a.f hao.1
   have hpf := take_full (k := .u32) hao.1
   have hsh : ∀ r : List Blk, True := fun _ => trivial
   cases hc : fConst a.f with
   | some c =>
    have hasb : asB a = some ([], [c]) := by rw [asB, if_neg hk1, if_pos hk0, hc]
    simp (disch := omega) [-List.reduceReplicate, nz, hk0', hasb, asBV, FV, hbk, hb2, hb, hg, hl, htk, hd0, hz60, ap0, apk, set0, setk, leTn, leFn, hne', t1, t35, t35', hk]
    refine callP_of hfc ?_
    simp (disch := omega) [-List.reduceReplicate, hc, nz, hk0', hasb, asBV, FV, hbk, hb2, hb, hg, hl, htk, hd0, hz60, ap0, apk, set0, setk, leTn, leFn, hne', t1, t35, t35', hk]
    refine callP_of (Const_ok (by infer_instance) c) ?_
    simp (disch := omega) [-List.reduceReplicate, hc, nz, hk0', hasb, asBV, FV, hbk, hb2, hb, hg, hl, htk, hd0, hz60, ap0, apk, set0, setk, leTn, leFn, hne', t1, t35, t35', hk]
   | none =>
    have hl3 : (fSub (ones :: zeros 34) a.f).length = 35 := by simp [fSub, hao.1]
    obtain ⟨tf, htf⟩ : ∃ tf, tf = fSub (ones :: zeros 34) a.f := ⟨_, rfl⟩
    have hsu := fSub_ok (G := G) (ones :: zeros 34) a.f (by simp) hao.1 hw
    rw [← htf] at hl3 hsu
    have hpt := take_full (k := .u32) hl3
    have hd35 : (cnats .u32 (zeros 35)).drop 35 = [] := rfl
    simp (disch := omega) [-List.reduceReplicate, nz, hk0', hbk, hb2, hb, hg, hl, htk, hd0, hz60, ap0, apk, set0, setk, leTn, leFn, hne', t1, t35, t35', hk]
    refine callP_of hfc ?_
    simp (disch := omega) [-List.reduceReplicate, hc, nz, hk0', hbk, hb2, hb, hg, hl, htk, hd0, hz60, ap0, apk, set0, setk, leTn, leFn, hne', t1, t35, t35', hk]
    refine callP_of (affConst_ok 4294967295) ?_
    simp (disch := omega) [-List.reduceReplicate, hc, nz, hk0', hbk, hb2, hb, hg, hl, htk, hd0, hz60, ap0, apk, set0, setk, leTn, leFn, hne', t1, t35, t35', hk]
    refine callP_of hsu ?_
    simp (disch := omega) [-List.reduceReplicate, hc, nz, hk0', hbk, hb2, hb, hg, hl, htk, hd0, hz60, ap0, apk, set0, setk, leTn, leFn, hne', t1, t35, t35', hk, hl3, hpt, hpf, hao.1, hd35]
    have h3 : Bk (H ++ [some (.cells [.vs [] .full, .vs [] .full]), some (.cells a.cs), some (.cells (cnats .u32 tf))]) b z m L := h.app fun n => by simp [Blk.cl, clL, V.cl, Nd.cs_cl]
    have hb3 := h3.shut.back
    have hs3 := h3.shut.self
    simp at hb3 hs3
    have hsl : (((List.replicate 2 (cnats .u32 (zeros 35))).set 0 (cnats .u32 a.f)).set 1 (cnats .u32 tf)) = [cnats .u32 a.f, cnats .u32 tf] := rfl
    rw [hsl]
    refine W_up 2 (fun i => [(4, .ptr H.length 0), (6, .ptr (H.length + 1) 0), (56, .vs [cnats .u32 a.f, cnats .u32 tf] .full), (57, .int .i64 2), (58, .int .i64 i)]) (fun _ => H ++ [some (.cells [.vs [] .full, .vs [] .full]), some (.cells a.cs), some (.cells (cnats .u32 tf))])
     (fun i => (0 < i → fOne a.f = none) ∧ (1 < i → fOne tf = none)) ?_ ?_
    ·simp [keep_cl, hs3]
    intro i hi hp
    by_cases hlt : i < 2
    ·obtain ⟨g, hgg, hgl, hgi⟩ : ∃ g, [cnats .u32 a.f, cnats .u32 tf][i]? = some (cnats .u32 g) ∧ g.length = 35 ∧ (i = 0 ∧ g = a.f ∨ i = 1 ∧ g = tf) := by
      rcases (show i = 0 ∨ i = 1 by omega) with rfl | rfl
      ·exact ⟨a.f, rfl, hao.1, .inl ⟨rfl, rfl⟩⟩
      ·exact ⟨tf, rfl, hl3, .inr ⟨rfl, rfl⟩⟩
     have hog := fOne_ok (G := G) g hgl
     have htg := take_full (k := .u32) hgl
     have hge : ([cnats .u32 a.f, cnats .u32 tf][i]'(by simp; omega)) = cnats .u32 g := (List.getElem?_eq_some_iff.1 hgg).2
     have heq := eqks_k .u32 (n := 35) (a := g) (b := a.f) hgl hao.1
     have hb4 : ∀ (r : Heap), trunc (H.length + 3) (H ++ some (.cells [.vs [] .full, .vs [] .full]) :: some (.cells a.cs) :: some (.cells (cnats .u32 tf)) :: r) = H ++ [some (.cells [.vs [] .full, .vs [] .full]), some (.cells a.cs), some (.cells (cnats .u32 tf))] := fun r => by
      have := h3.shut.back r
      simpa using this
     simp (disch := omega) [-List.reduceReplicate, ltT, hlt, hge, hgl, htg, hd35, ap0, apk, set0, setk, leTn, leFn]
     refine callP_of hog ?_
     cases hog2 : fOne g with
     | none =>
      have hp' : fOne a.f = none ∧ (0 < i → fOne tf = none) := by
       rcases hgi with ⟨rfl, rfl⟩ | ⟨rfl, rfl⟩
       ·exact ⟨hog2, fun h => by omega⟩
       ·exact ⟨hp.1 (by omega), fun _ => hog2⟩
      simp (disch := omega) [-List.reduceReplicate, ltT, hlt, hge, hgl, htg, hd35, ap0, apk, set0, setk, leTn, leFn, -Int.natCast_add, add1', keep_cl, hp', hb4]
      exact hp'.2
     | some j =>
      have hj : j < 34 := by
       have := List.mem_of_find?_eq_some hog2
       exact List.mem_range.1 this
      have hv := Var_ok (G := G) (by infer_instance) (j : Int)
      rw [if_pos ⟨by omega, by omega⟩] at hv
      simp (disch := omega) [-List.reduceReplicate, ltT, hlt, hge, hgl, htg, hd35, ap0, apk, set0, setk, leTn, leFn]
      refine callP_of hv ?_
      simp (disch := omega) [FV, -List.reduceReplicate, ltT, hlt, hge, hgl, htg, hd35, ap0, apk, set0, setk, leTn, leFn, t1, t35, t35', hao.1, hl, hpf]
      rcases hgi with ⟨rfl, rfl⟩ | ⟨rfl, rfl⟩
      ·have hasb : asB a = some ([(j : Int)], [0, ones]) := by rw [asB, if_neg hk1, if_pos hk0, hc]; simp only [hog2]
       simp only [decide_true] at heq
       simp (disch := omega) [hasb, asBV, FV, ones, hbk, -List.reduceReplicate, heq, ap0, apk, set0, setk, leTn, leFn]
      ·have hne2 : g ≠ a.f := fun e => by rw [e, hp.1 (by omega)] at hog2; cases hog2
       have hasb : asB a = some ([(j : Int)], [ones, 0]) := by rw [asB, if_neg hk1, if_pos hk0, hc]; simp only [hp.1 (by omega), ← htf, hog2]
       rw [decide_eq_false hne2] at heq
       simp (disch := omega) [hasb, asBV, FV, ones, hbk, -List.reduceReplicate, heq, ap0, apk, set0, setk, leTn, leFn]
       refine callP_of (Const_ok (by infer_instance) 4294967295) ?_
       simp (disch := omega) [hasb, asBV, FV, ones, hbk, -List.reduceReplicate, heq, ap0, apk, set0, setk, leTn, leFn]
       have hx := xor_ones (G := G) j hj
       simp only [FV, ones] at hx
       refine callP_of hx ?_
       simp (disch := omega) [hasb, asBV, FV, ones, hbk, -List.reduceReplicate, heq, ap0, apk, set0, setk, leTn, leFn]
    ·obtain rfl : i = 2 := by omega
     have h1 := hp.1 (by omega)
     have h2 := hp.2 (by omega)
     have hasb : asB a = none := by rw [asB, if_neg hk1, if_pos hk0, hc]; simp only [h1, ← htf, h2]
     simp (disch := omega) [-List.reduceReplicate, hasb, asBV, hbk, ap0, apk, set0, setk, leTn, leFn]
  ·have hasb : asB a = none := by rw [asB, if_neg hk1, if_neg hk0]
   have hk0' : ((a.kind : Int) != 0) = true := bneT (by omega)
   simp (disch := omega) [-List.reduceReplicate, nz, hk0', hasb, asBV, FV, hbk, hb2, hb, hg, hl, htk, hd0, hz60, ap0, apk, set0, setk, leTn, leFn, hne', t1, t36, hk]
end Go.Ev
/- Work on two values of a book. -/
namespace Go.Ev
open Go Go.RowKit
variable {G : Tbl}
set_option maxRecDepth 10000
set_option maxHeartbeats 4000000
set_option linter.unusedSimpArgs false
set_option linter.unusedVariables false
variable {H : Heap} {b z m : Nat} {L : List Nd}
def Nd.wf (a : Nd) : Prop := (∀ c ∈ a.f, c < 4294967296) ∧ (a.kind = 1 → Right ((a.vars.take a.n).map fun (x : Nat) => (x : Int)) (a.tab.take (2 ^ a.n)) ∧ a.n ≤ 4 ∧ ∀ w ∈ a.tab, w < 4294967296)
def constA (a : Nd) : Option Nat := if a.kind = 0 then fConst a.f else none
theorem asSumF_ok [HasSym G] (x : Nat) (a : Nd) (h : Bk H b z m L) (hx : L[x]? = some a) : SF G 264 [.ptr b 0, .int .i64 x] H (.tup [.agg (cnats .u32 a.f), .bool (decide (a.kind = 0))]) H :=
 ⟨_, _, asSum_ok x a h hx, by simp, h.shut.back _⟩
theorem hasF_ok [HasSym G] (i : Int) (h : Bk H b z m L) : SF G 258 [.ptr b 0, .int .i64 i] H (.bool (hasI L i)) H :=
 ⟨_, _, has_ok i h, rfl, h.shut.self⟩
def constI (L : List Nd) (i : Int) : Option Nat := if hasI L i then (L[i.toNat]?).bind constA else none
theorem BConstant_ok [HasAffine G] [HasSym G] (i : Int) (h : Bk H b z m L) : SF G 266 [.ptr b 0, .int .i64 i] H (.tup [.int .u32 ((constI L i).getD 0 : Nat), .bool (constI L i).isSome]) H := by
 refine SF_of HasSym.h_sym_Book_Constant (Nat.le_of_ble_eq_true rfl) ?_
 have hbk := h.shut.back
 have hs := h.shut.self
 have hd35 : (cnats .u32 (zeros 35)).drop 35 = [] := rfl
 simp
 refine callSF_of (hasF_ok i h) ?_
 cases hi : hasI L i
 ·simp [hs, constI, hi]
 ·obtain ⟨h0, h1⟩ : 0 ≤ i ∧ i < L.length := by simpa [hasI] using hi
  obtain ⟨n, rfl⟩ := Int.eq_ofNat_of_zero_le h0
  have hn : n < L.length := by omega
  obtain ⟨a, ha⟩ : ∃ a, L[n]? = some a := ⟨_, get_in hn⟩
  have hao := h.ok a (List.mem_of_getElem? ha)
  have hpf := take_full (k := .u32) hao.1
  have hci : constI L n = constA a := by simp [constI, hi, ha]
  rw [hci]
  simp
  refine callSF_of (asSumF_ok n a (h.app (r := [none]) fun n => by simp) ha) ?_
  by_cases hk : a.kind = 0
  ·have hca : constA a = fConst a.f := by rw [constA, if_pos hk]
   simp [hk, hca, hd35, hao.1, hpf, ap0]
   refine callP_of (fConst_ok a.f hao.1) ?_
   simp [hbk]
  ·have hca : constA a = none := by rw [constA, if_neg hk]
   simp [hk, hca, hd35, hao.1, hpf, hbk]
abbrev R3 := Int × Bool × List Nd
def okP (p : Int × List Nd) : R3 := (p.1, true, p.2)
def noR (L : List Nd) : R3 := (0, false, L)
def sumsN (L : List Nd) (kind : Int) (a c : Nd) : R3 :=
 if a.kind = 0 ∧ c.kind = 0 then
  if kind = 4 then okP (putN L (sumNd (fAdd a.f c.f)))
  else if kind = 20 then okP (putN L (sumNd (fSub a.f c.f)))
  else match fConst a.f, fConst c.f with
   | some u, some v => if kind = 36 then okP (putN L (sumNd (fMul a.f v))) else if kind = 100 then okP (putN L (sumNd (fMul a.f (doW 100 1 v).1)))
    else ((putN L (sumNd ((doW kind u v).1 :: zeros 34))).1, (doW kind u v).2, (putN L (sumNd ((doW kind u v).1 :: zeros 34))).2)
   | none, some v => if kind = 36 then okP (putN L (sumNd (fMul a.f v))) else if kind = 100 then okP (putN L (sumNd (fMul a.f (doW 100 1 v).1))) else noR L
   | some u, none => if kind = 36 then okP (putN L (sumNd (fMul c.f u))) else noR L
   | none, none => noR L
 else noR L
def BF3 (G : Tbl) (f : Nat) (args : List V) (H : Heap) (b z m : Nat) (p : R3) : Prop := SF G f (.ptr b 0 :: args) H (.tup [.int .i64 p.1, .bool p.2.1]) (upd H b z m p.2.2)
theorem fConst_lt {f : List Nat} {c : Nat} (h : fConst f = some c) (hw : ∀ x ∈ f, x < 4294967296) : c < 4294967296 := by
 rw [fConst] at h
 split at h
 ·exact hw c (List.mem_of_mem_head? h)
 ·cases h
theorem sums_ok [HasWd G] [HasAffine G] [HasSym G] (kind : Int) (x y : Nat) (a c : Nd) (h : Bk H b z m L) (hs : L.length < 1000000) (hx : L[x]? = some a) (hy : L[y]? = some c) (ha : a.wf) (hc : c.wf) :
  BF3 G 267 [.int .i64 kind, .int .i64 x, .int .i64 y] H b z m (sumsN L kind a c) := by
 refine SF_of HasSym.h_sym_Book_sums (Nat.le_of_ble_eq_true rfl) ?_
 have hd35 : (cnats .u32 (zeros 35)).drop 35 = [] := rfl
 have hao := h.ok a (List.mem_of_getElem? hx)
 have hco := h.ok c (List.mem_of_getElem? hy)
 have hpa := take_full (k := .u32) hao.1
 have hpc := take_full (k := .u32) hco.1
 have h1 : Bk (H ++ [some (.cells (cnats .u32 a.f))]) b z m L := h.app fun n => by simp [Blk.cl]
 have h2 : Bk (H ++ [some (.cells (cnats .u32 a.f)), some (.cells (cnats .u32 c.f))]) b z m L := h.app fun n => by simp [Blk.cl]
 have hsh := h.shut.back
 have hs1 := h1.shut.self
 have hs2 := h2.shut.self
 have hu : ∀ L', upd (H ++ [some (.cells (cnats .u32 a.f)), some (.cells (cnats .u32 c.f))]) b z m L' = upd H b z m L' ++ [some (.cells (cnats .u32 a.f)), some (.cells (cnats .u32 c.f))] := fun L' => h.upd_app _ L'
 have hbk : ∀ L' r, trunc H.length (upd H b z m L' ++ r) = upd H b z m L' := fun L' r => h.back L' r
 have hus := h.upd_self
 simp at hs1 hs2
 simp
 refine callSF_of (asSumF_ok x a (h.app (r := [none]) fun n => by simp) hx) ?_
 simp [hd35, hao.1, hpa, ap0, apk, set0, setk, hs1]
 refine callSF_of (asSumF_ok y c (h.app (r := [some (.cells (cnats .u32 a.f)), none]) fun n => by simp [Blk.cl]) hy) ?_
 simp [hd35, hao.1, hpa, hco.1, hpc, ap0, apk, set0, setk, hs2]
 by_cases hka : a.kind = 0
 case neg => simp [hka, sumsN, noR, hus, hsh]
 by_cases hkc : c.kind = 0
 case neg => simp [hka, hkc, sumsN, noR, hus, hsh]
 have hfa := fConst_ok (G := G) a.f hao.1
 have hfc := fConst_ok (G := G) c.f hco.1
 simp [hka, hkc, hd35, hao.1, hpa, hco.1, hpc, ap0, apk, set0, setk, leTn, leFn, hs2]
 refine callP_of hfa ?_
 simp [hka, hkc, hd35, hao.1, hpa, hco.1, hpc, ap0, apk, set0, setk, leTn, leFn, hs2]
 refine callP_of hfc ?_
 simp [hka, hkc, hd35, hao.1, hpa, hco.1, hpc, ap0, apk, set0, setk, leTn, leFn, hs2]
 have hls : (fSub a.f c.f).length = 35 := by simp [fSub, hao.1, hco.1]
 have hla : (fAdd a.f c.f).length = 35 := by simp [fAdd, hao.1, hco.1]
 have hlm : ∀ k, (fMul a.f k).length = 35 := fun k => by simp [fMul, hao.1]
 have hlm' : ∀ k, (fMul c.f k).length = 35 := fun k => by simp [fMul, hco.1]
 by_cases k4 : kind = 4
 ·subst k4
  have hR : sumsN L 4 a c = okP (putN L (sumNd (fAdd a.f c.f))) := by simp [sumsN, hka, hkc]
  simp [hka, hkc, hd35, hao.1, hpa, hco.1, hpc, ap0, apk, set0, setk, leTn, leFn, hs2, hu, hbk]
  refine callP_of (fAdd_ok a.f c.f hao.1 hco.1) ?_
  simp [hka, hkc, hd35, hao.1, hpa, hco.1, hpc, ap0, apk, set0, setk, leTn, leFn, hs2, hu, hbk]
  refine callSF_of (sum_ok (fAdd a.f c.f) hla h2 hs) ?_
  simp [hka, hkc, hd35, hao.1, hpa, hco.1, hpc, ap0, apk, set0, setk, leTn, leFn, hs2, hu, hbk, hR, okP, putN]
 by_cases k20 : kind = 20
 ·subst k20
  have hR : sumsN L 20 a c = okP (putN L (sumNd (fSub a.f c.f))) := by simp [sumsN, hka, hkc]
  simp [hka, hkc, hd35, hao.1, hpa, hco.1, hpc, ap0, apk, set0, setk, leTn, leFn, hs2, hu, hbk]
  refine callP_of (fSub_ok a.f c.f hao.1 hco.1 hc.1) ?_
  simp [hka, hkc, hd35, hao.1, hpa, hco.1, hpc, ap0, apk, set0, setk, leTn, leFn, hs2, hu, hbk]
  refine callSF_of (sum_ok (fSub a.f c.f) hls h2 hs) ?_
  simp [hka, hkc, hd35, hao.1, hpa, hco.1, hpc, ap0, apk, set0, setk, leTn, leFn, hs2, hu, hbk, hR, okP, putN]
 by_cases k36 : kind = 36
 ·subst k36
  cases eu : fConst a.f <;> cases ev : fConst c.f
  ·have hR : sumsN L 36 a c = noR L := by simp [sumsN, hka, hkc, eu, ev]
   simp [hka, hkc, hd35, hao.1, hpa, hco.1, hpc, ap0, apk, set0, setk, leTn, leFn, hs2, hu, hbk, hR, noR, hus, hsh]
  ·rename_i v
   have hR : sumsN L 36 a c = okP (putN L (sumNd (fMul a.f v))) := by simp [sumsN, hka, hkc, eu, ev]
   simp [hka, hkc, hd35, hao.1, hpa, hco.1, hpc, ap0, apk, set0, setk, leTn, leFn, hs2, hu, hbk]
   refine callP_of (fMul_ok a.f v hao.1) ?_
   simp [hka, hkc, hd35, hao.1, hpa, hco.1, hpc, ap0, apk, set0, setk, leTn, leFn, hs2, hu, hbk]
   refine callSF_of (sum_ok (fMul a.f v) (hlm v) h2 hs) ?_
   simp [hka, hkc, hd35, hao.1, hpa, hco.1, hpc, ap0, apk, set0, setk, leTn, leFn, hs2, hu, hbk, hR, okP, putN]

  ·rename_i u
   have hR : sumsN L 36 a c = okP (putN L (sumNd (fMul c.f u))) := by simp [sumsN, hka, hkc, eu, ev]
   simp [hka, hkc, hd35, hao.1, hpa, hco.1, hpc, ap0, apk, set0, setk, leTn, leFn, hs2, hu, hbk]
   refine callP_of (fMul_ok c.f u hco.1) ?_
   simp [hka, hkc, hd35, hao.1, hpa, hco.1, hpc, ap0, apk, set0, setk, leTn, leFn, hs2, hu, hbk]
   refine callSF_of (sum_ok (fMul c.f u) (hlm' u) h2 hs) ?_
   simp [hka, hkc, hd35, hao.1, hpa, hco.1, hpc, ap0, apk, set0, setk, leTn, leFn, hs2, hu, hbk, hR, okP, putN]

  ·rename_i u v
   have hR : sumsN L 36 a c = okP (putN L (sumNd (fMul a.f v))) := by simp [sumsN, hka, hkc, eu, ev]
   simp [hka, hkc, hd35, hao.1, hpa, hco.1, hpc, ap0, apk, set0, setk, leTn, leFn, hs2, hu, hbk]
   refine callP_of (fMul_ok a.f v hao.1) ?_
   simp [hka, hkc, hd35, hao.1, hpa, hco.1, hpc, ap0, apk, set0, setk, leTn, leFn, hs2, hu, hbk]
   refine callSF_of (sum_ok (fMul a.f v) (hlm v) h2 hs) ?_
   simp [hka, hkc, hd35, hao.1, hpa, hco.1, hpc, ap0, apk, set0, setk, leTn, leFn, hs2, hu, hbk, hR, okP, putN]

 have b4 : (kind == 4) = false := beqF k4
 have b20 : (kind == 20) = false := beqF k20
 have b36 : (kind == 36) = false := beqF k36
 by_cases k100 : kind = 100
 ·subst k100
  cases ev : fConst c.f with
  | none =>
   have hR : sumsN L 100 a c = noR L := by cases eu : fConst a.f <;> simp [sumsN, hka, hkc, eu, ev]
   cases eu : fConst a.f <;> simp [hka, hkc, hd35, hao.1, hpa, hco.1, hpc, ap0, apk, set0, setk, leTn, leFn, hs2, hu, hbk, hR, noR, hus, hsh]
  | some v =>
   have hR : sumsN L 100 a c = okP (putN L (sumNd (fMul a.f (doW 100 1 v).1))) := by cases eu : fConst a.f <;> simp [sumsN, hka, hkc, eu, ev]
   have hdo := doW_ok (G := G) (by infer_instance) 100 1 v (by decide) (fConst_lt ev hc.1)
   simp at hdo
   simp [hka, hkc, hd35, hao.1, hpa, hco.1, hpc, ap0, apk, set0, setk, leTn, leFn, hs2, hu, hbk]
   refine callP_of hdo ?_
   simp [hka, hkc, hd35, hao.1, hpa, hco.1, hpc, ap0, apk, set0, setk, leTn, leFn, hs2, hu, hbk]
   refine callP_of (fMul_ok a.f (doW 100 1 v).1 hao.1) ?_
   simp [hka, hkc, hd35, hao.1, hpa, hco.1, hpc, ap0, apk, set0, setk, leTn, leFn, hs2, hu, hbk]
   refine callSF_of (sum_ok (fMul a.f (doW 100 1 v).1) (hlm _) h2 hs) ?_
   simp [hka, hkc, hd35, hao.1, hpa, hco.1, hpc, ap0, apk, set0, setk, leTn, leFn, hs2, hu, hbk, hR, okP, putN]

 have b100 : (kind == 100) = false := beqF k100
 cases eu : fConst a.f with
 | none =>
  have hR : sumsN L kind a c = noR L := by cases ev : fConst c.f <;> simp [sumsN, hka, hkc, eu, ev, k4, k20, k36, k100]
  simp [hka, hkc, hd35, hao.1, hpa, hco.1, hpc, ap0, apk, set0, setk, leTn, leFn, hs2, hu, hbk, b4, b20, b36, b100, hR, noR, hus, hsh]
 | some u =>
  cases ev : fConst c.f with
  | none =>
   have hR : sumsN L kind a c = noR L := by simp [sumsN, hka, hkc, eu, ev, k4, k20, k36, k100]
   simp [hka, hkc, hd35, hao.1, hpa, hco.1, hpc, ap0, apk, set0, setk, leTn, leFn, hs2, hu, hbk, b4, b20, b36, b100, hR, noR, hus, hsh]
  | some v =>
   have hR : sumsN L kind a c = ((putN L (sumNd ((doW kind u v).1 :: zeros 34))).1, (doW kind u v).2, (putN L (sumNd ((doW kind u v).1 :: zeros 34))).2) := by simp [sumsN, hka, hkc, eu, ev, k4, k20, k36, k100]
   have hdo := doW_ok (G := G) (by infer_instance) kind u v (fConst_lt eu ha.1) (fConst_lt ev hc.1)
   simp [hka, hkc, hd35, hao.1, hpa, hco.1, hpc, ap0, apk, set0, setk, leTn, leFn, hs2, hu, hbk, b4, b20, b36, b100]
   refine callP_of hdo ?_
   simp [hka, hkc, hd35, hao.1, hpa, hco.1, hpc, ap0, apk, set0, setk, leTn, leFn, hs2, hu, hbk]
   refine callSF_of (BConst_ok (doW kind u v).1 h2 hs) ?_
   simp [hka, hkc, hd35, hao.1, hpa, hco.1, hpc, ap0, apk, set0, setk, leTn, leFn, hs2, hu, hbk, hR, putN]
end Go.Ev
/- Work on bits of a book, and what is known of all numbers. -/
namespace Go.Ev
open Go Go.RowKit
variable {G : Tbl}
set_option maxRecDepth 10000
set_option maxHeartbeats 4000000
set_option linter.unusedSimpArgs false
set_option linter.unusedVariables false
variable {H : Heap} {b z m : Nat} {L : List Nd}
theorem fOne_lt {f : List Nat} {i : Nat} (h : fOne f = some i) : i < 34 := List.mem_range.1 (List.mem_of_find?_eq_some h)
theorem asB_right {a : Nd} {p : List Int × List Nat} (ha : a.wf) (h : asB a = some p) : Right p.1 p.2 ∧ ∀ w ∈ p.2, w < 4294967296 := by
 rw [asB] at h
 split at h
 ·rename_i hk
  obtain ⟨h1, h2, h3⟩ := ha.2 hk
  cases h
  exact ⟨h1, fun w hw => h3 w (List.mem_of_mem_take hw)⟩
 ·split at h
  ·split at h
   ·rename_i c hc
    cases h
    exact ⟨⟨by simp, by simp, fun j hj => by simp at hj⟩, fun w hw => by rw [List.mem_singleton.1 hw]; exact fConst_lt hc ha.1⟩
   ·split at h
    ·rename_i i hi
     cases h
     exact ⟨(right_var i (fOne_lt hi)).1, by simp [ones]⟩
    ·split at h
     ·rename_i i hi
      cases h
      exact ⟨(right_var i (fOne_lt hi)).2, by simp [ones]⟩
     ·cases h
  ·cases h
open Classical in
/-- What is done with bits. -/
noncomputable def bdo (kind : Int) (p q : List Int × List Nat) : Option (List Int × List Nat) :=
 if h : DoOk kind p.1 q.1 p.2 q.2 ∧ ∃ r : List Int × List Nat, Right r.1 r.2 ∧ (∀ w ∈ r.2, w < 4294967296) ∧ ∀ s, sem r.1 r.2 s = (doW kind (sem p.1 p.2 s) (sem q.1 q.2 s)).1 then some (Classical.choose h.2) else none
def bdoV (o : Option (List Int × List Nat)) : V := match o with
 | some p => .tup [FV p.1 p.2, .bool true]
 | none => .tup [FV [] [], .bool false]
theorem bdo_some {kind : Int} {p q r : List Int × List Nat} (h : bdo kind p q = some r) : DoOk kind p.1 q.1 p.2 q.2 ∧ Right r.1 r.2 ∧ (∀ w ∈ r.2, w < 4294967296) ∧ ∀ s, sem r.1 r.2 s = (doW kind (sem p.1 p.2 s) (sem q.1 q.2 s)).1 := by
 rw [bdo] at h
 split at h
 ·rename_i hh
  cases h
  exact ⟨hh.1, Classical.choose_spec hh.2⟩
 ·cases h
theorem bdo_ok [hG : HasBits G] (kind : Int) (p q : List Int × List Nat) (hp : Right p.1 p.2) (hq : Right q.1 q.2) (hpw : ∀ w ∈ p.2, w < 4294967296) (hqw : ∀ w ∈ q.2, w < 4294967296) :
  FP G 109 [.int .i64 kind, FV p.1 p.2, FV q.1 q.2] (bdoV (bdo kind p q)) ∧ (bdo kind p q = none → ¬ DoOk kind p.1 q.1 p.2 q.2) := by
 have h1 := hp.1
 have h2 := hq.1
 have h3 := tab_small h1 hp.2.1
 have h4 := tab_small h2 hq.2.1
 obtain ⟨r, hr, h | ⟨hok, vs', tab', rfl, hR', hw', hs'⟩⟩ := Do_ok hG kind p.1 q.1 p.2 q.2 (by omega) (by omega) (by omega) (by omega) hpw hqw
 ·have e : bdo kind p q = none := by rw [bdo, dif_neg (fun hh => h.1 hh.1)]
  rw [e]
  obtain ⟨h1, rfl⟩ := h
  exact ⟨hr, fun _ => h1⟩
 ·have hh : DoOk kind p.1 q.1 p.2 q.2 ∧ ∃ r : List Int × List Nat, Right r.1 r.2 ∧ (∀ w ∈ r.2, w < 4294967296) ∧ ∀ s, sem r.1 r.2 s = (doW kind (sem p.1 p.2 s) (sem q.1 q.2 s)).1 := ⟨hok, (vs', tab'), hR', hw', hs'⟩
  have e : bdo kind p q = some (Classical.choose hh.2) := by rw [bdo, dif_pos hh]
  obtain ⟨_, R, W, S⟩ := bdo_some e
  rw [e]
  refine ⟨?_, fun h => by cases h⟩
  obtain ⟨e1, e2⟩ := canon hR' R fun s => by rw [hs', S]
  rw [bdoV, ← e1, ← e2]
  exact hr
noncomputable def bothN (L : List Nd) (kind : Int) (a c : Nd) : R3 :=
 match asB a, asB c with
 | some p, some q => (match bdo kind p q with | some r => okP (bitsN L r.1 r.2) | none => noR L)
 | _, _ => noR L
theorem asBitsF_ok [HasAffine G] [HasBits G] [HasSym G] (x : Nat) (a : Nd) (h : Bk H b z m L) (hx : L[x]? = some a) (ha : a.wf) : SF G 265 [.ptr b 0, .int .i64 x] H (asBV (asB a)) H :=
 asBits_ok x a h hx (fun hk => (ha.2 hk).2.1) ha.1
def asBC (o : Option (List Int × List Nat)) : List V := match o with
 | some p => [.vs (ints .i64 p.1) .no, .vs (nats .u32 p.2) .no]
 | none => [.vs [] .full, .vs [] .full]
theorem asBV_eq (o : Option (List Int × List Nat)) : asBV o = .tup [.agg (asBC o), .bool o.isSome] := by cases o <;> rfl
theorem asBC_len (o : Option (List Int × List Nat)) : (asBC o).length = 2 := by cases o <;> rfl
theorem asBC_cl (o : Option (List Int × List Nat)) (n : Nat) : clL n (asBC o) = asBC o := by cases o <;> simp [asBC, clL, V.cl]
theorem asBC_tk (o : Option (List Int × List Nat)) : (asBC o).take 2 = asBC o := List.take_of_length_le (by simp [asBC_len])
theorem Bboth_ok [HasAffine G] [HasBits G] [HasSym G] (kind : Int) (x y : Nat) (a c : Nd) (h : Bk H b z m L) (hs : L.length < 1000000) (hx : L[x]? = some a) (hy : L[y]? = some c) (ha : a.wf) (hc : c.wf) :
  BF3 G 268 [.int .i64 kind, .int .i64 x, .int .i64 y] H b z m (bothN L kind a c) := by
 refine SF_of HasSym.h_sym_Book_both (Nat.le_of_ble_eq_true rfl) ?_
 have h1 : Bk (H ++ [some (.cells (asBC (asB a)))]) b z m L := h.app fun n => by simp [Blk.cl, asBC_cl]
 have h2 : Bk (H ++ [some (.cells (asBC (asB a))), some (.cells (asBC (asB c)))]) b z m L := h.app fun n => by simp [Blk.cl, asBC_cl]
 have hsh := h.shut.back
 have hs1 := h1.shut.self
 have hs2 := h2.shut.self
 have hbk : ∀ L' r, trunc H.length (upd H b z m L' ++ r) = upd H b z m L' := fun L' r => h.back L' r
 have hus := h.upd_self
 simp at hs1 hs2
 simp
 refine callSF_of (asBitsF_ok x a (h.app (r := [none]) fun n => by simp) hx ha) ?_
 simp [asBV_eq, asBC_len, asBC_tk, ap0, apk, set0, setk, hs1]
 refine callSF_of (asBitsF_ok y c (h.app (r := [some (.cells (asBC (asB a))), none]) fun n => by simp [Blk.cl, asBC_cl]) hy hc) ?_
 simp [asBV_eq, asBC_len, asBC_tk, ap0, apk, set0, setk, hs2]
 cases ea : asB a with
 | none => 
  have hR : bothN L kind a c = noR L := by simp [bothN, ea]
  simp [hR, noR, hus, hsh]
 | some p =>
  cases ec : asB c with
  | none =>
   have hR : bothN L kind a c = noR L := by simp [bothN, ea, ec]
   simp [hR, noR, hus, hsh]
  | some q =>
   obtain ⟨hp, hpw⟩ := asB_right ha ea
   obtain ⟨hq, hqw⟩ := asB_right hc ec
   obtain ⟨hdo, hno⟩ := bdo_ok (G := G) kind p q hp hq hpw hqw
   simp [ea, ec] at hs2 h2
   simp [hs2, ap0, apk, set0, setk, asBC]
   simp only [FV] at hdo
   refine callP_of hdo ?_
   cases er : bdo kind p q with
   | none =>
    have hR : bothN L kind a c = noR L := by simp [bothN, ea, ec, er]
    simp [bdoV, FV, hR, noR, hus, hsh, ap0, apk, set0, setk]
   | some r =>
    have hR : bothN L kind a c = okP (bitsN L r.1 r.2) := by simp [bothN, ea, ec, er]
    simp [bdoV, FV, hR, okP, ap0, apk, set0, setk]
    have h3 : Bk (H ++ [some (.cells [.vs (ints .i64 p.1) .no, .vs (nats .u32 p.2) .no]), some (.cells [.vs (ints .i64 q.1) .no, .vs (nats .u32 q.2) .no]), some (.cells [.vs (ints .i64 r.1) .no, .vs (nats .u32 r.2) .no])]) b z m L :=
     h.app fun n => by simp [Blk.cl, clL, V.cl]
    have hu := h.upd_app [some (.cells [.vs (ints .i64 p.1) .no, .vs (nats .u32 p.2) .no]), some (.cells [.vs (ints .i64 q.1) .no, .vs (nats .u32 q.2) .no]), some (.cells [.vs (ints .i64 r.1) .no, .vs (nats .u32 r.2) .no])] (bitsN L r.1 r.2).2
    refine callSF_of (Bbits_ok r.1 r.2 (bdo_some er).2.1 h3 hs) ?_
    simp [hu, hbk]
def plainN (kind : Int) (cy : Option Nat) (x y : Int) : Int × Bool :=
 if kind = 4 ∨ kind = 20 ∨ kind = 100 ∨ kind = 116 then (x, decide (cy = some 0)) else if kind = 68 then (x, decide (cy = some 0) || decide (x = y)) else if kind = 164 then (x, decide (cy = some 0))
 else if kind = 84 then (x, decide (cy = some ones) || decide (x = y)) else (0, false)
theorem plain_ok' [HasAffine G] [HasSym G] (kind x y : Int) (h : Bk H b z m L) :
  SF G 269 [.ptr b 0, .int .i64 kind, .int .i64 x, .int .i64 y] H (.tup [.int .i64 (plainN kind (constI L y) x y).1, .bool (plainN kind (constI L y) x y).2]) H := by
 refine SF_of HasSym.h_sym_Book_plain (Nat.le_of_ble_eq_true rfl) ?_
 have hs := h.shut.self
 simp
 refine callSF_of (BConstant_ok y h) ?_
 have xy : ((x == y) : Bool) = decide (x = y) := by rw [Bool.eq_iff_iff]; simp
 have tail : ∀ (u w : Bool), u = decide (constI L y = some 0) → w = decide (constI L y = some ones) → True := fun _ _ _ _ => trivial
 cases hc : constI L y with
 | none =>
  simp [hs]
  by_cases k4 : kind = 4
  ·subst k4; simp [hs, plainN]
  by_cases k20 : kind = 20
  ·subst k20; simp [hs, plainN]
  by_cases k100 : kind = 100
  ·subst k100; simp [hs, plainN]
  by_cases k116 : kind = 116
  ·subst k116; simp [hs, plainN]
  by_cases k68 : kind = 68
  ·subst k68; simp [hs, plainN, xy]
  by_cases k164 : kind = 164
  ·subst k164; simp [hs, plainN]
  by_cases k84 : kind = 84
  ·subst k84; simp [hs, plainN, xy]
  simp [hs, plainN, beqF k4, beqF k20, beqF k100, beqF k116, beqF k68, beqF k164, beqF k84, k4, k20, k100, k116, k68, k164, k84]
 | some c =>
  have e0 : ((c : Int) == 0) = decide (c = 0) := by rw [Bool.eq_iff_iff]; simp
  have e1 : ((c : Int) == 4294967295) = decide (c = 4294967295) := by rw [Bool.eq_iff_iff]; simp; omega
  simp [hs, e0, e1]
  by_cases k4 : kind = 4
  ·subst k4; simp [hs, plainN]
  by_cases k20 : kind = 20
  ·subst k20; simp [hs, plainN]
  by_cases k100 : kind = 100
  ·subst k100; simp [hs, plainN]
  by_cases k116 : kind = 116
  ·subst k116; simp [hs, plainN]
  by_cases k68 : kind = 68
  ·subst k68
   by_cases c0 : c = 0
   ·simp [hs, plainN, xy, c0]
   ·simp [hs, plainN, xy, c0]
  by_cases k164 : kind = 164
  ·subst k164; simp [hs, plainN]
  by_cases k84 : kind = 84
  ·subst k84
   by_cases c1 : c = 4294967295
   ·simp [hs, plainN, xy, c1, ones]
   ·simp [hs, plainN, xy, c1, ones]
  simp [hs, plainN, beqF k4, beqF k20, beqF k100, beqF k116, beqF k68, beqF k164, beqF k84, k4, k20, k100, k116, k68, k164, k84]
end Go.Ev
/- Books stay books: plain laws. -/
namespace Go.Ev
open Go Go.RowKit
set_option maxRecDepth 10000
set_option maxHeartbeats 4000000
set_option linter.unusedSimpArgs false
set_option linter.unusedVariables false
variable {L : List Nd}
def Nd.good (n : Nat) (a : Nd) : Prop := a.ok ∧ a.wf ∧ (a.kind = 0 ∨ a.kind = 1 ∨ a.kind = 2 ∧ a.x < n ∧ a.y < n ∧ (doW a.op 0 1).2 = true)
theorem Nd.good.mono {n k : Nat} {a : Nd} (h : a.good n) (hk : n ≤ k) : a.good k := ⟨h.1, h.2.1, by rcases h.2.2 with h | h | ⟨h, h1, h2, h3⟩; exact .inl h; exact .inr (.inl h); exact .inr (.inr ⟨h, by omega, by omega, h3⟩)⟩
structure Inv (L : List Nd) : Prop where
 good : ∀ (i : Nat) (a : Nd), L[i]? = some a → a.good i
 one : L.Nodup
theorem Inv.ok (h : Inv L) : ∀ a ∈ L, a.ok := fun a ha => by obtain ⟨i, hi⟩ := List.getElem?_of_mem ha; exact (h.good i a hi).1
theorem Inv.wf (h : Inv L) : ∀ a ∈ L, a.wf := fun a ha => by obtain ⟨i, hi⟩ := List.getElem?_of_mem ha; exact (h.good i a hi).2.1
theorem Inv.nil : Inv [] := ⟨fun i a h => by simp at h, List.nodup_nil⟩
structure Ext (L L' : List Nd) (k : Nat) : Prop where
 pre : L <+: L'
 inv : Inv L'
 len : L'.length ≤ L.length + k
theorem Ext.refl (h : Inv L) (k : Nat) : Ext L L k := ⟨List.prefix_refl L, h, by omega⟩
theorem Ext.trans {L' L'' : List Nd} {k l : Nat} (h : Ext L L' k) (h' : Ext L' L'' l) : Ext L L'' (k + l) := ⟨h.pre.trans h'.pre, h'.inv, by have := h.len; have := h'.len; omega⟩
theorem Ext.mono {L' : List Nd} {k l : Nat} (h : Ext L L' k) (hk : k ≤ l) : Ext L L' l := ⟨h.pre, h.inv, by have := h.len; omega⟩
theorem pre_get {α : Type} {l l' : List α} (h : l <+: l') {i : Nat} {a : α} (hi : l[i]? = some a) : l'[i]? = some a := by
 obtain ⟨t, rfl⟩ := h
 rw [List.getElem?_append_left (List.getElem?_eq_some_iff.1 hi).1]
 exact hi
theorem Ext.get {L' : List Nd} {k i : Nat} {a : Nd} (h : Ext L L' k) (hi : L[i]? = some a) : L'[i]? = some a := pre_get h.pre hi
theorem put_ext (h : Inv L) {a : Nd} (ha : a.good L.length) : Ext L (putN L a).2 1 ∧ ∃ i : Nat, (putN L a).1 = i ∧ (putN L a).2[i]? = some a := by
 by_cases hm : a ∈ L
 ·have e : (putN L a).2 = L := by show insN L a = L; rw [insN, if_pos hm]
  refine ⟨by rw [e]; exact .refl h 1, L.idxOf a, rfl, ?_⟩
  rw [e, List.getElem?_eq_getElem (List.idxOf_lt_length_of_mem hm), List.getElem_idxOf]
 ·have e : (putN L a).2 = L ++ [a] := by show insN L a = _; rw [insN, if_neg hm]
  have e1 : (putN L a).1 = (L.length : Nat) := by show ((L.idxOf a : Nat) : Int) = _; rw [idxOf_out hm]
  refine ⟨⟨by rw [e]; exact List.prefix_append _ _, ?_, by rw [e]; simp⟩, L.length, e1, by rw [e]; simp⟩
  rw [e]
  refine ⟨fun i x hx => ?_, ?_⟩
  ·by_cases hi : i < L.length
   ·rw [List.getElem?_append_left hi] at hx; exact h.good i x hx
   ·have hlt := (List.getElem?_eq_some_iff.1 hx).1
    simp at hlt
    obtain rfl : i = L.length := by omega
    simp at hx
    subst hx; exact ha
  ·rw [List.nodup_append]
   exact ⟨h.one, by simp, fun x hx y hy e' => by simp at hy; rw [← hy, ← e'] at hm; exact hm hx⟩
theorem sum_good {f : List Nat} (hf : f.length = 35) (hw : ∀ c ∈ f, c < 4294967296) (n : Nat) : (sumNd f).good n := ⟨⟨hf, rfl, rfl⟩, ⟨hw, fun h => by cases h⟩, .inl rfl⟩
theorem zeros_lt (n : Nat) : ∀ c ∈ zeros n, c < 4294967296 := fun c hc => by rw [zeros, List.mem_replicate] at hc; omega
theorem const_lt {c : Nat} (hc : c < 4294967296) : ∀ x ∈ c :: zeros 34, x < 4294967296 := fun x hx => by
 rcases List.mem_cons.1 hx with rfl | hx
 ·exact hc
 ·exact zeros_lt 34 x hx
theorem varL_lt (i : Nat) : ∀ x ∈ varL i, x < 4294967296 := fun x hx => by
 rw [varL] at hx
 rcases List.mem_or_eq_of_mem_set hx with hx | rfl
 ·exact zeros_lt 35 x hx
 ·omega
theorem varL_len (i : Nat) : (varL i).length = 35 := by simp [varL]
theorem zip_lt {o : Nat → Nat → Nat} (ho : ∀ a b, o a b < 4294967296) : ∀ (f g : List Nat), ∀ x ∈ List.zipWith o f g, x < 4294967296
 | [], _, x, hx => by simp at hx
 | _ :: _, [], x, hx => by simp at hx
 | a :: f, b :: g, x, hx => by
  simp only [List.zipWith_cons_cons, List.mem_cons] at hx
  rcases hx with rfl | hx
  ·exact ho a b
  ·exact zip_lt ho f g x hx
theorem fAdd_lt (f g : List Nat) : ∀ x ∈ fAdd f g, x < 4294967296 := zip_lt (fun a b => Nat.mod_lt _ (by decide)) f g
theorem fSub_lt (f g : List Nat) : ∀ x ∈ fSub f g, x < 4294967296 := zip_lt (fun a b => Nat.mod_lt _ (by decide)) f g
theorem fMul_lt (f : List Nat) (k : Nat) : ∀ x ∈ fMul f k, x < 4294967296 := fun x hx => by
 obtain ⟨y, _, rfl⟩ := List.mem_map.1 hx
 exact Nat.mod_lt _ (by decide)
theorem fAdd_len {f g : List Nat} (hf : f.length = 35) (hg : g.length = 35) : (fAdd f g).length = 35 := by simp [fAdd, hf, hg]
theorem fSub_len {f g : List Nat} (hf : f.length = 35) (hg : g.length = 35) : (fSub f g).length = 35 := by simp [fSub, hf, hg]
theorem fMul_len {f : List Nat} (k : Nat) (hf : f.length = 35) : (fMul f k).length = 35 := by simp [fMul, hf]
theorem bitNd_back {fv : List Int} {ft : List Nat} (h : ∀ v ∈ fv, 0 ≤ v) (hl : ft.length = 2 ^ fv.length) : ((bitNd fv ft).vars.take (bitNd fv ft).n).map (fun (x : Nat) => (x : Int)) = fv ∧ (bitNd fv ft).tab.take (2 ^ (bitNd fv ft).n) = ft := by
 constructor
 ·show ((fv.map Int.toNat ++ zeros (4 - fv.length)).take fv.length).map _ = fv
  rw [List.take_left' (by simp), List.map_map]
  conv => rhs; rw [← List.map_id fv]
  exact List.map_congr_left fun v hv => by have := h v hv; simp; omega
 ·show (ft ++ zeros (16 - ft.length)).take (2 ^ fv.length) = ft
  rw [← hl]; exact List.take_left' rfl
theorem right_nn {fv : List Int} {ft : List Nat} (h : Right fv ft) : ∀ v ∈ fv, 0 ≤ v := fun v hv => by
 obtain ⟨j, hj, rfl⟩ := List.getElem_of_mem hv
 obtain ⟨w, hw, hw0, _⟩ := h.2.2 j hj
 rw [List.getElem?_eq_getElem hj] at hw
 cases hw; exact hw0
theorem bit_good {fv : List Int} {ft : List Nat} (h : Right fv ft) (hw : ∀ c ∈ ft, c < 4294967296) (n : Nat) : (bitNd fv ft).good n := by
 have h4 := h.1
 have hl : ft.length ≤ 16 := by rw [h.2.1]; exact Nat.pow_le_pow_right (n := 2) (by decide) h4
 obtain ⟨e1, e2⟩ := bitNd_back (right_nn h) h.2.1
 refine ⟨⟨rfl, by simp [bitNd]; omega, by simp [bitNd]; omega⟩, ⟨zeros_lt 35, fun _ => ⟨?_, h4, ?_⟩⟩, .inr (.inl rfl)⟩
 ·rw [e1, e2]; exact h
 ·intro w hw'
  simp only [bitNd, List.mem_append] at hw'
  rcases hw' with h | h
  ·exact hw w h
  ·exact zeros_lt _ w h
theorem asB_var : ∀ i, i < 34 → asB (sumNd (varL i)) = some ([(i : Int)], [0, ones]) ∧ asB (sumNd (fSub (ones :: zeros 34) (varL i))) = some ([(i : Int)], [ones, 0]) := by
 decide +kernel
theorem bits_ext (h : Inv L) {fv : List Int} {ft : List Nat} (hR : Right fv ft) (hw : ∀ c ∈ ft, c < 4294967296) : Ext L (bitsN L fv ft).2 1 ∧ ∃ (i : Nat) (a : Nd), (bitsN L fv ft).1 = i ∧ (bitsN L fv ft).2[i]? = some a ∧ asB a = some (fv, ft) := by
 have gen : bitsN L fv ft = putN L (bitNd fv ft) → Ext L (bitsN L fv ft).2 1 ∧ ∃ (i : Nat) (a : Nd), (bitsN L fv ft).1 = i ∧ (bitsN L fv ft).2[i]? = some a ∧ asB a = some (fv, ft) := fun e => by
  obtain ⟨e1, e2⟩ := bitNd_back (right_nn hR) hR.2.1
  obtain ⟨h1, i, h2, h3⟩ := put_ext h (bit_good hR hw _)
  rw [e]
  exact ⟨h1, i, _, h2, h3, by rw [asB, if_pos (show (bitNd fv ft).kind = 1 from rfl), e1, e2]⟩
 match fv, hR, gen with
 | [], hR, gen =>
  obtain ⟨c, rfl⟩ : ∃ c, ft = [c] := by match ft, hR.2.1 with | [c], _ => exact ⟨c, rfl⟩
  obtain ⟨h1, i, h2, h3⟩ := put_ext h (sum_good (f := c :: zeros 34) (by simp) (const_lt (hw c (by simp))) _)
  exact ⟨h1, i, _, h2, h3, by simp [asB, sumNd, Nd0, fConst]⟩
 | [v], hR, gen =>
  obtain ⟨w, hv, hv0, hv34, _⟩ := hR.2.2 0 (by simp)
  obtain rfl : v = w := by simpa using hv
  obtain ⟨n, rfl⟩ := Int.eq_ofNat_of_zero_le hv0
  obtain ⟨a1, a2⟩ := asB_var n (by omega)
  by_cases e1 : ft = [0, ones]
  ·have e : bitsN L [(n : Int)] ft = putN L (sumNd (varL n)) := by rw [e1]; rfl
   obtain ⟨h1, i, h2, h3⟩ := put_ext h (sum_good (varL_len n) (varL_lt n) _)
   rw [e]
   exact ⟨h1, i, _, h2, h3, by rw [a1, e1]⟩
  ·by_cases e2 : ft = [ones, 0]
   ·have e : bitsN L [(n : Int)] ft = putN L (sumNd (fSub (ones :: zeros 34) (varL n))) := by rw [e2]; rfl
    obtain ⟨h1, i, h2, h3⟩ := put_ext h (sum_good (fSub_len (f := ones :: zeros 34) rfl (varL_len n)) (fSub_lt _ _) _)
    rw [e]
    exact ⟨h1, i, _, h2, h3, by rw [a2, e2]⟩
   ·exact gen (by simp only [bitsN, e1, e2, if_false])
 | u :: v :: t, hR, gen => exact gen rfl
end Go.Ev
