/- A record's words, by data. -/
import Derived.Test.YtnlhnffijidioaaDoorRunA
namespace Go.Ev
open Go Go.RowKit
variable {G : Tbl}
set_option maxRecDepth 10000
set_option maxHeartbeats 2000000
set_option linter.unusedSimpArgs false
set_option linter.unusedVariables false

def lo (v : Nat) : Nat := v % 4294967296
def hi (v : Nat) : Nat := v / 4294967296 % 4294967296
def wordsD (d : Da) : List Nat := [d.nr, d.arch, lo d.ip, hi d.ip] ++ d.args.flatMap fun a => [lo a, hi a]
theorem flat2_len (l : List Nat) : (l.flatMap fun a => [lo a, hi a]).length = 2 * l.length := by
  induction l with
  | nil => rfl
  | cons a l ih => simp only [List.flatMap_cons, List.length_append, ih, List.length_cons, List.length_nil]; omega
theorem flat2_get : ∀ (l : List Nat) (i : Nat) (h : i < l.length), (l.flatMap fun a => [lo a, hi a])[2 * i]? = some (lo l[i]) ∧ (l.flatMap fun a => [lo a, hi a])[2 * i + 1]? = some (hi l[i])
  | [], i, h => by simp at h
  | a :: l, 0, _ => by simp
  | a :: l, i + 1, h => by
    have := flat2_get l i (by simpa using h)
    rw [show 2 * (i + 1) = 2 * i + 2 by omega, show 2 * i + 2 + 1 = 2 * i + 1 + 2 by omega]
    simpa using this
theorem wordsD_len {d : Da} (h : d.args.length = 6) : (wordsD d).length = 16 := by rw [wordsD, List.length_append, flat2_len, h]; rfl
theorem lo_lt (v : Nat) : lo v < 4294967296 := Nat.mod_lt _ (by decide)
theorem hi_lt (v : Nat) : hi v < 4294967296 := Nat.mod_lt _ (by decide)
theorem wordsD_lt {d : Da} (h : d.ok) : ∀ w ∈ wordsD d, w < 4294967296 := by
  intro w hw
  simp only [wordsD, List.mem_append, List.mem_cons, List.not_mem_nil, or_false, List.mem_flatMap] at hw
  rcases hw with (rfl | rfl | rfl | rfl) | ⟨a, _, rfl | rfl⟩
  · exact h.1
  · exact h.2.1
  · exact lo_lt _
  · exact hi_lt _
  · exact lo_lt _
  · exact hi_lt _

theorem conv_lo (v : Nat) : convI .u32 (v : Int) = ((lo v : Nat) : Int) := rfl
theorem shr_hi (v : Nat) (h : v < 18446744073709551616) : shrI .u64 (v : Int) 32 = ((v / 4294967296 : Nat) : Int) := by
  unfold shrI
  have : (min (32 : Int).toNat IntKind.u64.bits) = 32 := by decide
  rw [this]
  change (v : Int).fdiv 4294967296 = _
  rw [Int.fdiv_eq_ediv_of_nonneg _ (by decide)]
  rfl
theorem lo_hi (v : Nat) : lo (v / 4294967296) = hi v := rfl

/-- What holds a record's words. -/
def H4 (cs : List V) (l : List Nat) (n : Nat) : Heap := [some (.cells cs), some (.cells (cnats .u32 (zeros 16))), some (.cells (cnats .u32 l)), some (.cells [.int .i64 n])]
theorem put_ok [HasData G] (cs : List V) (l : List Nat) (n v : Nat) (hl : l.length = 16) (hn : n + 1 < 16) (hv : v < 18446744073709551616) :
    Big G (.F 159 [.int .u64 v, .ptr 2 0, .ptr 3 0] (H4 cs l n) (.tup []) (H4 cs ((l.set n (lo v)).set (n + 1) (hi v)) (n + 2))) := by
  refine F_of HasData.h_data_words_1 (Nat.le_of_ble_eq_true rfl) ?_
  have c1 := cnats_set .u32 l n (lo v) (by omega)
  have c2 := cnats_set .u32 (l.set n (lo v)) (n + 1) (hi v) (by simp; omega)
  have e1 : addI .i64 (n : Int) 1 = ((n + 1 : Nat) : Int) := add1' (by omega)
  have e2 : addI .i64 (n : Int) 2 = ((n + 2 : Nat) : Int) := addL (n := 2) (by omega)
  have e3 := shr_hi v hv
  have i1 : ((n : Int) < 16) = True := ltT (by omega)
  have i2 : (((n + 1 : Nat) : Int) < 16) = True := ltT (by omega)
  have j1 : (n + 1 ≤ 16) = True := leTn (by omega)
  have j2 : (n + 1 + 1 ≤ 16) = True := leTn (by omega)
  have j3 : (n ≤ 14) = True := leTn (by omega)
  simp [H4, e1, e2, e3, conv_lo, lo_hi, hl, i1, i2, j1, j3, c1, c2, -Int.natCast_add, -Int.natCast_ediv]

theorem convU (v : Nat) (h : v < 18446744073709551616) : convI .u64 (v : Int) = (v : Int) := by unfold convI; exact IntWalk.u64_in _ ⟨by omega, by omega⟩
theorem or_two (a b : Nat) (ha : a < 4294967296) (hb : b < 4294967296) : orI .u64 (a : Int) (shlI .u64 (b : Int) 32) = ((a + b * 4294967296 : Nat) : Int) := by
  have h1 : shlI .u64 (b : Int) 32 = ((b * 4294967296 : Nat) : Int) := by
    unfold shlI
    have : (min (32 : Int).toNat IntKind.u64.bits) = 32 := by decide
    rw [this]
    rw [show ((b : Int) * 2 ^ 32) = ((b * 4294967296 : Nat) : Int) by omega]
    exact IntWalk.u64_in _ ⟨by omega, by omega⟩
  rw [h1]
  change IntKind.u64.wrap ((BitVec.ofInt 64 (a : Int) ||| BitVec.ofInt 64 ((b * 4294967296 : Nat) : Int)).toNat : Int) = _
  rw [ofInt_nat, ofInt_nat]
  have h2 : (BitVec.ofNat 64 a ||| BitVec.ofNat 64 (b * 4294967296)).toNat = a + b * 4294967296 := by
    rw [BitVec.toNat_or, BitVec.toNat_ofNat, BitVec.toNat_ofNat, Nat.mod_eq_of_lt (by omega), Nat.mod_eq_of_lt (by omega)]
    have := Nat.two_pow_add_eq_or_of_lt (i := 32) (b := a) (by omega) b
    rw [Nat.or_comm, Nat.mul_comm, show (4294967296 : Nat) = 2 ^ 32 from rfl, ← this]
    omega
  rw [h2]
  exact IntWalk.u64_in _ ⟨by omega, by omega⟩

def fillW (d : Da) (i : Nat) : List Nat := (wordsD d).take (4 + 2 * i) ++ zeros (12 - 2 * i)
theorem fillW_len {d : Da} (h : d.args.length = 6) {i : Nat} (hi : i ≤ 6) : (fillW d i).length = 16 := by
  simp [fillW, wordsD_len h]; omega
theorem fillW_get {d : Da} (h : d.args.length = 6) {i : Nat} (hi : i ≤ 6) (j : Nat) : (fillW d i)[j]? = if j < 4 + 2 * i then (wordsD d)[j]? else if j < 16 then some 0 else none := by
  have hl := wordsD_len h
  rw [fillW, List.getElem?_append, List.length_take, hl, List.getElem?_take]
  by_cases h1 : j < 4 + 2 * i
  · rw [if_pos (by omega), if_pos h1, if_pos h1]
  · rw [if_neg (by omega), if_neg h1]
    by_cases h2 : j < 16
    · rw [if_pos h2]; simp [zeros, List.getElem?_replicate]; omega
    · rw [if_neg h2]; simp [zeros, List.getElem?_replicate]; omega
theorem fillW_step {d : Da} (h : d.args.length = 6) {i : Nat} (hlt : i < 6) : ((fillW d i).set (4 + 2 * i) (lo d.args[i])).set (4 + 2 * i + 1) (hi d.args[i]) = fillW d (i + 1) := by
  have hl := fillW_len h (show i ≤ 6 by omega)
  have hw := flat2_get d.args i (by omega)
  have g0 : (wordsD d)[4 + 2 * i]? = some (lo d.args[i]) := by rw [wordsD, List.getElem?_append_right (by simp)]; simpa using hw.1
  have g1 : (wordsD d)[4 + 2 * i + 1]? = some (hi d.args[i]) := by rw [wordsD, List.getElem?_append_right (by simp; omega)]; simpa [show 4 + 2 * i + 1 - 4 = 2 * i + 1 by omega] using hw.2
  apply List.ext_getElem?
  intro j
  rw [fillW_get h (by omega), List.getElem?_set, List.getElem?_set, List.length_set, hl, fillW_get h (by omega)]
  by_cases e1 : 4 + 2 * i + 1 = j
  · subst e1
    rw [if_pos rfl, if_pos (by omega), if_pos (by omega), g1]
  · rw [if_neg e1]
    by_cases e0 : 4 + 2 * i = j
    · subst e0
      rw [if_pos rfl, if_pos (by omega), if_pos (by omega), g0]
    · rw [if_neg e0]
      by_cases h1 : j < 4 + 2 * i
      · rw [if_pos h1, if_pos (by omega)]
      · rw [if_neg h1]
        by_cases h2 : j < 4 + 2 * (i + 1)
        · omega
        · rw [if_neg h2]
theorem fillW_0 (d : Da) (h : d.args.length = 6) : ((((zeros 16).set 0 d.nr).set 1 d.arch).set 2 (lo d.ip)).set 3 (hi d.ip) = fillW d 0 := by
  have : zeros 16 = 0 :: 0 :: 0 :: 0 :: zeros 12 := rfl
  rw [this]
  simp [fillW, wordsD]
theorem fillW_6 (d : Da) (h : d.args.length = 6) : fillW d 6 = wordsD d := by
  simp only [fillW, show 12 - 2 * 6 = 0 from rfl, zeros, List.replicate_zero, List.append_nil]
  exact List.take_of_length_le (by rw [wordsD_len h]; exact Nat.le_refl _)

theorem words_ok [HasData G] (d : Da) (hd : d.ok) : FP G 160 [DV d] (.agg (cnats .u32 (wordsD d))) := by
  obtain ⟨h1, h2, h3, h4, h5⟩ := hd
  refine FP_of HasData.h_data_words (Nat.le_of_ble_eq_true rfl) ?_
  have o := or_two d.nr d.arch h1 h2
  have e0 : lo (d.nr + d.arch * 4294967296) = d.nr := by unfold lo; omega
  have e1 : hi (d.nr + d.arch * 4294967296) = d.arch := by unfold hi; omega
  have p1 := put_ok (G := G) d.cs (zeros 16) 0 (d.nr + d.arch * 4294967296) (by simp) (by decide) (by omega)
  have p2 := put_ok (G := G) d.cs (((zeros 16).set 0 d.nr).set 1 d.arch) 2 d.ip (by simp) (by decide) h3
  rw [e0, e1] at p1
  have ht := take_full (k := .u64) h4
  simp [H4, Da.cs, -Int.natCast_add, -Int.natCast_mul] at p1 p2
  simp (disch := omega) [DV, Da.cs, convU, o, -Int.natCast_add, -Int.natCast_mul]
  refine callV_of p1 (by simp) ?_
  simp [keep_cl, trunc]
  refine callV_of p2 (by simp) ?_
  simp [keep_cl, trunc, h4, ht]
  refine W_up 6 (fun i => [(2, .ptr 1 0), (3, .ptr 2 0), (5, .fn 159 [.ptr 2 0, .ptr 3 0]), (24, .agg (cnats .u64 d.args)), (25, .int .i64 i)])
    (fun i => H4 d.cs (fillW d i) (4 + 2 * i)) (fun _ => True) ?_ ?_
  · simp [keep_cl, trunc, H4, Da.cs, fillW_0 d h4]
  intro i hi _
  by_cases hlt : i < 6
  · have p3 := put_ok (G := G) d.cs (fillW d i) (4 + 2 * i) d.args[i] (fillW_len h4 hi) (by omega) (h5 _ (List.getElem_mem _))
    rw [fillW_step h4 hlt] at p3
    have c1 := cnats_get .u64 d.args i (by omega)
    simp [H4, Da.cs, -Int.natCast_add, -Int.natCast_mul] at p3
    simp (disch := omega) [ltT, leTn, h4, c1, H4, Da.cs, -Int.natCast_add, -Int.natCast_mul]
    refine callV_of p3 (by simp) ?_
    simp (disch := omega) [trunc, add1', hlt, keep_cl, h4, show 4 + 2 * (i + 1) = 4 + 2 * i + 2 from by omega, -Int.natCast_add, -Int.natCast_mul]
  · have hne : i = 6 := by omega
    subst hne
    have hl := wordsD_len h4
    have ht2 := take_full (k := .u32) hl
    simp [H4, fillW_6 d h4, hl, ht2]

def wordS (d : Da) (at' : Nat) : Nat × Bool := if at' % 4 = 0 ∧ at' < 64 then ((wordsD d).getD (at' / 4) 0, true) else (0, false)
theorem there_ok [HasData G] (n : Nat) (hn : n < 4294967296) : FP G 158 [.int .u32 n] (.bool (decide (n % 4 = 0 ∧ n < 64))) := by
  refine FP_of HasData.h_data_there (Nat.le_of_ble_eq_true rfl) ?_
  have hr : remI (n : Int) 4 = ((n % 4 : Nat) : Int) := rem64 (b := 4)
  by_cases h : n % 4 = 0
  · have lt : ((n : Int) < 64) = (n < 64) := propext (by omega)
    simp [hr, h, lt]
  · have : ((n % 4 : Nat) : Int) ≠ 0 := by omega
    simp [hr, h, beqF this, -Int.natCast_emod]
theorem Word_ok [HasData G] (d : Da) (n : Nat) (hd : d.ok) (hn : n < 4294967296) : FP G 161 [DV d, .int .u32 n] (.tup [.int .u32 ((wordS d n).1 : Nat), .bool (wordS d n).2]) := by
  refine FP_of HasData.h_data_Word (Nat.le_of_ble_eq_true rfl) ?_
  have hw := words_ok (G := G) d hd
  have ht := take_full (k := .u64) hd.2.2.2.1
  have h6 := hd.2.2.2.1
  simp [DV, Da.cs] at hw ⊢
  refine callP_of (there_ok n hn) ?_
  by_cases h : n % 4 = 0 ∧ n < 64
  · have hq : quoI .u32 (n : Int) 4 = ((n / 4 : Nat) : Int) := quo32 (b := 4) hn (by decide)
    have hl := wordsD_len h6
    have c := cnats_get .u32 (wordsD d) (n / 4) (by omega)
    have hg : (wordsD d).getD (n / 4) 0 = (wordsD d)[n / 4]'(by omega) := by simp [List.getD, List.getElem?_eq_getElem (show n / 4 < (wordsD d).length by omega)]
    simp [h, h6, ht, wordS, hg]
    refine callP_of hw ?_
    simp (disch := omega) [hq, ltT, leTn, hl, c, -Int.natCast_ediv]
  · simp [h, wordS]
end Go.Ev
