/- A record's words, by data. -/
import Derived.Test.YtdomogpjchpbnaaRunA
namespace Go.Ev
open Go Go.RowKit
variable {G : Tbl}
set_option maxRecDepth 10000
set_option maxHeartbeats 2000000
set_option linter.unusedSimpArgs false
set_option linter.unusedVariables false

def lo (v : Nat) : Nat := v % 4294967296
def hi (v : Nat) : Nat := v / 4294967296 % 4294967296
def wordsD (d : Da) : List Nat := [d.nr, d.arch, lo d.ip, hi d.ip] ++ d.args.flatMap fun a => [lo a, hi a]
theorem flat2_len (l : List Nat) : (l.flatMap fun a => [lo a, hi a]).length = 2 * l.length := by
  induction l with
  | nil => rfl
  | cons a l ih => simp only [List.flatMap_cons, List.length_append, ih, List.length_cons, List.length_nil]; omega
theorem flat2_get : ∀ (l : List Nat) (i : Nat) (h : i < l.length), (l.flatMap fun a => [lo a, hi a])[2 * i]? = some (lo l[i]) ∧ (l.flatMap fun a => [lo a, hi a])[2 * i + 1]? = some (hi l[i])
  | [], i, h => by simp at h
  | a :: l, 0, _ => by simp
  | a :: l, i + 1, h => by
    have := flat2_get l i (by simpa using h)
    rw [show 2 * (i + 1) = 2 * i + 2 by omega, show 2 * i + 2 + 1 = 2 * i + 1 + 2 by omega]
    simpa using this
theorem wordsD_len {d : Da} (h : d.args.length = 6) : (wordsD d).length = 16 := by rw [wordsD, List.length_append, flat2_len, h]; rfl
theorem lo_lt (v : Nat) : lo v < 4294967296 := Nat.mod_lt _ (by decide)
theorem hi_lt (v : Nat) : hi v < 4294967296 := Nat.mod_lt _ (by decide)
theorem wordsD_lt {d : Da} (h : d.ok) : ∀ w ∈ wordsD d, w < 4294967296 := by
  intro w hw
  simp only [wordsD, List.mem_append, List.mem_cons, List.not_mem_nil, or_false, List.mem_flatMap] at hw
  rcases hw with (rfl | rfl | rfl | rfl) | ⟨a, _, rfl | rfl⟩
  · exact h.1
  · exact h.2.1
  · exact lo_lt _
  · exact hi_lt _
  · exact lo_lt _
  · exact hi_lt _

theorem conv_lo (v : Nat) : convI .u32 (v : Int) = ((lo v : Nat) : Int) := rfl
theorem shr_hi (v : Nat) (h : v < 18446744073709551616) : shrI .u64 (v : Int) 32 = ((v / 4294967296 : Nat) : Int) := by
  unfold shrI
  have : (min (32 : Int).toNat IntKind.u64.bits) = 32 := by decide
  rw [this]
  change (v : Int).fdiv 4294967296 = _
  rw [Int.fdiv_eq_ediv_of_nonneg _ (by decide)]
  rfl
theorem lo_hi (v : Nat) : lo (v / 4294967296) = hi v := rfl

/-- What holds a record's words. -/
def H4 (cs : List V) (l : List Nat) (n : Nat) : Heap := [some (.cells cs), some (.cells (cnats .u32 (zeros 16))), some (.cells (cnats .u32 l)), some (.cells [.int .i64 n])]
theorem put_ok [HasData G] (cs : List V) (l : List Nat) (n v : Nat) (hl : l.length = 16) (hn : n + 1 < 16) (hv : v < 18446744073709551616) :
    Big G (.F 159 [.int .u64 v, .ptr 2 0, .ptr 3 0] (H4 cs l n) (.tup []) (H4 cs ((l.set n (lo v)).set (n + 1) (hi v)) (n + 2))) := by
  refine F_of HasData.h_data_words_1 (Nat.le_of_ble_eq_true rfl) ?_
  have c1 := cnats_set .u32 l n (lo v) (by omega)
  have c2 := cnats_set .u32 (l.set n (lo v)) (n + 1) (hi v) (by simp; omega)
  have e1 : addI .i64 (n : Int) 1 = ((n + 1 : Nat) : Int) := add1' (by omega)
  have e2 : addI .i64 (n : Int) 2 = ((n + 2 : Nat) : Int) := addL (n := 2) (by omega)
  have e3 := shr_hi v hv
  have i1 : ((n : Int) < 16) = True := ltT (by omega)
  have i2 : (((n + 1 : Nat) : Int) < 16) = True := ltT (by omega)
  have j1 : (n + 1 ≤ 16) = True := leTn (by omega)
  have j2 : (n + 1 + 1 ≤ 16) = True := leTn (by omega)
  have j3 : (n ≤ 14) = True := leTn (by omega)
  simp [H4, e1, e2, e3, conv_lo, lo_hi, hl, i1, i2, j1, j3, c1, c2, -Int.natCast_add, -Int.natCast_ediv]

theorem convU (v : Nat) (h : v < 18446744073709551616) : convI .u64 (v : Int) = (v : Int) := by unfold convI; exact IntWalk.u64_in _ ⟨by omega, by omega⟩
theorem or_two (a b : Nat) (ha : a < 4294967296) (hb : b < 4294967296) : orI .u64 (a : Int) (shlI .u64 (b : Int) 32) = ((a + b * 4294967296 : Nat) : Int) := by
  have h1 : shlI .u64 (b : Int) 32 = ((b * 4294967296 : Nat) : Int) := by
    unfold shlI
    have : (min (32 : Int).toNat IntKind.u64.bits) = 32 := by decide
    rw [this]
    rw [show ((b : Int) * 2 ^ 32) = ((b * 4294967296 : Nat) : Int) by omega]
    exact IntWalk.u64_in _ ⟨by omega, by omega⟩
  rw [h1]
  change IntKind.u64.wrap ((BitVec.ofInt 64 (a : Int) ||| BitVec.ofInt 64 ((b * 4294967296 : Nat) : Int)).toNat : Int) = _
  rw [ofInt_nat, ofInt_nat]
  have h2 : (BitVec.ofNat 64 a ||| BitVec.ofNat 64 (b * 4294967296)).toNat = a + b * 4294967296 := by
    rw [BitVec.toNat_or, BitVec.toNat_ofNat, BitVec.toNat_ofNat, Nat.mod_eq_of_lt (by omega), Nat.mod_eq_of_lt (by omega)]
    have := Nat.two_pow_add_eq_or_of_lt (i := 32) (b := a) (by omega) b
    rw [Nat.or_comm, Nat.mul_comm, show (4294967296 : Nat) = 2 ^ 32 from rfl, ← this]
    omega
  rw [h2]
  exact IntWalk.u64_in _ ⟨by omega, by omega⟩

def fillW (d : Da) (i : Nat) : List Nat := (wordsD d).take (4 + 2 * i) ++ zeros (12 - 2 * i)
theorem fillW_len {d : Da} (h : d.args.length = 6) {i : Nat} (hi : i ≤ 6) : (fillW d i).length = 16 := by
  simp [fillW, wordsD_len h]; omega
theorem fillW_get {d : Da} (h : d.args.length = 6) {i : Nat} (hi : i ≤ 6) (j : Nat) : (fillW d i)[j]? = if j < 4 + 2 * i then (wordsD d)[j]? else if j < 16 then some 0 else none := by
  have hl := wordsD_len h
  rw [fillW, List.getElem?_append, List.length_take, hl, List.getElem?_take]
  by_cases h1 : j < 4 + 2 * i
  · rw [if_pos (by omega), if_pos h1, if_pos h1]
  · rw [if_neg (by omega), if_neg h1]
    by_cases h2 : j < 16
    · rw [if_pos h2]; simp [zeros, List.getElem?_replicate]; omega
    · rw [if_neg h2]; simp [zeros, List.getElem?_replicate]; omega
theorem fillW_step {d : Da} (h : d.args.length = 6) {i : Nat} (hlt : i < 6) : ((fillW d i).set (4 + 2 * i) (lo d.args[i])).set (4 + 2 * i + 1) (hi d.args[i]) = fillW d (i + 1) := by
  have hl := fillW_len h (show i ≤ 6 by omega)
  have hw := flat2_get d.args i (by omega)
  have g0 : (wordsD d)[4 + 2 * i]? = some (lo d.args[i]) := by rw [wordsD, List.getElem?_append_right (by simp)]; simpa using hw.1
  have g1 : (wordsD d)[4 + 2 * i + 1]? = some (hi d.args[i]) := by rw [wordsD, List.getElem?_append_right (by simp; omega)]; simpa [show 4 + 2 * i + 1 - 4 = 2 * i + 1 by omega] using hw.2
  apply List.ext_getElem?
  intro j
  rw [fillW_get h (by omega), List.getElem?_set, List.getElem?_set, List.length_set, hl, fillW_get h (by omega)]
  by_cases e1 : 4 + 2 * i + 1 = j
  · subst e1
    rw [if_pos rfl, if_pos (by omega), if_pos (by omega), g1]
  · rw [if_neg e1]
    by_cases e0 : 4 + 2 * i = j
    · subst e0
      rw [if_pos rfl, if_pos (by omega), if_pos (by omega), g0]
    · rw [if_neg e0]
      by_cases h1 : j < 4 + 2 * i
      · rw [if_pos h1, if_pos (by omega)]
      · rw [if_neg h1]
        by_cases h2 : j < 4 + 2 * (i + 1)
        · omega
        · rw [if_neg h2]
theorem fillW_0 (d : Da) (h : d.args.length = 6) : ((((zeros 16).set 0 d.nr).set 1 d.arch).set 2 (lo d.ip)).set 3 (hi d.ip) = fillW d 0 := by
  have : zeros 16 = 0 :: 0 :: 0 :: 0 :: zeros 12 := rfl
  rw [this]
  simp [fillW, wordsD]
theorem fillW_6 (d : Da) (h : d.args.length = 6) : fillW d 6 = wordsD d := by
  simp only [fillW, show 12 - 2 * 6 = 0 from rfl, zeros, List.replicate_zero, List.append_nil]
  exact List.take_of_length_le (by rw [wordsD_len h]; exact Nat.le_refl _)

theorem words_ok [HasData G] (d : Da) (hd : d.ok) : FP G 160 [DV d] (.agg (cnats .u32 (wordsD d))) := by
  obtain ⟨h1, h2, h3, h4, h5⟩ := hd
  refine FP_of HasData.h_data_words (Nat.le_of_ble_eq_true rfl) ?_
  have o := or_two d.nr d.arch h1 h2
  have e0 : lo (d.nr + d.arch * 4294967296) = d.nr := by unfold lo; omega
  have e1 : hi (d.nr + d.arch * 4294967296) = d.arch := by unfold hi; omega
  have p1 := put_ok (G := G) d.cs (zeros 16) 0 (d.nr + d.arch * 4294967296) (by simp) (by decide) (by omega)
  have p2 := put_ok (G := G) d.cs (((zeros 16).set 0 d.nr).set 1 d.arch) 2 d.ip (by simp) (by decide) h3
  rw [e0, e1] at p1
  have ht := take_full (k := .u64) h4
  simp [H4, Da.cs, -Int.natCast_add, -Int.natCast_mul] at p1 p2
  simp (disch := omega) [DV, Da.cs, convU, o, -Int.natCast_add, -Int.natCast_mul]
  refine callV_of p1 (by simp) ?_
  simp [keep_cl, trunc]
  refine callV_of p2 (by simp) ?_
  simp [keep_cl, trunc, h4, ht]
  refine W_up 6 (fun i => [(2, .ptr 1 0), (3, .ptr 2 0), (5, .fn 159 [.ptr 2 0, .ptr 3 0]), (24, .agg (cnats .u64 d.args)), (25, .int .i64 i)])
    (fun i => H4 d.cs (fillW d i) (4 + 2 * i)) (fun _ => True) ?_ ?_
  · simp [keep_cl, trunc, H4, Da.cs, fillW_0 d h4]
  intro i hi _
  by_cases hlt : i < 6
  · have p3 := put_ok (G := G) d.cs (fillW d i) (4 + 2 * i) d.args[i] (fillW_len h4 hi) (by omega) (h5 _ (List.getElem_mem _))
    rw [fillW_step h4 hlt] at p3
    have c1 := cnats_get .u64 d.args i (by omega)
    simp [H4, Da.cs, -Int.natCast_add, -Int.natCast_mul] at p3
    simp (disch := omega) [ltT, leTn, h4, c1, H4, Da.cs, -Int.natCast_add, -Int.natCast_mul]
    refine callV_of p3 (by simp) ?_
    simp (disch := omega) [trunc, add1', hlt, keep_cl, h4, show 4 + 2 * (i + 1) = 4 + 2 * i + 2 from by omega, -Int.natCast_add, -Int.natCast_mul]
  · have hne : i = 6 := by omega
    subst hne
    have hl := wordsD_len h4
    have ht2 := take_full (k := .u32) hl
    simp [H4, fillW_6 d h4, hl, ht2]

def wordS (d : Da) (at' : Nat) : Nat × Bool := if at' % 4 = 0 ∧ at' < 64 then ((wordsD d).getD (at' / 4) 0, true) else (0, false)
theorem there_ok [HasData G] (n : Nat) (hn : n < 4294967296) : FP G 158 [.int .u32 n] (.bool (decide (n % 4 = 0 ∧ n < 64))) := by
  refine FP_of HasData.h_data_there (Nat.le_of_ble_eq_true rfl) ?_
  have hr : remI (n : Int) 4 = ((n % 4 : Nat) : Int) := rem64 (b := 4)
  by_cases h : n % 4 = 0
  · have lt : ((n : Int) < 64) = (n < 64) := propext (by omega)
    simp [hr, h, lt]
  · have : ((n % 4 : Nat) : Int) ≠ 0 := by omega
    simp [hr, h, beqF this, -Int.natCast_emod]
theorem Word_ok [HasData G] (d : Da) (n : Nat) (hd : d.ok) (hn : n < 4294967296) : FP G 161 [DV d, .int .u32 n] (.tup [.int .u32 ((wordS d n).1 : Nat), .bool (wordS d n).2]) := by
  refine FP_of HasData.h_data_Word (Nat.le_of_ble_eq_true rfl) ?_
  have hw := words_ok (G := G) d hd
  have ht := take_full (k := .u64) hd.2.2.2.1
  have h6 := hd.2.2.2.1
  simp [DV, Da.cs] at hw ⊢
  refine callP_of (there_ok n hn) ?_
  by_cases h : n % 4 = 0 ∧ n < 64
  · have hq : quoI .u32 (n : Int) 4 = ((n / 4 : Nat) : Int) := quo32 (b := 4) hn (by decide)
    have hl := wordsD_len h6
    have c := cnats_get .u32 (wordsD d) (n / 4) (by omega)
    have hg : (wordsD d).getD (n / 4) 0 = (wordsD d)[n / 4]'(by omega) := by simp [List.getD, List.getElem?_eq_getElem (show n / 4 < (wordsD d).length by omega)]
    simp [h, h6, ht, wordS, hg]
    refine callP_of hw ?_
    simp (disch := omega) [hq, ltT, leTn, hl, c, -Int.natCast_ediv]
  · simp [h, wordS]
end Go.Ev

/- What an instruction makes of a state: run.Step. -/
namespace Go.Ev
open Go Go.RowKit
variable {G : Tbl}
set_option maxRecDepth 10000
set_option maxHeartbeats 2000000
set_option linter.unusedSimpArgs false
set_option linter.unusedVariables false

def cellS (s : St) (k : Nat) : Nat := if k < 16 then s.m.getD k 0 else 0
def storeS (s : St) (k v : Nat) : St := if k < 16 then { s with m := s.m.set k v } else s
def negW (a : Nat) : Nat := (4294967296 - a) % 4294967296
/-- Of what is no arithmetic. -/
def stepO (s : St) (x : In4) (d : Da) : St :=
  if x.op = 0 then { s with a := x.k } else if x.op = 1 then { s with x := x.k } else if x.op = 32 then { s with a := (wordS d x.k).1 }
  else if x.op = 96 then { s with a := cellS s x.k } else if x.op = 97 then { s with x := cellS s x.k } else if x.op = 2 then storeS s x.k s.a else if x.op = 3 then storeS s x.k s.x
  else if x.op = 7 then { s with x := s.a } else if x.op = 135 then { s with a := s.x } else if x.op = 132 then { s with a := negW s.a } else s
def aluB (s : St) (x : In4) : Nat := if (aluT x.op).2.1 then s.x else x.k
def aluR (s : St) (x : In4) : Nat × Bool := doW (aluT x.op).1 s.a (aluB s x)
def stepS (s : St) (x : In4) (d : Da) : St × Bool :=
  if (aluT x.op).2.2 then (if (aluR s x).2 then { s with a := (aluR s x).1 } else s, (aluR s x).2) else (stepO s x d, true)

theorem cellS_ok [HasStep G] (s : St) (k : Nat) (hs : s.ok) (hk : k < 4294967296) : FP G 162 [SV s, .int .u32 k] (.int .u32 (cellS s k : Nat)) := by
  refine FP_of HasStep.h_run_cell (Nat.le_of_ble_eq_true rfl) ?_
  have hl := hs.2.2.1
  by_cases h : 16 ≤ k
  · have : (16 : Int) ≤ (k : Int) := by omega
    simp [SV, St.cs, this, cellS, show ¬ k < 16 from by omega]
  · have h1 : k < 16 := by omega
    have c := cnats_get .u32 s.m k (by omega)
    have hg : s.m.getD k 0 = s.m[k]'(by omega) := by simp [List.getD, List.getElem?_eq_getElem (show k < s.m.length by omega)]
    have i1 : ((16 : Int) ≤ (k : Int)) = False := leF (by omega)
    have i2 : ((k : Int) < 16) = True := ltT (by omega)
    have i3 : (2 + k + 1 ≤ 16 + 1 + 1) = True := leTn (by omega)
    simp [SV, St.cs, i1, i2, hl, drop2, drop1, c, cellS, h1, hg, show 2 + k ≤ 17 from by omega]
theorem storeS_ok [HasStep G] (s : St) (k v : Nat) (hs : s.ok) (hk : k < 4294967296) : FP G 163 [SV s, .int .u32 k, .int .u32 v] (SV (storeS s k v)) := by
  refine FP_of HasStep.h_run_store (Nat.le_of_ble_eq_true rfl) ?_
  have hl := hs.2.2.1
  have ht := take_full (k := .u32) hl
  by_cases h1 : k < 16
  · have c := cnats_set .u32 s.m k v (by omega)
    have i2 : ((k : Int) < 16) = True := ltT (by omega)
    have ht2 : (cnats .u32 (s.m.set k v)).take 16 = cnats .u32 (s.m.set k v) := take_full (by simp [hl])
    simp [SV, St.cs, i2, hl, drop2, drop1, drop21, take2, c, storeS, h1, ht2, show 2 + k ≤ 17 from by omega, show (k : Nat) ≤ 15 from by omega]
  · have i1 : ((k : Int) < 16) = False := ltF (by omega)
    simp [SV, St.cs, i1, storeS, h1, hl, ht]
theorem Neg_ok [HasNeg G] (a : Nat) (ha : a < 4294967296) : FP G 138 [.int .u32 a] (.int .u32 (negW a : Nat)) := by
  refine FP_of HasNeg.h_word_Neg (Nat.le_of_ble_eq_true rfl) ?_
  have : negI .u32 (a : Int) = ((negW a : Nat) : Int) := by unfold negI negW; rw [wrap32]; omega
  simp [this]

theorem storeS_ok' {s : St} (hs : s.ok) {k v : Nat} (hv : v < 4294967296) : (storeS s k v).ok := by
  unfold storeS
  split
  · refine ⟨hs.1, hs.2.1, by simp [hs.2.2.1], fun w hw => ?_⟩
    rcases List.mem_or_eq_of_mem_set hw with h | h
    · exact hs.2.2.2 w h
    · rw [h]; exact hv
  · exact hs
theorem cellS_lt {s : St} (hs : s.ok) (k : Nat) : cellS s k < 4294967296 := by
  unfold cellS
  split
  · rename_i h
    rw [List.getD, List.getElem?_eq_getElem (show k < s.m.length by rw [hs.2.2.1]; exact h), Option.getD_some]
    exact hs.2.2.2 _ (List.getElem_mem _)
  · decide
theorem wordS_lt {d : Da} (hd : d.ok) (k : Nat) : (wordS d k).1 < 4294967296 := by
  unfold wordS
  split
  · rename_i h
    have hl := wordsD_len hd.2.2.2.1
    simp only [List.getD, List.getElem?_eq_getElem (show k / 4 < (wordsD d).length by omega), Option.getD_some]
    exact wordsD_lt hd _ (List.getElem_mem _)
  · decide
theorem doW32 (kind : Int) {a b : Nat} (ha : a < 4294967296) (hb : b < 4294967296) : (doW kind a b).1 < 4294967296 := by
  have h1 := Nat.or_lt_two_pow (n := 32) ha hb
  have h2 := Nat.and_lt_two_pow (n := 32) a hb
  have h3 := Nat.xor_lt_two_pow (n := 32) ha hb
  have h4 : a / b ≤ a := Nat.div_le_self _ _
  have h5 : a / 2 ^ (b % 32) ≤ a := Nat.div_le_self _ _
  unfold doW
  repeat' split
  all_goals first
    | (simp only; omega)
    | (simp only; exact Nat.mod_lt _ (by decide))
theorem aluB_lt {s : St} (hs : s.ok) {x : In4} (hk : x.k < 4294967296) : aluB s x < 4294967296 := by
  unfold aluB
  split
  · exact hs.2.1
  · exact hk
theorem stepO_ok {s : St} (hs : s.ok) {x : In4} (hk : x.k < 4294967296) {d : Da} (hd : d.ok) : (stepO s x d).ok := by
  obtain ⟨h1, h2, h3, h4⟩ := hs
  have hn : negW s.a < 4294967296 := Nat.mod_lt _ (by decide)
  have hc := cellS_lt ⟨h1, h2, h3, h4⟩ x.k
  have hw := wordS_lt hd x.k
  unfold stepO
  repeat' split
  all_goals first
    | exact ⟨hk, h2, h3, h4⟩
    | exact ⟨h1, hk, h3, h4⟩
    | exact ⟨hw, h2, h3, h4⟩
    | exact ⟨hc, h2, h3, h4⟩
    | exact ⟨h1, hc, h3, h4⟩
    | exact storeS_ok' ⟨h1, h2, h3, h4⟩ h1
    | exact storeS_ok' ⟨h1, h2, h3, h4⟩ h2
    | exact ⟨h1, h1, h3, h4⟩
    | exact ⟨h2, h2, h3, h4⟩
    | exact ⟨hn, h2, h3, h4⟩
    | exact ⟨h1, h2, h3, h4⟩
theorem stepS_ok' {s : St} (hs : s.ok) {x : In4} (hk : x.k < 4294967296) {d : Da} (hd : d.ok) : (stepS s x d).1.ok := by
  unfold stepS
  split
  · simp only
    split
    · exact ⟨doW32 _ hs.1 (aluB_lt hs hk), hs.2⟩
    · exact hs
  · exact stepO_ok hs hk hd

theorem Step_ok [HasWd G] [HasNeg G] [HasIns G] [HasData G] [HasStep G] (s : St) (x : In4) (d : Da) (hs : s.ok) (hk : x.k < 4294967296) (hd : d.ok) :
    FP G 164 [SV s, IV x, DV d] (.tup [SV (stepS s x d).1, .bool (stepS s x d).2]) := by
  refine FP_of HasStep.h_run_Step (Nat.le_of_ble_eq_true rfl) ?_
  have hl := hs.2.2.1
  have ht := take_full (k := .u32) hl
  have h6 := hd.2.2.2.1
  have ht6 := take_full (k := .u64) h6
  have ha := Alu_ok (G := G) x
  have hD := doW_ok (G := G) inferInstance (aluT x.op).1 s.a (aluB s x) hs.1 (aluB_lt hs hk)
  have hW := Word_ok (G := G) d x.k hd hk
  have hC := cellS_ok (G := G) s x.k hs hk
  have hS1 := storeS_ok (G := G) s x.k s.a hs hk
  have hS2 := storeS_ok (G := G) s x.k s.x hs hk
  have hN := Neg_ok (G := G) s.a hs.1
  have hlS : ∀ v, (storeS s x.k v).m.length = 16 := fun v => by unfold storeS; split <;> simp [hl]
  have htS := fun v => take_full (k := .u32) (hlS v)
  simp [SV, IV, DV, In4.cs, St.cs, Da.cs] at ha hW hC hS1 hS2 ⊢
  refine callP_of ha ?_
  cases hal : (aluT x.op).2.2
  case true =>
    simp [hal]
    have hst : stepS s x d = (if (aluR s x).2 then { s with a := (aluR s x).1 } else s, (aluR s x).2) := by simp [stepS, hal]
    cases hx : (aluT x.op).2.1
    · have : aluB s x = x.k := by simp [aluB, hx]
      rw [this] at hD
      simp [hx]
      refine callP_of hD ?_
      cases hg : (doW (aluT x.op).1 s.a x.k).2 <;> simp [hg, hst, aluR, this, hl, ht]
    · have : aluB s x = s.x := by simp [aluB, hx]
      rw [this] at hD
      simp [hx]
      refine callP_of hD ?_
      cases hg : (doW (aluT x.op).1 s.a s.x).2 <;> simp [hg, hst, aluR, this, hl, ht]
  simp [hal]
  have hst : stepS s x d = (stepO s x d, true) := by simp [stepS, hal]
  rw [hst]
  by_cases e0 : x.op = 0
  · simp [e0, stepO, hl, ht]
  by_cases e1 : x.op = 1
  · simp [e1, beqF, stepO, hl, ht]
  by_cases e2 : x.op = 32
  · simp [e2, beqF, stepO, h6, ht6]
    refine callP_of hW ?_
    simp [hl, ht]
  by_cases e3 : x.op = 96
  · simp [e3, beqF, stepO, hl, ht]
    refine callP_of hC ?_
    simp [hl, ht]
  by_cases e4 : x.op = 97
  · simp [e4, beqF, stepO, hl, ht]
    refine callP_of hC ?_
    simp [hl, ht]
  by_cases e5 : x.op = 2
  · simp [e5, beqF, stepO, hl, ht]
    refine callP_of hS1 ?_
    simp [hl, hlS, htS]
  by_cases e6 : x.op = 3
  · simp [e6, beqF, stepO, hl, ht]
    refine callP_of hS2 ?_
    simp [hl, hlS, htS]
  by_cases e7 : x.op = 7
  · simp [e7, beqF, stepO, hl, ht]
  by_cases e8 : x.op = 135
  · simp [e8, beqF, stepO, hl, ht]
  by_cases e9 : x.op = 132
  · simp [e9, beqF, stepO]
    refine callP_of hN ?_
    simp [hl, ht]
  simp [e0, e1, e2, e3, e4, e5, e6, e7, e8, e9, beqF, stepO, hl, ht]
end Go.Ev

/- An instruction changes nothing but what it sets, and hangs on what it needs. -/
namespace Go.Ev
open Go Go.RowKit
variable {G : Tbl}
set_option maxRecDepth 10000
set_option maxHeartbeats 2000000
set_option linter.unusedSimpArgs false
set_option linter.unusedVariables false

/-- A state's parts: A, X, the cells. -/
def part (s : St) : Nat → Nat
  | 0 => s.a
  | 1 => s.x
  | i + 2 => s.m.getD i 0
theorem st_ext {s t : St} (hs : s.m.length = 16) (ht : t.m.length = 16) (h : ∀ i, i < 18 → part s i = part t i) : s = t := by
  obtain ⟨a, x, m⟩ := s
  obtain ⟨a', x', m'⟩ := t
  have h0 := h 0 (by decide)
  have h1 := h 1 (by decide)
  simp only [part] at h0 h1 hs ht
  subst h0; subst h1
  congr
  apply List.ext_getElem?
  intro i
  by_cases hi : i < 16
  · have := h (i + 2) (by omega)
    simp only [part, List.getD, List.getElem?_eq_getElem (show i < m.length by omega), List.getElem?_eq_getElem (show i < m'.length by omega), Option.getD_some] at this
    rw [List.getElem?_eq_getElem (by omega), List.getElem?_eq_getElem (by omega), this]
  · rw [List.getElem?_eq_none (by omega), List.getElem?_eq_none (by omega)]
theorem part_mix (mask : Nat) (s t : St) (i : Nat) (hi : i < 18) : part (mixS mask s t) i = if mask.testBit i then part s i else part t i := by
  match i, hi with
  | 0, _ => rfl
  | 1, _ => rfl
  | i + 2, hi =>
    have : i < 16 := by omega
    simp [part, mixS, mixL, this, mixN]
theorem part_set (s : St) (k v i : Nat) (hl : s.m.length = 16) : part (storeS s k v) i = if k < 16 ∧ i = k + 2 then v else part s i := by
  unfold storeS
  split
  · rename_i hk
    match i with
    | 0 => simp [part]
    | 1 => simp [part]
    | i + 2 =>
      simp only [part, List.getD, List.getElem?_set]
      by_cases e : k = i
      · subst e; simp [hk, hl]
      · simp [e, show ¬ i = k from fun h => e h.symm]
  · rename_i hk; simp [hk]
theorem part_cell (s : St) (k : Nat) : cellS s k = if k < 16 then part s (k + 2) else 0 := rfl

theorem stepO_frame (s : St) (x : In4) (d : Da) (hs : s.m.length = 16) (hal : (aluT x.op).2.2 = false) (i : Nat) (hi : i < 18) (h : setsP x i = false) : part (stepO s x d) i = part s i := by
  unfold setsP at h
  have two : ∀ v, (x.op = 2 ∨ x.op = 3) → part (storeS s x.k v) i = part s i := by
    intro v h23
    rw [part_set s x.k v i hs]
    split
    · rename_i hk
      exfalso
      rw [if_neg (by omega), if_neg (by omega)] at h
      simp only [decide_eq_false_iff_not] at h
      exact h ⟨h23, hk.2.symm⟩
    · rfl
  match i, hi with
  | 0, _ =>
    simp [hal] at h
    unfold stepO
    repeat' split
    all_goals first
      | rfl
      | (exfalso; omega)
      | exact two _ (by omega)
  | 1, _ =>
    simp at h
    unfold stepO
    repeat' split
    all_goals first
      | rfl
      | (exfalso; omega)
      | exact two _ (by omega)
  | i + 2, hi =>
    unfold stepO
    repeat' split
    all_goals first
      | rfl
      | exact two _ (by omega)

theorem stepO_uses (s t : St) (x : In4) (d : Da) (hs : s.m.length = 16) (ht : t.m.length = 16) (h : ∀ i, i < 18 → usesP x i = true → part s i = part t i) (i : Nat) (hi : i < 18) (hal : (aluT x.op).2.2 = false) (hset : setsP x i = true) :
    part (stepO s x d) i = part (stepO t x d) i := by
  have u0 : x.op ∈ [2, 7, 132, 22] → s.a = t.a := fun hm => h 0 (by decide) (by simp only [usesP, hm]; simp)
  have u1 : x.op ∈ [3, 135] → s.x = t.x := fun hm => h 1 (by decide) (by simp only [usesP, hm]; simp)
  have uc : (x.op = 96 ∨ x.op = 97) → cellS s x.k = cellS t x.k := by
    intro hm
    rw [part_cell, part_cell]
    split
    · rename_i hk
      exact h (x.k + 2) (by omega) (by simp [usesP, hm])
    · rfl
  unfold setsP at hset
  have two : ∀ v, (x.op = 2 ∨ x.op = 3) → part (storeS s x.k v) i = part (storeS t x.k v) i := by
    intro v h23
    rw [part_set s x.k v i hs, part_set t x.k v i ht]
    split
    · rfl
    · rename_i hk
      exfalso
      by_cases i0 : i = 0
      · subst i0; simp [hal] at hset; omega
      · by_cases i1 : i = 1
        · subst i1; simp at hset; omega
        · rw [if_neg i0, if_neg i1] at hset
          simp only [decide_eq_true_eq] at hset
          apply hk; omega
  match i, hi with
  | 0, _ =>
    simp [hal] at hset
    rcases hset with e | e | e | e | e
    · simp [stepO, e, part]
    · simp [stepO, e, part]
    · simp [stepO, e, part, uc (.inl e)]
    · simp [stepO, e, part, u1 (by simp [e])]
    · simp [stepO, e, part, u0 (by simp [e])]
  | 1, _ =>
    simp at hset
    rcases hset with e | e | e
    · simp [stepO, e, part]
    · simp [stepO, e, part, uc (.inr e)]
    · simp [stepO, e, part, u0 (by simp [e])]
  | i + 2, _ =>
    simp at hset
    rcases hset.1 with e | e
    · have := two s.a (.inl e)
      rw [u0 (by simp [e])] at this
      simp [stepO, e, u0 (by simp [e])]
      exact this
    · have := two s.x (.inr e)
      rw [u1 (by simp [e])] at this
      simp [stepO, e, u1 (by simp [e])]
      exact this

theorem stepS_frame (s : St) (x : In4) (d : Da) (hs : s.m.length = 16) (i : Nat) (hi : i < 18) (h : setsP x i = false) : part (stepS s x d).1 i = part s i := by
  unfold stepS
  cases hal : (aluT x.op).2.2
  · simp only [Bool.false_eq_true, if_false]; exact stepO_frame s x d hs hal i hi h
  · simp only [if_true]
    split
    · match i, hi with
      | 0, _ => simp [setsP, hal] at h
      | 1, _ => rfl
      | i + 2, _ => rfl
    · rfl
theorem stepS_uses (s t : St) (x : In4) (d : Da) (hs : s.m.length = 16) (ht : t.m.length = 16) (h : ∀ i, i < 18 → usesP x i = true → part s i = part t i) :
    (stepS s x d).2 = (stepS t x d).2 ∧ ∀ i, i < 18 → setsP x i = true → part (stepS s x d).1 i = part (stepS t x d).1 i := by
  unfold stepS
  cases hal : (aluT x.op).2.2
  · simp only [Bool.false_eq_true, if_false, true_and]
    exact fun i hi hset => stepO_uses s t x d hs ht h i hi hal hset
  · have h0 : s.a = t.a := h 0 (by decide) (by simp [usesP, hal])
    have hb : aluB s x = aluB t x := by
      unfold aluB
      split
      · rename_i hx; exact h 1 (by decide) (by simp [usesP, byXB, hx])
      · rfl
    have hr : aluR s x = aluR t x := by unfold aluR; rw [h0, hb]
    simp only [if_true, hr, true_and]
    intro i hi hset
    split
    · match i, hi with
      | 0, _ => rfl
      | 1, _ =>
        exfalso
        have key : ∀ p ∈ [4, 20, 36, 52, 68, 84, 100, 116, 164, 12, 28, 44, 60, 76, 92, 108, 124, (172 : Int)], decide (p ∈ [1, 97, (7 : Int)]) = false := by decide
        have := key _ (alu_two hal)
        simp only [setsP] at hset
        simp at hset this
        omega
      | i + 2, _ =>
        exfalso
        have key : ∀ p ∈ [4, 20, 36, 52, 68, 84, 100, 116, 164, 12, 28, 44, 60, 76, 92, 108, 124, (172 : Int)], ¬ p = 2 ∧ ¬ p = 3 := by decide
        have := key _ (alu_two hal)
        simp [setsP] at hset
        omega
    · match i, hi with
      | 0, _ => exact h0
      | 1, _ =>
        exfalso
        have key : ∀ p ∈ [4, 20, 36, 52, 68, 84, 100, 116, 164, 12, 28, 44, 60, 76, 92, 108, 124, (172 : Int)], decide (p ∈ [1, 97, (7 : Int)]) = false := by decide
        have := key _ (alu_two hal)
        simp only [setsP] at hset
        simp at hset this
        omega
      | i + 2, _ =>
        exfalso
        have key : ∀ p ∈ [4, 20, 36, 52, 68, 84, 100, 116, 164, 12, 28, 44, 60, 76, 92, 108, 124, (172 : Int)], ¬ p = 2 ∧ ¬ p = 3 := by decide
        have := key _ (alu_two hal)
        simp [setsP] at hset
        omega

theorem eqks_nats : ∀ {n : Nat} {a b : List Nat}, a.length = n → b.length = n → eqks (List.replicate n .int) (cnats .u32 a) (cnats .u32 b) = some (decide (a = b))
  | 0, [], [], _, _ => rfl
  | n + 1, a :: as, b :: bs, h1, h2 => by
    have := eqks_nats (n := n) (a := as) (b := bs) (by simpa using h1) (by simpa using h2)
    simp only [List.replicate_succ, cnats, List.map_cons] at this ⊢
    simp only [eqks, eqk, if_true, this]
    congr 1
    rw [Bool.eq_iff_iff]
    simp
  | 0, _ :: _, _, h, _ => by simp at h
  | 0, [], _ :: _, _, h => by simp at h
  | n + 1, [], _, h, _ => by simp at h
  | n + 1, _ :: _, [], _, h => by simp at h
theorem eqks_st {s t : St} (hs : s.m.length = 16) (ht : t.m.length = 16) : eqks (List.replicate 18 .int) s.cs t.cs = some (decide (s = t)) := by
  have := eqks_nats (n := 18) (a := s.a :: s.x :: s.m) (b := t.a :: t.x :: t.m) (by simp [hs]) (by simp [ht])
  rw [show St.cs s = cnats .u32 (s.a :: s.x :: s.m) from rfl, show St.cs t = cnats .u32 (t.a :: t.x :: t.m) from rfl, this]
  congr 1
  obtain ⟨a, x, m⟩ := s
  obtain ⟨a', x', m'⟩ := t
  simp

/-- LIVESTEPS. -/
theorem LiveSteps_ok [HasWd G] [HasNeg G] [HasIns G] [HasData G] [HasStep G] [HasTells G] [HasR7m G] [HasL7 G] (hkn : FP G 216 [] (.bool true)) (x : In4) (s t : St) (d : Da) (hk : x.k < 4294967296) (hs : s.ok) (ht : t.ok) (hd : d.ok) :
    FP G 222 [IV x, SV s, SV t, DV d] (.bool true) := by
  refine FP_of HasL7.h_hurdlelaw07_LiveSteps (Nat.le_of_ble_eq_true rfl) ?_
  have hm := mix_ok (mask := usesM x) hs ht
  have hu := stepS_ok' hs hk hd
  have hv := stepS_ok' hm hk hd
  have c1 := Step_ok (G := G) s x d hs hk hd
  have c2 := Uses_ok (G := G) x
  have c3 := Mix_ok (G := G) (usesM x) s t (by have := usesM_lt x; omega) hs.2.2.1 ht.2.2.1
  have c4 := Step_ok (G := G) (mixS (usesM x) s t) x d hm hk hd
  have c5 := Sets_ok (G := G) x
  have c6 := Mix_ok (G := G) (setsM x) (stepS s x d).1 s (by have := setsM_lt x; omega) hu.2.2.1 hs.2.2.1
  have c7 := Mix_ok (G := G) (setsM x) (stepS (mixS (usesM x) s t) x d).1 (stepS s x d).1 (by have := setsM_lt x; omega) hv.2.2.1 hu.2.2.1
  have q1 : mixS (setsM x) (stepS s x d).1 s = (stepS s x d).1 := st_ext (mix_ok hu hs).2.2.1 hu.2.2.1 fun i hi => by
    rw [part_mix _ _ _ i hi, sets_bit]
    simp only [hi, decide_true, Bool.true_and]
    split
    · rfl
    · rename_i h; exact (stepS_frame s x d hs.2.2.1 i hi (by simpa using h)).symm
  obtain ⟨q2, q3⟩ := stepS_uses (mixS (usesM x) s t) s x d hm.2.2.1 hs.2.2.1 fun i hi hui => by
    rw [part_mix _ _ _ i hi, uses_bit]; simp [hi, hui]
  have q4 : mixS (setsM x) (stepS (mixS (usesM x) s t) x d).1 (stepS s x d).1 = (stepS s x d).1 := st_ext (mix_ok hv hu).2.2.1 hu.2.2.1 fun i hi => by
    rw [part_mix _ _ _ i hi, sets_bit]
    simp only [hi, decide_true, Bool.true_and]
    split
    · rename_i h; exact q3 i hi h
    · rfl
  have q5 : (stepS s x d).2 = false → (stepS s x d).1 = s := by
    unfold stepS
    split
    · intro h; simp only at h ⊢; rw [if_neg (by simp [h])]
    · intro h; cases h
  rw [q1] at c6
  rw [q4] at c7
  rw [q2] at c4
  have sz : ∀ u : St, u.ok → u.cs.length = 18 := fun u hu => by simp [St.cs, hu.2.2.1]
  have tk : ∀ u : St, u.ok → u.cs.take 18 = u.cs := fun u hu => List.take_of_length_le (by rw [sz u hu]; exact Nat.le_refl _)
  have cl : ∀ (n : Nat) (u : St), clL n u.cs = u.cs := fun n u => by simp [St.cs]
  have szd : d.cs.length = 9 := by simp [Da.cs, hd.2.2.2.1]
  have tkd : d.cs.take 9 = d.cs := List.take_of_length_le (by rw [szd]; exact Nat.le_refl _)
  have cld : ∀ n, clL n d.cs = d.cs := fun n => by simp [Da.cs]
  have clx : ∀ n, clL n x.cs = x.cs := fun n => by simp [In4.cs]
  have nfs : ∀ u : St, u.cs.map V.nf1 = u.cs := fun u => by simp [St.cs]
  have nfd : d.cs.map V.nf1 = d.cs := by simp [Da.cs]
  have nfx : x.cs.map V.nf1 = x.cs := by simp [In4.cs]
  have tkx : x.cs.take 4 = x.cs := rfl
  have e1 := eqks_st (s := (stepS s x d).1) (t := (stepS s x d).1) hu.2.2.1 hu.2.2.1
  have e2 := eqks_st (s := (stepS s x d).1) (t := s) hu.2.2.1 hs.2.2.1
  have r18 : List.replicate 18 Kd.int = [Kd.int, .int, .int, .int, .int, .int, .int, .int, .int, .int, .int, .int, .int, .int, .int, .int, .int, .int] := rfl
  rw [r18] at e1 e2
  simp only [decide_true] at e1
  simp [SV, IV, DV] at c1 c2 c3 c4 c5 c6 c7 ⊢
  simp [sz _ hs, sz _ ht, tk _ hs, tk _ ht, szd, tkd, tkx, cl, cld, clx, nfs, nfd, nfx]
  refine callP_of c1 ?_
  simp [sz _ hs, sz _ ht, tk _ hs, tk _ ht, szd, tkd, tkx, cl, cld, clx, nfs, nfd, nfx, sz _ hu, tk _ hu]
  refine callP_of c2 ?_
  simp [sz _ hs, sz _ ht, tk _ hs, tk _ ht, szd, tkd, tkx, cl, cld, clx, nfs, nfd, nfx, sz _ hu, tk _ hu]
  refine callP_of c3 ?_
  simp [sz _ hs, sz _ ht, tk _ hs, tk _ ht, szd, tkd, tkx, cl, cld, clx, nfs, nfd, nfx, sz _ hu, tk _ hu]
  refine callP_of c4 ?_
  simp [sz _ hs, sz _ ht, tk _ hs, tk _ ht, szd, tkd, tkx, cl, cld, clx, nfs, nfd, nfx, sz _ hu, tk _ hu, sz _ hv, tk _ hv]
  refine callP_of c5 ?_
  simp [sz _ hs, sz _ ht, tk _ hs, tk _ ht, szd, tkd, tkx, cl, cld, clx, nfs, nfd, nfx, sz _ hu, tk _ hu, sz _ hv, tk _ hv]
  refine callP_of c6 ?_
  simp [e1, sz _ hs, sz _ ht, tk _ hs, tk _ ht, szd, tkd, tkx, cl, cld, clx, nfs, nfd, nfx, sz _ hu, tk _ hu, sz _ hv, tk _ hv]
  cases hg : (stepS s x d).2
  · rw [q5 hg] at e2 ⊢
    simp only [decide_true] at e2
    simp [e2, sz _ hs, tk _ hs]
    refine callP_of hkn ?_
    simp
  · simp
    refine callP_of c5 ?_
    simp [sz _ hs, sz _ ht, tk _ hs, tk _ ht, szd, tkd, tkx, cl, cld, clx, nfs, nfd, nfx, sz _ hu, tk _ hu, sz _ hv, tk _ hv]
    refine callP_of c7 ?_
    simp [e1, sz _ hs, sz _ ht, tk _ hs, tk _ ht, szd, tkd, tkx, cl, cld, clx, nfs, nfd, nfx, sz _ hu, tk _ hu, sz _ hv, tk _ hv]
    refine callP_of hkn ?_
    simp

end Go.Ev
