/- What the functions of hurdleref01 compute; and hurdleref15's Do and Apart. -/
import Derived.Test.YtnlhnffijidioaaDoorRefB
namespace Go.Ev
open Go Go.RowKit
variable {G : Tbl}
set_option maxRecDepth 10000
set_option maxHeartbeats 2000000
set_option linter.unusedSimpArgs false
set_option linter.unusedVariables false

theorem rem_32 {a : Nat} : remI (a : Int) 32 = ((a % 32 : Nat) : Int) := rem64 (b := 32)
theorem rem_w {a : Nat} : remI (a : Int) 4294967296 = ((a % 4294967296 : Nat) : Int) := rem64 (b := 4294967296)
theorem addU32 {a b : Nat} (h : a + b < 4294967296) : addI .u32 (a : Int) (b : Int) = ((a + b : Nat) : Int) := by
  unfold addI; rw [← Int.natCast_add]; exact wrap_nat32 h
theorem addU32_1 {a : Nat} (h : a + 1 < 4294967296) : addI .u32 (a : Int) 1 = ((a + 1 : Nat) : Int) := addU32 (b := 1) h
theorem mulU32 {a b : Nat} (h : a * b < 4294967296) : mulI .u32 (a : Int) (b : Int) = ((a * b : Nat) : Int) := by
  unfold mulI; rw [← Int.natCast_mul]; exact wrap_nat32 h
theorem mulU32_2 {b : Nat} (h : 2 * b < 4294967296) : mulI .u32 2 (b : Int) = ((2 * b : Nat) : Int) := mulU32 (a := 2) h
theorem mulU64_2 {a : Nat} (h : a * 2 < 18446744073709551616) : mulI .u64 (a : Int) 2 = ((a * 2 : Nat) : Int) := mulU64 (b := 2) h

theorem power_ok (hG : HasR1 G) (n : Nat) (hn : n < 4294967296) : FP G 125 [.int .u32 n] (.int .u64 (2 ^ (n % 32) : Nat)) := by
  refine FP_of hG.h_hurdleref01_power (Nat.le_of_ble_eq_true rfl) ?_
  simp [-Int.natCast_pow]
  refine W_up (n % 32) (fun i => [(0, .int .u32 n), (3, .int .u64 (2 ^ i : Nat)), (4, .int .u32 i)]) (fun _ => []) (fun _ => True) ?_ ?_
  · simp [keep_cl, trunc, -Int.natCast_pow]
  intro i hi _
  by_cases hlt : i < n % 32
  · have h1 : 2 ^ i * 2 ≤ 2 ^ 62 := by rw [← Nat.pow_succ]; exact Nat.pow_le_pow_right (by decide) (by omega)
    simp (disch := omega) [rem_32, rem2, rem_w, ltT, mulU64_2, addU32_1, keep_cl, trunc, hlt, Nat.pow_succ, -Int.natCast_pow, -Int.natCast_add, -Int.natCast_mul, -Int.natCast_emod]
  · have hne : i = n % 32 := by omega
    subst hne
    simp (disch := omega) [rem_32, rem2, rem_w, ltF, -Int.natCast_pow, -Int.natCast_emod]
theorem bit1_ok (hG : HasR1 G) (a i : Nat) (ha : a < 4294967296) (hi : i < 32) : FP G 126 [.int .u32 a, .int .u32 i] (.int .u32 ((a.testBit i).toNat : Nat)) := by
  have h0 : 0 < 2 ^ (i % 32) := Nat.two_pow_pos _
  have he : i % 32 = i := Nat.mod_eq_of_lt hi
  have h2 := toNat_bit a i
  have h3 : (a.testBit i).toNat < 2 := by cases a.testBit i <;> simp
  refine FP_of hG.h_hurdleref01_bit (Nat.le_of_ble_eq_true rfl) ?_
  simp [-Int.natCast_pow]
  refine callP_of (power_ok hG i (by omega)) ?_
  simp (disch := omega) [convU64, quoU64, rem_32, rem2, rem_w, eqF, he, h2, convU32, -Int.natCast_pow, -Int.natCast_ediv, -Int.natCast_emod]

theorem bits_ok (hG : HasR1 G) (a b s0 s1 s2 s3 : Nat) (ha : a < 4294967296) (hb : b < 4294967296) (h0 : s0 ≤ 1) (h1 : s1 ≤ 1) (h2 : s2 ≤ 1) (h3 : s3 ≤ 1) :
    FP G 127 [.int .u32 a, .int .u32 b, .vs (nats .u32 [s0, s1, s2, s3]) .no]
      (.int .u32 (wordOf (fun i => ([s0, s1, s2, s3][2 * (a.testBit i).toNat + (b.testBit i).toNat]?.getD 0) == 1) 32 : Nat)) := by
  refine FP_of hG.h_hurdleref01_bits (Nat.le_of_ble_eq_true rfl) ?_
  simp
  refine W_up 32 (fun i => [(0, .int .u32 a), (1, .int .u32 b), (2, .vs (nats .u32 [s0, s1, s2, s3]) .no), (7, .int .u32 (wordOf (fun i => ([s0, s1, s2, s3][2 * (a.testBit i).toNat + (b.testBit i).toNat]?.getD 0) == 1) i : Nat)), (8, .int .u32 i)])
    (fun _ => []) (fun _ => True) ?_ ?_
  · simp [keep_cl, trunc, wordOf]
  intro i hi _
  by_cases hlt : i < 32
  case neg =>
    have hne : i = 32 := by omega
    subst hne
    simp
  have hx : (a.testBit i).toNat ≤ 1 := by cases a.testBit i <;> simp
  have hy : (b.testBit i).toNat ≤ 1 := by cases b.testBit i <;> simp
  simp (disch := omega) [ltT, -Int.natCast_add]
  refine callP_of (bit1_ok hG a i ha hlt) ?_
  simp
  refine callP_of (bit1_ok hG b i hb hlt) ?_
  generalize hk : 2 * (a.testBit i).toNat + (b.testBit i).toNat = k
  have hkl : k < [s0, s1, s2, s3].length := by simp; omega
  have hs1 : [s0, s1, s2, s3][k] ≤ 1 := by
    have : [s0, s1, s2, s3][k] ∈ [s0, s1, s2, s3] := List.getElem_mem hkl
    simp only [List.mem_cons, List.not_mem_nil, or_false] at this
    omega
  generalize hsay : [s0, s1, s2, s3] = says at *
  have hu := wordOf_lt (fun i => (says[2 * (a.testBit i).toNat + (b.testBit i).toNat]?.getD 0) == 1) i
  have hp : 2 ^ i ≤ 2 ^ 31 := Nat.pow_le_pow_right (by decide) (by omega)
  have he : i % 32 = i := Nat.mod_eq_of_lt hlt
  have hm : says[k] * 2 ^ i ≤ 1 * 2 ^ i := Nat.mul_le_mul_right _ hs1
  have hstep : wordOf (fun i => (says[2 * (a.testBit i).toNat + (b.testBit i).toNat]?.getD 0) == 1) (i + 1) = wordOf (fun i => (says[2 * (a.testBit i).toNat + (b.testBit i).toNat]?.getD 0) == 1) i + says[k] * 2 ^ i := by
    rw [wordOf]
    simp only [hk, List.getElem?_eq_getElem hkl, Option.getD_some]
    rcases Nat.le_one_iff_eq_zero_or_eq_one.1 hs1 with e | e <;> simp [e]
  simp (disch := omega) [mulU32_2, addU32, hk, conv64, leT, get_in, -Int.natCast_add, -Int.natCast_mul]
  refine callP_of (power_ok hG i (by omega)) ?_
  simp (disch := omega) [he, convU32, mulU32, addU32, addU32_1, keep_cl, trunc, hlt, hstep, -Int.natCast_add, -Int.natCast_mul, -Int.natCast_pow]

theorem bits_word {f : Nat → Bool} {w : Nat} (hw : w < 2 ^ 32) (h : ∀ i, i < 32 → f i = w.testBit i) : wordOf f 32 = w := by
  rw [wordOf_ext h, wordOf_self hw]
theorem DoR_ok (hG : HasR1 G) (kind : Int) (a b : Nat) (ha : a < 4294967296) (hb : b < 4294967296) :
    FP G 122 [.int .i64 kind, .int .u32 a, .int .u32 b] (.tup [.int .u32 ((doW kind a b).1 : Nat), .bool (doW kind a b).2]) := by
  refine FP_of hG.h_hurdleref01_Do (Nat.le_of_ble_eq_true rfl) ?_
  have hp : 2 ^ (b % 32) ≤ 2 ^ 31 := Nat.pow_le_pow_right (by decide) (by omega)
  have hp0 : 0 < 2 ^ (b % 32) := Nat.two_pow_pos _
  simp (disch := omega) [convU64]
  by_cases h : kind = 4
  · subst h; simp (disch := omega) [doW, addU64, rem_32, rem2, rem_w, convU32, -Int.natCast_add, -Int.natCast_emod]
  by_cases h : kind = 20
  · subst h
    have h1 : addI .u64 (a : Int) 4294967296 = ((a + 4294967296 : Nat) : Int) := addU64 (b := 4294967296) (by omega)
    have h2 : subI .u64 ((a + 4294967296 : Nat) : Int) (b : Int) = ((a + 4294967296 - b : Nat) : Int) := by
      unfold subI
      rw [← Int.natCast_sub (by omega)]
      exact wrapU64 (by omega)
    simp (disch := omega) [doW, h1, h2, rem_32, rem2, rem_w, convU32, -Int.natCast_add, -Int.natCast_emod]
  by_cases h : kind = 36
  · subst h
    have h1 : a * b < 18446744073709551616 := by
      have : a * b ≤ 4294967295 * 4294967295 := Nat.mul_le_mul (by omega) (by omega)
      omega
    simp (disch := omega) [doW, mulU64, rem_32, rem2, rem_w, convU32, -Int.natCast_mul, -Int.natCast_emod]
  by_cases h : kind = 52
  · subst h
    by_cases hz : b = 0
    · subst hz; simp [doW]
    · have h1 : a / b < 4294967296 := Nat.lt_of_le_of_lt (Nat.div_le_self _ _) ha
      simp (disch := omega) [doW, hz, beqF, quoU64, convU32, -Int.natCast_ediv]
  by_cases h : kind = 68
  · subst h
    simp
    refine callP_of (by simpa [nats] using bits_ok hG a b 0 1 1 1 ha hb (by decide) (by decide) (by decide) (by decide)) ?_
    have : wordOf (fun i => ([0, 1, 1, 1][2 * (a.testBit i).toNat + (b.testBit i).toNat]?.getD 0) == 1) 32 = a ||| b := bits_word (Nat.or_lt_two_pow ha hb) fun i hi => by
      rw [Nat.testBit_or]; cases a.testBit i <;> cases b.testBit i <;> rfl
    simp [doW, this]
  by_cases h : kind = 84
  · subst h
    simp
    refine callP_of (by simpa [nats] using bits_ok hG a b 0 0 0 1 ha hb (by decide) (by decide) (by decide) (by decide)) ?_
    have : wordOf (fun i => ([0, 0, 0, 1][2 * (a.testBit i).toNat + (b.testBit i).toNat]?.getD 0) == 1) 32 = a &&& b := bits_word (Nat.and_lt_two_pow _ hb) fun i hi => by
      rw [Nat.testBit_and]; cases a.testBit i <;> cases b.testBit i <;> rfl
    simp [doW, this]
  by_cases h : kind = 100
  · subst h
    simp
    refine callP_of (power_ok hG b hb) ?_
    have h1 : a * 2 ^ (b % 32) < 18446744073709551616 := by
      have : a * 2 ^ (b % 32) ≤ 4294967295 * 2 ^ 31 := Nat.mul_le_mul (by omega) hp
      omega
    simp (disch := omega) [doW, mulU64, rem_32, rem2, rem_w, convU32, -Int.natCast_mul, -Int.natCast_emod, -Int.natCast_pow]
  by_cases h : kind = 116
  · subst h
    simp
    refine callP_of (power_ok hG b hb) ?_
    have h1 : a / 2 ^ (b % 32) < 4294967296 := Nat.lt_of_le_of_lt (Nat.div_le_self _ _) ha
    simp (disch := omega) [doW, quoU64, convU32, eqF, -Int.natCast_ediv, -Int.natCast_pow]
  by_cases h : kind = 164
  · subst h
    simp
    refine callP_of (by simpa [nats] using bits_ok hG a b 0 1 1 0 ha hb (by decide) (by decide) (by decide) (by decide)) ?_
    have : wordOf (fun i => ([0, 1, 1, 0][2 * (a.testBit i).toNat + (b.testBit i).toNat]?.getD 0) == 1) 32 = a ^^^ b := bits_word (Nat.xor_lt_two_pow ha hb) fun i hi => by
      rw [Nat.testBit_xor]; cases a.testBit i <;> cases b.testBit i <;> rfl
    simp [doW, this]
  simp (disch := omega) [doW, beqF, *]
end Go.Ev
