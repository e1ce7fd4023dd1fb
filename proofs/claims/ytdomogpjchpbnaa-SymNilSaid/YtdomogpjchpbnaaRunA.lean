/- States and records; which way a branch goes; the parts of two states. -/
import Derived.Test.YtdomogpjchpbnaaLiveB
import Derived.Test.YtdomogpjchpbnaaRefW
namespace Go.Ev
open Go Go.RowKit
variable {G : Tbl}
set_option maxRecDepth 10000
set_option maxHeartbeats 2000000
set_option linter.unusedSimpArgs false
set_option linter.unusedVariables false

/-- A machine's state. -/
structure St where
  a : Nat
  x : Nat
  m : List Nat
  deriving DecidableEq
def St.cs (s : St) : List V := .int .u32 (s.a : Int) :: .int .u32 (s.x : Int) :: cnats .u32 s.m
def SV (s : St) : V := .agg s.cs
def St.ok (s : St) : Prop := s.a < 4294967296 ∧ s.x < 4294967296 ∧ s.m.length = 16 ∧ ∀ w ∈ s.m, w < 4294967296
/-- A record. -/
structure Da where
  nr : Nat
  arch : Nat
  ip : Nat
  args : List Nat
def Da.cs (d : Da) : List V := .int .u32 (d.nr : Int) :: .int .u32 (d.arch : Int) :: .int .u64 (d.ip : Int) :: cnats .u64 d.args
def DV (d : Da) : V := .agg d.cs
def Da.ok (d : Da) : Prop := d.nr < 4294967296 ∧ d.arch < 4294967296 ∧ d.ip < 18446744073709551616 ∧ d.args.length = 6 ∧ ∀ w ∈ d.args, w < 18446744073709551616

theorem take2 (a b : V) (l : List V) (n : Nat) : (a :: b :: l).take (2 + n) = a :: b :: l.take n := by rw [Nat.add_comm]; rfl
theorem drop2 (a b : V) (l : List V) (n : Nat) : (a :: b :: l).drop (2 + n) = l.drop n := by rw [Nat.add_comm]; rfl
theorem drop1 (a : V) (l : List V) (n : Nat) : (a :: l).drop (2 + n) = l.drop (n + 1) := by rw [show 2 + n = (n + 1) + 1 by omega]; rfl
theorem drop21 (a b : V) (l : List V) (n : Nat) : (a :: b :: l).drop (2 + n + 1) = l.drop (n + 1) := by rw [show 2 + n + 1 = (n + 1) + 2 by omega]; rfl

/-- Does a branch go by its first way? -/
def takesB (s : St) (x : In4) : Bool :=
  let b := if x.op ∈ [29, 45, 61, 77] then s.x else x.k
  if x.op = 21 ∨ x.op = 29 then decide (s.a = b) else if x.op = 37 ∨ x.op = 45 then decide (b < s.a) else if x.op = 53 ∨ x.op = 61 then decide (b ≤ s.a) else if x.op = 69 ∨ x.op = 77 then decide (s.a &&& b ≠ 0) else false
theorem Takes_ok [HasTakes G] (s : St) (x : In4) (hs : s.ok) (hk : x.k < 4294967296) : FP G 165 [SV s, IV x] (.bool (takesB s x)) := by
  refine FP_of HasTakes.h_run_Takes (Nat.le_of_ble_eq_true rfl) ?_
  simp [SV, IV, In4.cs, St.cs]
  have ha := hs.1
  have hx := hs.2.1
  have gt : ∀ a b : Nat, ((a : Int) < (b : Int)) = (a < b) := fun a b => propext (by omega)
  have le : ∀ a b : Nat, ((a : Int) ≤ (b : Int)) = (a ≤ b) := fun a b => propext (by omega)
  have ne : ∀ a : Nat, ((a : Int) != 0) = decide (a ≠ 0) := fun a => by rw [Bool.eq_iff_iff]; simp
  by_cases e29 : x.op = 29
  · simp [e29, takesB, beqI]
  by_cases e45 : x.op = 45
  · simp [e45, takesB, beqI, gt]
  by_cases e61 : x.op = 61
  · simp [e61, takesB, beqI, le]
  by_cases e77 : x.op = 77
  · simp [e77, takesB, beqI, and32 ha hx, ne]
  by_cases e21 : x.op = 21
  · simp [e21, takesB, beqI]
  by_cases e37 : x.op = 37
  · simp [e37, takesB, beqI, gt]
  by_cases e53 : x.op = 53
  · simp [e53, takesB, beqI, le]
  by_cases e69 : x.op = 69
  · simp [e69, takesB, beqI, and32 ha hk, ne]
  simp [e29, e45, e61, e77, e21, e37, e53, e69, beqF, takesB]

theorem br_two {op : Int} (h : isBr op = true) : op = 21 ∨ op = 37 ∨ op = 53 ∨ op = 69 ∨ op = 29 ∨ op = 45 ∨ op = 61 ∨ op = 77 := by
  simpa [isBr] using h
theorem takes_none {s : St} {x : In4} (h : isBr x.op = false) : takesB s x = false := by
  have h : ∀ p, isBr p = true → x.op ≠ p := fun p hp e => by rw [e, hp] at h; cases h
  have a1 := h 21 rfl
  have a2 := h 37 rfl
  have a3 := h 53 rfl
  have a4 := h 69 rfl
  have a5 := h 29 rfl
  have a6 := h 45 rfl
  have a7 := h 61 rfl
  have a8 := h 77 rfl
  simp [takesB, a1, a2, a3, a4, a5, a6, a7, a8]
theorem TakesR_ok [HasR2 G] [hR1 : HasR1 G] [HasR6 G] (s : St) (x : In4) (hs : s.ok) (hk : x.k < 4294967296) : FP G 191 [SV s, IV x] (.bool (takesB s x)) := by
  refine FP_of HasR6.h_hurdleref06_Takes (Nat.le_of_ble_eq_true rfl) ?_
  have hbr := BranchR_ok (G := G) x
  simp [SV, IV, In4.cs, St.cs] at hbr ⊢
  refine callP_of hbr ?_
  have ha := hs.1
  have hx := hs.2.1
  have gt : ∀ a b : Nat, ((a : Int) < (b : Int)) = (a < b) := fun a b => propext (by omega)
  have le : ∀ a b : Nat, ((a : Int) ≤ (b : Int)) = (a ≤ b) := fun a b => propext (by omega)
  have pos : ∀ a : Nat, (0 < a) = (a ≠ 0) := fun a => propext (by omega)
  cases hb : isBr x.op
  · simp [takes_none hb]
  · have r1 : remI 21 16 = 5 := by decide
    have r2 : remI 37 16 = 5 := by decide
    have r3 : remI 53 16 = 5 := by decide
    have r4 : remI 69 16 = 5 := by decide
    have r5 : remI 29 16 = 13 := by decide
    have r6 : remI 45 16 = 13 := by decide
    have r7 : remI 61 16 = 13 := by decide
    have r8 : remI 77 16 = 13 := by decide
    have s5 : subI .i64 29 8 = 21 := by decide
    have s6 : subI .i64 45 8 = 37 := by decide
    have s7 : subI .i64 61 8 = 53 := by decide
    have s8 : subI .i64 77 8 = 69 := by decide
    rcases br_two hb with h | h | h | h | h | h | h | h
    · simp [h, r1, takesB, beqI]
    · simp [h, r2, takesB, beqI, gt]
    · simp [h, r3, takesB, beqI, le]
    · simp [h, r4]
      refine callP_of (DoR_ok hR1 84 s.a x.k ha hk) ?_
      simp [doW, takesB, h, pos]
    · simp [h, r5, s5, takesB, beqI]
    · simp [h, r6, s6, takesB, beqI, gt]
    · simp [h, r7, s7, takesB, beqI, le]
    · simp [h, r8, s8]
      refine callP_of (DoR_ok hR1 84 s.a s.x ha hx) ?_
      simp [doW, takesB, h, pos]

/-- The parts of a mask of one state, all others of another one. -/
def mixN (mask : Nat) (i : Nat) (a b : Nat) : Nat := if mask.testBit i then a else b
/-- So far. -/
def mixL (mask : Nat) (s t : St) (i : Nat) : List Nat := (List.range 16).map fun j => if j < i then mixN mask (j + 2) (s.m.getD j 0) (t.m.getD j 0) else t.m.getD j 0
def mixS (mask : Nat) (s t : St) : St := ⟨mixN mask 0 s.a t.a, mixN mask 1 s.x t.x, mixL mask s t 16⟩
theorem bit_mod (m i : Nat) : (m / 2 ^ i % 2 == 1) = m.testBit i := by
  rw [Nat.testBit_eq_decide_div_mod_eq, Bool.eq_iff_iff]; simp
theorem Mix_ok [HasR7m G] (mask : Nat) (s t : St) (hm : mask < 4294967296) (hs : s.m.length = 16) (ht : t.m.length = 16) : FP G 200 [.int .u32 mask, SV s, SV t] (SV (mixS mask s t)) := by
  refine FP_of HasR7m.h_hurdleref07_Mix (Nat.le_of_ble_eq_true rfl) ?_
  have q2 : quoI .u32 (mask : Int) 2 = ((mask / 2 : Nat) : Int) := quo32 (b := 2) hm (by decide)
  have q4 : quoI .u32 (mask : Int) 4 = ((mask / 4 : Nat) : Int) := quo32 (b := 4) hm (by decide)
  have rr : ∀ n : Nat, remI (n : Int) 2 = ((n % 2 : Nat) : Int) := fun n => rem64 (b := 2)
  have b0 : (mask % 2 == 1) = mask.testBit 0 := by have := bit_mod mask 0; simpa using this
  have b1 : (mask / 2 % 2 == 1) = mask.testBit 1 := by have := bit_mod mask 1; simpa using this
  have one : ∀ n : Nat, ((n : Int) == 1) = (n == 1) := fun n => by rw [Bool.eq_iff_iff, beq_iff_eq, beq_iff_eq]; omega
  have hl0 : (mixL mask s t 0) = t.m := by
    apply List.ext_getElem?
    intro j
    by_cases hj : j < 16
    · simp [mixL, hj, List.getD, List.getElem?_eq_getElem (show j < t.m.length by omega)]
    · simp [mixL, hj]; omega
  have hll : ∀ i, (mixL mask s t i).length = 16 := fun i => by simp [mixL]
  have h4 : ∀ i, i < 16 → ((mask / 4 / 2 ^ i) % 2 == 1) = mask.testBit (i + 2) := fun i hi => by
    rw [← bit_mod mask (i + 2), Nat.div_div_eq_div_mul, Nat.pow_add, Nat.mul_comm]
  cases h0 : mask.testBit 0 <;> cases h1 : mask.testBit 1 <;> rw [h0] at b0 <;> rw [h1] at b1 <;> simp [SV, St.cs, q2, q4, rr, one, b0, b1, -Int.natCast_ediv, -Int.natCast_emod] <;>
    (refine W_up 16 (fun i => [(0, .int .u32 (mask / 4 / 2 ^ i : Nat)), (4, .ptr 0 0), (5, .ptr 1 0), (6, .ptr 2 0), (7, .int .i64 i)])
      (fun i => [some (.cells (.int .u32 (s.a : Int) :: .int .u32 (s.x : Int) :: cnats .u32 s.m)), some (.cells (.int .u32 (mixN mask 0 s.a t.a : Nat) :: .int .u32 (mixN mask 1 s.x t.x : Nat) :: cnats .u32 (mixL mask s t i))), some (.cells (cnats .u32 (zeros 18)))]) (fun _ => True) ?_ ?_
     · simp [keep_cl, trunc, mixN, h0, h1, hl0]
     intro i hi _
     by_cases hlt : i < 16
     · have hq : quoI .u32 ((mask / 4 / 2 ^ i : Nat) : Int) 2 = ((mask / 4 / 2 ^ (i + 1) : Nat) : Int) := by
         have : mask / 4 / 2 ^ i < 4294967296 := Nat.lt_of_le_of_lt (Nat.div_le_self _ _) (Nat.lt_of_le_of_lt (Nat.div_le_self _ _) hm)
         have := quo32 (a := mask / 4 / 2 ^ i) (b := 2) this (by decide)
         rw [Nat.div_div_eq_div_mul _ (2 ^ i) 2, ← Nat.pow_succ] at this
         exact this
       have hb := h4 i hlt
       have hll := hll i
       have c1 := cnats_get .u32 s.m i (by omega)
       cases hbi : mask.testBit (i + 2) <;> rw [hbi] at hb
       · have hn : mixL mask s t (i + 1) = mixL mask s t i := by
           apply List.ext_getElem?
           intro j
           by_cases hj : j < 16
           · by_cases hji : j = i
             · subst hji; simp [mixL, hj, mixN, hbi]
             · simp [mixL, hj, show (j < i + 1) = (j < i) from propext (by omega)]
           · simp [mixL, hj]
         simp (disch := omega) [ltT, rr, one, hb, hq, add1', hlt, keep_cl, trunc, hn, -Int.natCast_add, -Int.natCast_ediv, -Int.natCast_emod]
       · have hn : mixL mask s t (i + 1) = (mixL mask s t i).set i s.m[i] := by
           apply List.ext_getElem?
           intro j
           rw [List.getElem?_set]
           by_cases hj : j < 16
           · by_cases hji : j = i
             · subst hji; simp [mixL, hj, mixN, hbi, List.getD, List.getElem?_eq_getElem (show j < s.m.length by omega)]
             · simp [mixL, hj, show (j < i + 1) = (j < i) from propext (by omega), show ¬ i = j from fun h => hji h.symm]
           · have : ¬ i = j := by omega
             simp [mixL, hj, this]
         have c2 := cnats_set .u32 (mixL mask s t i) i (s.m[i]) (by omega)
         simp (disch := omega) [ltT, ltTn, leTn, rr, one, hb, hq, add1', hlt, keep_cl, trunc, hn, drop2, drop1, take2, drop21, hs, hll, c1, c2, -Int.natCast_add, -Int.natCast_ediv, -Int.natCast_emod]
     · have hne : i = 16 := by omega
       subst hne
       have ht := take_full (k := .u32) (hll 16)
       have hll := hll 16
       simp [mixS, hll, ht, -Int.natCast_add, -Int.natCast_ediv, -Int.natCast_emod])

theorem uses_bit (x : In4) (i : Nat) : (usesM x).testBit i = (decide (i < 18) && usesP x i) := wordOf_bit _ _ _
theorem sets_bit (x : In4) (i : Nat) : (setsM x).testBit i = (decide (i < 18) && setsP x i) := wordOf_bit _ _ _
theorem usesM_lt (x : In4) : usesM x < 262144 := wordOf_lt _ 18
theorem setsM_lt (x : In4) : setsM x < 262144 := wordOf_lt _ 18
theorem mix_ok {mask : Nat} {s t : St} (hs : s.ok) (ht : t.ok) : (mixS mask s t).ok := by
  refine ⟨?_, ?_, by simp [mixS, mixL], fun w hw => ?_⟩
  · simp only [mixS, mixN]; split
    · exact hs.1
    · exact ht.1
  · simp only [mixS, mixN]; split
    · exact hs.2.1
    · exact ht.2.1
  · simp only [mixS, mixL, List.mem_map, List.mem_range] at hw
    obtain ⟨j, hj, rfl⟩ := hw
    have h1 : s.m.getD j 0 < 4294967296 := by
      simp only [List.getD, List.getElem?_eq_getElem (show j < s.m.length by rw [hs.2.2.1]; exact hj), Option.getD_some]
      exact hs.2.2.2 _ (List.getElem_mem _)
    have h2 : t.m.getD j 0 < 4294967296 := by
      simp only [List.getD, List.getElem?_eq_getElem (show j < t.m.length by rw [ht.2.2.1]; exact hj), Option.getD_some]
      exact ht.2.2.2 _ (List.getElem_mem _)
    simp only [hj, if_true, mixN]
    split <;> assumption

/-- Which way a branch goes hangs only on what it needs. -/
theorem takes_mix {mask : Nat} {s t : St} {x : In4} (h : ∀ i, i < 18 → usesP x i = true → mask.testBit i = true) : takesB (mixS mask s t) x = takesB s x := by
  cases hb : isBr x.op
  · rw [takes_none hb, takes_none hb]
  · have h0 := h 0 (by decide) (by simp [usesP, hb])
    by_cases hx : x.op ∈ [29, 45, 61, 77]
    · have h1 := h 1 (by decide) (by simp only [usesP, byXB, hx]; simp)
      simp only [takesB, mixS, mixN, h0, h1, if_true]
    · simp only [takesB, mixS, mixN, h0, if_true, hx, if_false]

theorem andn_low {m : Nat} (h : m < 262144) : andnI .u32 (m : Int) 262143 = 0 := by
  change IntKind.u32.wrap ((BitVec.ofInt 32 (m : Int) &&& ~~~BitVec.ofInt 32 262143).toNat : Int) = 0
  rw [show BitVec.ofInt 32 (m : Int) = BitVec.ofNat 32 m by simp, show BitVec.ofInt 32 262143 = BitVec.ofNat 32 262143 from rfl]
  have : (BitVec.ofNat 32 m &&& ~~~BitVec.ofNat 32 262143) = 0#32 := by
    apply BitVec.eq_of_getLsbD_eq
    intro i hi
    simp only [BitVec.getLsbD_and, BitVec.getLsbD_not, BitVec.getLsbD_ofNat, BitVec.getLsbD_zero]
    by_cases h18 : i < 18
    · have : (262143 : Nat).testBit i = true := by
        have : (262143 : Nat) = 2 ^ 18 - 1 := rfl
        rw [this, Nat.testBit_two_pow_sub_one]; simp [h18]
      simp [this, hi]
    · have : m.testBit i = false := Nat.testBit_lt_two_pow (Nat.lt_of_lt_of_le h (show 262144 ≤ 2 ^ i from by
        have : 2 ^ 18 ≤ 2 ^ i := Nat.pow_le_pow_right (by decide) (by omega)
        exact this))
      simp [this]
  rw [this]
  rfl

/-- LIVEBRANCHES. -/
theorem LiveBranches_ok [HasIns G] [HasTakes G] [HasTells G] [HasR7m G] [HasL7 G] (hkn : FP G 216 [] (.bool true)) (x : In4) (s t : St) (hk : x.k < 4294967296) (hs : s.ok) (ht : t.ok) : FP G 221 [IV x, SV s, SV t] (.bool true) := by
  refine FP_of HasL7.h_hurdlelaw07_LiveBranches (Nat.le_of_ble_eq_true rfl) ?_
  have h1 := Takes_ok (G := G) s x hs hk
  have h2 := Uses_ok (G := G) x
  have h3 := Sets_ok (G := G) x
  have h4 := Mix_ok (G := G) (usesM x) s t (by have := usesM_lt x; omega) hs.2.2.1 ht.2.2.1
  have h5 := Takes_ok (G := G) (mixS (usesM x) s t) x (mix_ok hs ht) hk
  have ht1 := take_full (k := .u32) hs.2.2.1
  have ht2 := take_full (k := .u32) ht.2.2.1
  have hlm : (mixS (usesM x) s t).m.length = 16 := (mix_ok hs ht).2.2.1
  have e1 := takes_mix (mask := usesM x) (s := s) (t := t) (x := x) fun i hi hu => by rw [uses_bit]; simp [hi, hu]
  rw [e1] at h5
  simp [SV, IV, In4.cs, St.cs] at h1 h2 h3 h4 h5 ⊢
  simp [hs.2.2.1, ht.2.2.1, ht1, ht2]
  refine callP_of h1 ?_
  simp
  refine callP_of h2 ?_
  simp [hs.2.2.1, ht.2.2.1, ht1, ht2]
  refine callP_of h4 ?_
  simp
  refine callP_of h5 ?_
  simp
  refine callP_of h2 ?_
  simp [andn_low (usesM_lt x)]
  refine callP_of h3 ?_
  simp [andn_low (setsM_lt x)]
  refine callP_of hkn ?_
  simp

end Go.Ev
