/- Which pieces are free: splice.free, splice.Free, hurdleref22.Free. -/
import Derived.Test.YtnlhnffijidioaaDoorWinB
namespace Go.Ev
open Go Go.RowKit
variable {G : Tbl}
set_option maxRecDepth 10000
set_option maxHeartbeats 2000000
set_option linter.unusedSimpArgs false
set_option linter.unusedVariables false

/-- No place of a piece but the first, up to one, is jumped to. -/
def noHit (f : List In4) (a m : Nat) : Bool := (List.range m).all fun j => !hitB f f.length (a + 1 + j)
theorem noHit_succ (f : List In4) (a m : Nat) : noHit f a (m + 1) = (noHit f a m && !hitB f f.length (a + 1 + m)) := by simp [noHit, List.range_succ, List.all_append]
theorem noHit_false {f : List In4} {a m n : Nat} (h : hitB f f.length (a + 1 + m) = true) (hm : m < n) : noHit f a n = false := by
  rw [← Bool.not_eq_true, noHit, List.all_eq_true]
  intro h2
  have := h2 m (List.mem_range.2 hm)
  rw [h] at this; cases this
def freeN (f : List In4) (a n : Nat) : Bool := winB ((f.drop a).take n) && noHit f a (n - 1)
def inB (f : List In4) (a n : Int) : Bool := decide (0 ≤ a ∧ 1 ≤ n ∧ a < f.length ∧ n ≤ f.length - a)
def freeR (f : List In4) (a n : Int) : Bool := inB f a n && freeN f a.toNat n.toNat
def freeZ (f : List In4) (a n : Int) : Bool := soundF f && freeR f a n

theorem sound_le {f : List In4} (hs : soundF f = true) : f.length ≤ 4096 := by simp only [soundF, Bool.and_eq_true, decide_eq_true_eq] at hs; exact hs.1.1
theorem slice_k {f : List In4} (hk : ∀ x ∈ f, x.k < 4294967296) (a n : Nat) : ∀ x ∈ (f.drop a).take n, x.k < 4294967296 := fun x hx => hk x (List.mem_of_mem_drop (List.mem_of_mem_take hx))


theorem free_ok [HasIns G] [HasCheck G] [HasWRight G] [HasSpl G] (f : List In4) (a n : Int) (hs : soundF f = true) (hk : ∀ x ∈ f, x.k < 4294967296) :
    FP G 205 [FL f, .vs (bools (hits f f.length)) .no, .int .i64 a, .int .i64 n] (.bool (freeR f a n)) := by
  refine FP_of HasSpl.h_splice_free (Nat.le_of_ble_eq_true rfl) ?_
  have hl := sound_le hs
  have hml : maxLen = 9223372036854775807 := by decide
  by_cases h1 : a < 0
  · have : freeR f a n = false := by simp [freeR, inB, show ¬ 0 ≤ a by omega]
    simp [h1, this]
  by_cases h2 : n < 1
  · have : freeR f a n = false := by simp [freeR, inB, show ¬ 1 ≤ n by omega]
    simp [h1, h2, this]
  by_cases h3 : (f.length : Int) ≤ a
  · have : freeR f a n = false := by simp [freeR, inB, show ¬ a < f.length by omega]
    simp [h1, h2, h3, FL, this]
  have s1 : subI .i64 (f.length : Int) a = (f.length : Int) - a := by rw [subI64] <;> omega
  by_cases h4 : (f.length : Int) - a < n
  · have : freeR f a n = false := by simp [freeR, inB, show ¬ n ≤ f.length - a by omega]
    simp [h1, h2, h3, h4, s1, FL, this]
  have hin : inB f a n = true := by simp only [inB, decide_eq_true_eq]; omega
  obtain ⟨a, rfl⟩ := Int.eq_ofNat_of_zero_le (show 0 ≤ a by omega)
  obtain ⟨n, rfl⟩ := Int.eq_ofNat_of_zero_le (show 0 ≤ n by omega)
  have hfr : freeR f (a : Int) (n : Int) = freeN f a n := by simp [freeR, hin]
  rw [hfr]
  have h1 : ((a : Int) < 0) = False := eq_false h1
  have h2' : ((n : Int) < 1) = False := eq_false h2
  have h2 : (n = 0) = False := eq_false (by omega)
  have h3 : ((f.length : Int) ≤ (a : Int)) = False := eq_false h3
  have h4 : ((f.length : Int) - (a : Int) < (n : Int)) = False := eq_false h4
  have hbd : a + n ≤ f.length := by omega
  have aa : addI .i64 (a : Int) (n : Int) = ((a + n : Nat) : Int) := addN (by omega)
  have a1 : addI .i64 (a : Int) 1 = ((a + 1 : Nat) : Int) := add1' (by omega)
  have hw := WRight_ok (G := G) ((f.drop a).take n) (by rw [List.length_take]; omega) (slice_k hk a n)
  have hsl : List.take n (List.drop a (IL f)) = IL ((f.drop a).take n) := by rw [IL_drop, IL_take]
  have hhl := hits_len f f.length
  simp only [FL] at hw
  simp (disch := omega) [h1, h2, h2', h3, h4, s1, FL, aa, leTn, hsl, -Int.natCast_add]
  refine callP_of hw ?_
  cases hwb : winB ((f.drop a).take n)
  · simp [freeN, hwb]
  have hfn : freeN f a n = noHit f a (n - 1) := by simp [freeN, hwb]
  rw [hfn]
  simp [a1, -Int.natCast_add]
  refine W_up (n - 1) (fun j => [(1, .vs (bools (hits f f.length)) .no), (2, .int .i64 a), (3, .int .i64 n), (9, .int .i64 ((a + 1 + j : Nat) : Int))]) (fun _ => []) (fun j => noHit f a j = true) ?_ ?_
  · simp [keep_cl, trunc, noHit]
  intro j hj hp
  by_cases hlt : j < n - 1
  · have hF : ((a + 1 + j : Nat) : Int) < ((a + n : Nat) : Int) := by omega
    have hg := hits_get f f.length (a + 1 + j) (by omega)
    obtain ⟨_, hgv⟩ := List.getElem?_eq_some_iff.1 hg
    have a2 : addI .i64 ((a + 1 + j : Nat) : Int) 1 = ((a + 1 + (j + 1) : Nat) : Int) := add1' (by omega)
    cases hh : hitB f f.length (a + 1 + j)
    · rw [hh] at hg hgv
      have hp' : noHit f a (j + 1) = true := by rw [noHit_succ, hp, hh]; rfl
      simp (disch := omega) [aa, ltT hF, hg, hgv, hhl, hlt, a2, hp', keep_cl, trunc, -Int.natCast_add]
    · rw [hh] at hg hgv
      have := noHit_false hh hlt
      simp (disch := omega) [aa, ltT hF, hg, hgv, hhl, this, -Int.natCast_add]
  · have hne : j = n - 1 := by omega
    subst hne
    have hF : ¬ ((a + 1 + (n - 1) : Nat) : Int) < ((a + n : Nat) : Int) := by omega
    simp [aa, ltF hF, hp, -Int.natCast_add]

theorem Free_ok [HasIns G] [HasCheck G] [HasWRight G] [HasSpl G] (f : List In4) (a n : Int) (hf : f.length ≤ maxLen) (hk : ∀ x ∈ f, x.k < 4294967296) :
    FP G 206 [FL f, .int .i64 a, .int .i64 n] (.bool (freeZ f a n)) := by
  refine FP_of HasSpl.h_splice_Free (Nat.le_of_ble_eq_true rfl) ?_
  have hso := Sound_ok (G := G) f hf hk
  simp
  refine callP_of hso ?_
  cases hs : soundF f
  · simp [freeZ, hs]
  · simp
    refine callP_of (targets_ok f hs hk) ?_
    simp
    refine callP_of (free_ok f a n hs hk) ?_
    simp [freeZ, hs]

theorem FreeR_ok [HasR2 G] [HasR5 G] [HasR17 G] [HasR22 G] (f : List In4) (a n : Int) (hf : f.length ≤ maxLen) (hk : ∀ x ∈ f, x.k < 4294967296) :
    FP G 211 [FL f, .int .i64 a, .int .i64 n] (.bool (freeZ f a n)) := by
  refine FP_of HasR22.h_hurdleref22_Free (Nat.le_of_ble_eq_true rfl) ?_
  have hso := SoundR_ok (G := G) f hf hk
  simp
  refine callP_of hso ?_
  cases hs : soundF f
  · simp [freeZ, hs]
  have hfz : freeZ f a n = freeR f a n := by simp [freeZ, hs]
  rw [hfz]
  have hl := sound_le hs
  have hml : maxLen = 9223372036854775807 := by decide
  by_cases h1 : a < 0
  · have : freeR f a n = false := by simp [freeR, inB, show ¬ 0 ≤ a by omega]
    simp [h1, this]
  by_cases h2 : n < 1
  · have : freeR f a n = false := by simp [freeR, inB, show ¬ 1 ≤ n by omega]
    simp [h1, h2, this]
  by_cases h3 : (f.length : Int) ≤ a
  · have : freeR f a n = false := by simp [freeR, inB, show ¬ a < f.length by omega]
    simp [h1, h2, h3, FL, this]
  have s1 : subI .i64 (f.length : Int) a = (f.length : Int) - a := by rw [subI64] <;> omega
  by_cases h4 : (f.length : Int) - a < n
  · have : freeR f a n = false := by simp [freeR, inB, show ¬ n ≤ f.length - a by omega]
    simp [h1, h2, h3, h4, s1, FL, this]
  have hin : inB f a n = true := by simp only [inB, decide_eq_true_eq]; omega
  obtain ⟨a, rfl⟩ := Int.eq_ofNat_of_zero_le (show 0 ≤ a by omega)
  obtain ⟨n, rfl⟩ := Int.eq_ofNat_of_zero_le (show 0 ≤ n by omega)
  have hfr : freeR f (a : Int) (n : Int) = freeN f a n := by simp [freeR, hin]
  rw [hfr]
  have h1 : ((a : Int) < 0) = False := eq_false h1
  have h2' : ((n : Int) < 1) = False := eq_false h2
  have h2 : (n = 0) = False := eq_false (by omega)
  have h3 : ((f.length : Int) ≤ (a : Int)) = False := eq_false h3
  have h4 : ((f.length : Int) - (a : Int) < (n : Int)) = False := eq_false h4
  have hbd : a + n ≤ f.length := by omega
  have aa : addI .i64 (a : Int) (n : Int) = ((a + n : Nat) : Int) := addN (by omega)
  have a1 : addI .i64 (a : Int) 1 = ((a + 1 : Nat) : Int) := add1' (by omega)
  have hw := Right17_ok (G := G) ((f.drop a).take n) (by rw [List.length_take]; omega) (slice_k hk a n)
  have hsl : List.take n (List.drop a (IL f)) = IL ((f.drop a).take n) := by rw [IL_drop, IL_take]
  simp only [FL] at hw
  simp (disch := omega) [h1, h2, h2', h3, h4, s1, FL, aa, leTn, hsl, -Int.natCast_add]
  refine callP_of hw ?_
  cases hwb : winB ((f.drop a).take n)
  · simp [freeN, hwb]
  have hfn : freeN f a n = noHit f a (n - 1) := by simp [freeN, hwb]
  rw [hfn]
  simp [a1, -Int.natCast_add]
  refine W_up (n - 1) (fun j => [(0, FL f), (1, .int .i64 a), (2, .int .i64 n), (7, .int .i64 ((a + 1 + j : Nat) : Int))]) (fun _ => []) (fun j => noHit f a j = true) ?_ ?_
  · simp [keep_cl, trunc, noHit, FL]
  intro j hj hp
  by_cases hlt : j < n - 1
  · have hF : ((a + 1 + j : Nat) : Int) < ((a + n : Nat) : Int) := by omega
    have a2 : addI .i64 ((a + 1 + j : Nat) : Int) 1 = ((a + 1 + (j + 1) : Nat) : Int) := add1' (by omega)
    simp (disch := omega) [aa, ltT hF, FL, -Int.natCast_add]
    refine W_up f.length (fun i => [(0, FL f), (1, .int .i64 a), (2, .int .i64 n), (7, .int .i64 ((a + 1 + j : Nat) : Int)), (8, .int .i64 i)]) (fun _ => []) (fun i => hitB f i (a + 1 + j) = false) ?_ ?_
    · simp [keep_cl, trunc, FL, hitB]
    intro i hi hq
    by_cases hil : i < f.length
    · obtain ⟨x, hfx⟩ : ∃ x, x = f[i] := ⟨_, rfl⟩
      have hg : f[i]? = some x := by rw [List.getElem?_eq_getElem hil, hfx]
      have hD : f.getD i RET = x := by rw [List.getD, hg]; rfl
      have hjm := jumps_ok (G := G) f i (a + 1 + j) x hg (sound_br hs hg) (hk x (hfx ▸ List.getElem_mem hil)) (by omega) (by omega)
      simp only [FL] at hjm
      have hsu := hitB_succ f i (a + 1 + j)
      rw [hq, hD, Bool.false_or] at hsu
      simp (disch := omega) [FL, ltT, -Int.natCast_add]
      refine callP_of hjm ?_
      cases hjb : jumpB x i (a + 1 + j)
      · rw [hjb] at hsu
        simp (disch := omega) [hil, add1', keep_cl, trunc, FL, hsu, -Int.natCast_add]
      · rw [hjb] at hsu
        have hh : hitB f f.length (a + 1 + j) = true := by
          rw [hitB, List.any_eq_true]
          exact ⟨i, List.mem_range.2 hil, by rw [hD]; exact hjb⟩
        have := noHit_false hh hlt
        simp [this]
    · have hne : i = f.length := by omega
      subst hne
      have hp' : noHit f a (j + 1) = true := by rw [noHit_succ, hp, hq]; rfl
      simp (disch := omega) [FL, hlt, a2, hp', keep_cl, trunc, -Int.natCast_add]
  · have hne : j = n - 1 := by omega
    subst hne
    have hF : ¬ ((a + 1 + (n - 1) : Nat) : Int) < ((a + n : Nat) : Int) := by omega
    simp [aa, ltF hF, hp, FL, -Int.natCast_add]
end Go.Ev
