/- The laws of layer 6. -/
import Derived.Test.YtdomogpjchpbnaaDoorRunF
import Derived.Test.YtdomogpjchpbnaaDoorEvLaw06C
namespace Go.Ev
open Go Go.RowKit
variable {G : Tbl}
set_option maxRecDepth 10000
set_option maxHeartbeats 4000000
set_option linter.unusedSimpArgs false
set_option linter.unusedVariables false

/-- RUNSTEPS. -/
theorem RunSteps_ok [HasWd G] [HasNeg G] [HasIns G] [HasData G] [HasStep G] [HasTakes G] [HasR2 G] [hR1 : HasR1 G] [HasR1n G] [HasR4 G] [HasR6s G] [HasR6 G] [HasL6 G] (hkn : FP G 235 [] (.bool true))
    (s : St) (x : In4) (d : Da) (hs : s.ok) (hk : x.k < 4294967296) (hd : d.ok) : FP G 236 [SV s, IV x, DV d] (.bool true) := by
  refine FP_of HasL6.h_hurdlelaw06_RunSteps (Nat.le_of_ble_eq_true rfl) ?_
  have hl := hs.2.2.1
  have htk := take_full (k := .u32) hl
  have h6 := hd.2.2.2.1
  have ht6 := take_full (k := .u64) h6
  have hso2 := stepS_ok' hs hk hd
  have hl2 := hso2.2.2.1
  have htk2 := take_full (k := .u32) hl2
  have hst := Step_ok (G := G) s x d hs hk hd
  have hst6 := Step6_ok (G := G) s x d hs hk hd
  have hta := Takes_ok (G := G) s x hs hk
  have htr := TakesR_ok (G := G) s x hs hk
  have e16 := eqks_nats (n := 16) (a := (stepS s x d).1.m) (b := (stepS s x d).1.m) hl2 hl2
  rw [show List.replicate 16 Kd.int = [Kd.int, .int, .int, .int, .int, .int, .int, .int, .int, .int, .int, .int, .int, .int, .int, .int] from rfl] at e16
  simp only [decide_true] at e16
  simp [SV, IV, DV, In4.cs, St.cs, Da.cs] at hst hst6 hta htr
  simp [SV, IV, DV, In4.cs, St.cs, Da.cs, hl, htk, h6, ht6]
  refine callP_of hst ?_
  simp [hl, htk, h6, ht6, hl2, htk2]
  refine callP_of hst6 ?_
  simp [hl, htk, h6, ht6, hl2, htk2, e16]
  refine callP_of hta ?_
  simp [hl, htk, h6, ht6, hl2, htk2]
  refine callP_of htr ?_
  simp
  refine callP_of hkn ?_
  simp

/-- RUNRUNS. -/
theorem RunRuns_ok [HasWd G] [HasNeg G] [HasIns G] [HasCheck G] [HasData G] [HasStep G] [HasTakes G] [HasRun G] [HasR2 G] [hR1 : HasR1 G] [HasR1n G] [HasR4 G] [HasR5 G] [HasR6s G] [HasR6 G] [HasR6r G] [HasL6 G] (hkn : FP G 235 [] (.bool true))
    (f : List In4) (d : Da) (hf : f.length ≤ maxLen) (hk : ∀ x ∈ f, x.k < 4294967296) (hd : d.ok) : FP G 237 [FL f, DV d] (.bool true) := by
  refine FP_of HasL6.h_hurdlelaw06_RunRuns (Nat.le_of_ble_eq_true rfl) ?_
  have h6 := hd.2.2.2.1
  have ht6 := take_full (k := .u64) h6
  by_cases hb : f.length > 300
  · have h1 : ((300 : Int) < (f.length : Int)) = True := eq_true (by omega)
    simp [FL, DV, Da.cs, h1]
    refine callP_of hkn ?_
    simp
  have h1 : ((300 : Int) < (f.length : Int)) = False := eq_false (by omega)
  have hso := SoundR_ok (G := G) f hf hk
  simp [FL] at hso
  cases hsf : soundF f
  · rw [hsf] at hso
    have hru := Run_no (G := G) f d hf hk hsf
    simp [FL, DV, Da.cs] at hru
    simp [FL, DV, Da.cs, h1, h6, ht6]
    refine callP_of hru ?_
    simp
    refine callP_of hso ?_
    simp
    refine callP_of hkn ?_
    simp
  rw [hsf] at hso
  have hru := Run_ok (G := G) f d hf hk hsf hd
  have hrr := RunR_ok (G := G) f d hk hsf hd
  simp [FL, DV, Da.cs] at hru hrr
  simp [FL, DV, Da.cs, h1, h6, ht6]
  refine callP_of hru ?_
  simp
  refine callP_of hso ?_
  simp [h6, ht6]
  refine callP_of hrr ?_
  simp
  refine callP_of hkn ?_
  simp

/-- RUNENDS. -/
theorem RunEnds_ok [HasWd G] [HasNeg G] [HasIns G] [HasCheck G] [HasData G] [HasStep G] [HasTakes G] [HasRun G] [HasR2 G] [hR1 : HasR1 G] [HasR5 G] [HasL6 G] (hkn : FP G 235 [] (.bool true))
    (f : List In4) (d : Da) (hf : f.length ≤ maxLen) (hk : ∀ x ∈ f, x.k < 4294967296) (hd : d.ok) : FP G 238 [FL f, DV d] (.bool true) := by
  refine FP_of HasL6.h_hurdlelaw06_RunEnds (Nat.le_of_ble_eq_true rfl) ?_
  have h6 := hd.2.2.2.1
  have ht6 := take_full (k := .u64) h6
  by_cases hb : f.length > 300
  · have h1 : ((300 : Int) < (f.length : Int)) = True := eq_true (by omega)
    simp [FL, DV, Da.cs, h1]
    refine callP_of hkn ?_
    simp
  have h1 : ((300 : Int) < (f.length : Int)) = False := eq_false (by omega)
  have hso := SoundR_ok (G := G) f hf hk
  simp [FL] at hso
  cases hsf : soundF f
  · rw [hsf] at hso
    simp [FL, DV, Da.cs, h1, h6, ht6]
    refine callP_of hso ?_
    simp
    refine callP_of hkn ?_
    simp
  rw [hsf] at hso
  have hru := Run_ok (G := G) f d hf hk hsf hd
  have hle := run_le d _ f St0 (Nat.le_refl _)
  have hpos : 1 ≤ (run d f St0).2 := by
    have := sound_ne hsf
    cases f with
    | nil => exact absurd rfl this
    | cons x g => exact run_pos d x g St0
  have hF : ((1 : Int) ≤ ((run d f St0).2 : Int)) = True := eq_true (by omega)
  have hF2 : (((run d f St0).2 : Int) ≤ (f.length : Int)) = True := eq_true (by omega)
  simp [FL, DV, Da.cs] at hru
  simp [FL, DV, Da.cs, h1, h6, ht6]
  refine callP_of hso ?_
  simp [h6, ht6]
  refine callP_of hru ?_
  simp [hF, hF2, hle, hpos]
  refine callP_of hkn ?_
  simp

/-- RUNFLIPS. -/
theorem RunFlips_ok [HasTakes G] [hR1 : HasR1 G] [HasL6 G] (hkn : FP G 235 [] (.bool true)) (s : St) (k : Nat) (hs : s.ok) (hk : k < 4294967296) : FP G 242 [SV s, .int .u32 k] (.bool true) := by
  refine FP_of HasL6.h_hurdlelaw06_RunFlips (Nat.le_of_ble_eq_true rfl) ?_
  have hl := hs.2.2.1
  have htk := take_full (k := .u32) hl
  have e1 := Takes_ok (G := G) s ⟨21, 0, 0, k⟩ hs hk
  have e2 := Takes_ok (G := G) s ⟨37, 0, 0, k⟩ hs hk
  have e3 := Takes_ok (G := G) s ⟨53, 0, 0, k⟩ hs hk
  have hs2 : (St.mk s.a k s.m).ok := ⟨hs.1, hk, hs.2.2⟩
  have f1 := Takes_ok (G := G) ⟨s.a, k, s.m⟩ ⟨29, 0, 0, 0⟩ hs2 (by decide)
  have f2 := Takes_ok (G := G) ⟨s.a, k, s.m⟩ ⟨45, 0, 0, 0⟩ hs2 (by decide)
  have f3 := Takes_ok (G := G) ⟨s.a, k, s.m⟩ ⟨61, 0, 0, 0⟩ hs2 (by decide)
  have f4 := Takes_ok (G := G) ⟨s.a, k, s.m⟩ ⟨77, 0, 0, 0⟩ hs2 (by decide)
  have hdo := DoR_ok hR1 84 s.a k hs.1 hk
  have v1 : takesB s ⟨21, 0, 0, k⟩ = decide (s.a = k) := by simp [takesB]
  have v2 : takesB s ⟨37, 0, 0, k⟩ = decide (k < s.a) := by simp [takesB]
  have v3 : takesB s ⟨53, 0, 0, k⟩ = decide (k ≤ s.a) := by simp [takesB]
  have w1 : takesB ⟨s.a, k, s.m⟩ ⟨29, 0, 0, 0⟩ = decide (s.a = k) := by simp [takesB]
  have w2 : takesB ⟨s.a, k, s.m⟩ ⟨45, 0, 0, 0⟩ = decide (k < s.a) := by simp [takesB]
  have w3 : takesB ⟨s.a, k, s.m⟩ ⟨61, 0, 0, 0⟩ = decide (k ≤ s.a) := by simp [takesB]
  have w4 : takesB ⟨s.a, k, s.m⟩ ⟨77, 0, 0, 0⟩ = decide (s.a &&& k ≠ 0) := by simp [takesB]
  rw [v1] at e1
  rw [v2] at e2
  rw [v3] at e3
  rw [w1] at f1
  rw [w2] at f2
  rw [w3] at f3
  rw [w4] at f4
  simp [SV, IV, St.cs, In4.cs] at e1 e2 e3 f1 f2 f3 f4
  simp [SV, St.cs, hl, htk]
  refine callP_of e1 ?_
  simp [hl, htk]
  refine callP_of e2 ?_
  simp [hl, htk]
  refine callP_of e3 ?_
  simp [hl, htk]
  refine callP_of hdo ?_
  have d1 : (doW 84 s.a k).1 = s.a &&& k := by simp [doW]
  have ne : ∀ a : Nat, ((a : Int) != 0) = decide (a ≠ 0) := fun a => by rw [Bool.eq_iff_iff]; simp
  rcases Nat.lt_trichotomy s.a k with h | h | h
  · have b1 : (s.a = k) = False := eq_false (by omega)
    have b2 : (k < s.a) = False := eq_false (by omega)
    have b3 : (k ≤ s.a) = False := eq_false (by omega)
    simp [hl, htk, b1, b2, b3] at f1 f2 f3 ⊢
    refine callP_of f1 ?_
    simp [hl, htk]
    refine callP_of f2 ?_
    simp [hl, htk]
    refine callP_of f3 ?_
    simp [hl, htk]
    refine callP_of f4 ?_
    simp [d1, ne]
    refine callP_of hkn ?_
    simp
  · have b1 : (s.a = k) = True := eq_true (by omega)
    have b2 : (k < s.a) = False := eq_false (by omega)
    have b3 : (k ≤ s.a) = True := eq_true (by omega)
    simp [hl, htk, b1, b2, b3] at f1 f2 f3 ⊢
    refine callP_of f1 ?_
    simp [hl, htk]
    refine callP_of f2 ?_
    simp [hl, htk]
    refine callP_of f3 ?_
    simp [hl, htk]
    refine callP_of f4 ?_
    simp [d1, ne]
    refine callP_of hkn ?_
    simp
  · have b1 : (s.a = k) = False := eq_false (by omega)
    have b2 : (k < s.a) = True := eq_true (by omega)
    have b3 : (k ≤ s.a) = True := eq_true (by omega)
    simp [hl, htk, b1, b2, b3] at f1 f2 f3 ⊢
    refine callP_of f1 ?_
    simp [hl, htk]
    refine callP_of f2 ?_
    simp [hl, htk]
    refine callP_of f3 ?_
    simp [hl, htk]
    refine callP_of f4 ?_
    simp [d1, ne]
    refine callP_of hkn ?_
    simp
end Go.Ev
