/- What run.Run and hurdleref06.Run compute. -/
import Derived.Test.YtdomogpjchpbnaaDoorRunD
import Derived.Test.YtdomogpjchpbnaaDoorEvRunC
namespace Go.Ev
open Go Go.RowKit
variable {G : Tbl}
set_option maxRecDepth 10000
set_option maxHeartbeats 2000000
set_option linter.unusedSimpArgs false
set_option linter.unusedVariables false

/-- The first state. -/
def St0 : St := ⟨0, 0, zeros 16⟩
theorem st0_ok : St0.ok := ⟨by decide, by decide, by simp [St0], fun w hw => by
  simp only [St0, zeros, List.mem_replicate] at hw
  omega⟩
theorem st0_cs : St0.cs = cnats .u32 (zeros 18) := rfl

theorem RunR_ok [HasR2 G] [hR1 : HasR1 G] [HasR1n G] [HasR4 G] [HasR6s G] [HasR6 G] [HasR6r G] (f : List In4) (d : Da) (hk : ∀ x ∈ f, x.k < 4294967296) (hs : soundF f = true) (hd : d.ok) :
    FP G 234 [FL f, DV d] (.tup [.int .u32 ((run d f St0).1 : Nat), .int .i64 ((run d f St0).2 : Nat)]) := by
  refine FP_of HasR6r.h_hurdleref06_Run (Nat.le_of_ble_eq_true rfl) ?_
  have h0 : 0 < f.length := by
    have := sound_ne hs
    cases f with
    | nil => exact absurd rfl this
    | cons => simp
  have hf := From_ok (G := G) f d hk hs hd _ 0 St0 (Nat.le_refl _) h0 st0_ok
  have h6 := hd.2.2.2.1
  have ht6 := take_full (k := .u64) h6
  simp [SV, st0_cs, FL, DV, Da.cs] at hf
  simp [FL, DV, Da.cs, h6, ht6]
  refine callP_of hf ?_
  simp

theorem Run_no [HasIns G] [HasCheck G] [HasRun G] (f : List In4) (d : Da) (hf : f.length ≤ maxLen) (hk : ∀ x ∈ f, x.k < 4294967296) (hs : soundF f = false) :
    FP G 230 [FL f, DV d] (.tup [.int .u32 0, .int .i64 0, .int .i64 1]) := by
  refine FP_of HasRun.h_run_Run (Nat.le_of_ble_eq_true rfl) ?_
  have hso := Sound_ok (G := G) f hf hk
  rw [hs] at hso
  simp [FL] at hso
  simp [FL, DV, Da.cs]
  refine callP_of hso ?_
  simp

theorem Run_ok [HasWd G] [HasNeg G] [HasIns G] [HasCheck G] [HasData G] [HasStep G] [HasTakes G] [HasRun G] (f : List In4) (d : Da) (hf : f.length ≤ maxLen) (hk : ∀ x ∈ f, x.k < 4294967296) (hs : soundF f = true) (hd : d.ok) :
    FP G 230 [FL f, DV d] (.tup [.int .u32 ((run d f St0).1 : Nat), .int .i64 ((run d f St0).2 : Nat), .int .i64 0]) := by
  refine FP_of HasRun.h_run_Run (Nat.le_of_ble_eq_true rfl) ?_
  have hso := Sound_ok (G := G) f hf hk
  rw [hs] at hso
  have h6 := hd.2.2.2.1
  have ht6 := take_full (k := .u64) h6
  have h0 : 0 < f.length := by
    have := sound_ne hs
    cases f with
    | nil => exact absurd rfl this
    | cons => simp
  have hrl := run_le d _ f St0 (Nat.le_refl _)
  have hl4 : f.length ≤ 4096 := by simp only [soundF, Bool.and_eq_true, decide_eq_true_eq] at hs; exact hs.1.1
  obtain ⟨R, hR⟩ : ∃ R, R = run d f St0 := ⟨_, rfl⟩
  rw [← hR] at hrl ⊢
  simp [FL] at hso
  simp [FL, DV, Da.cs]
  refine callP_of hso ?_
  simp
  refine W_state (fun z : St × Nat × Nat => f.length - z.2.1)
    (fun z => [(0, FL f), (3, .ptr 0 0), (7, .ptr 1 0), (8, .int .u32 0), (9, .int .i64 z.2.1), (10, .int .i64 z.2.2)])
    (fun z => [some (.cells d.cs), some (.cells z.1.cs)])
    (fun z => z.2.1 < f.length ∧ z.1.ok ∧ (run d (f.drop z.2.1) z.1).1 = R.1 ∧ z.2.2 + (run d (f.drop z.2.1) z.1).2 = R.2) (St0, 0, 0) ?_ ?_
  · refine ⟨⟨h0, st0_ok, by simp [hR], by simp [hR]⟩, ?_, ?_⟩
    · simp [keep_cl, FL]
    · simp [trunc, Da.cs, st0_cs]
  rintro ⟨s, t, n⟩ ⟨ht, hso2, hr1, hr2⟩
  simp only at ht hso2 hr1 hr2
  have hg : f[t]? = some f[t] := List.getElem?_eq_getElem ht
  have hgg := FL_get ht
  have hxm : f[t] ∈ f := List.getElem_mem ht
  have hdr := List.drop_eq_getElem_cons ht
  obtain ⟨x, hfx⟩ : ∃ x, x = f[t] := ⟨_, rfl⟩
  rw [← hfx] at hg hgg hxm hdr
  have hfx := hfx.symm
  have hkk := hk x hxm
  have hcs : x.cs = [.int .i64 x.op, .int .i64 x.jt, .int .i64 x.jf, .int .u32 (x.k : Int)] := rfl
  have hbo := sound_br hs hg
  have hbr := Branch_ok (G := G) x
  have hta := Takes_ok (G := G) s x hso2 hkk
  have hst := Step_ok (G := G) s x d hso2 hkk hd
  have hl := hso2.2.2.1
  have htk := take_full (k := .u32) hl
  have hc := convI64 x.k hkk
  have hso3 := stepS_ok' hso2 hkk hd
  have hl2 := hso3.2.2.1
  have htk2 := take_full (k := .u32) hl2
  have a1 : addI .i64 (t : Int) 1 = ((t + 1 : Nat) : Int) := add1' (by omega)
  have a2 : addI .i64 (n : Int) 1 = ((n + 1 : Nat) : Int) := add1' (by omega)
  rw [hdr, run_cons] at hr1 hr2
  simp [SV, IV, DV, FL, hcs, St.cs, Da.cs] at hbr hta hst
  by_cases e6 : x.op = 6
  · simp only [e6, if_true] at hr1 hr2
    simp (disch := omega) [ltT, FL, hgg, hg, hfx, hcs, e6, a1, a2, -Int.natCast_add]
    rw [← hr1, ← hr2]
    simp
  have b6 : (x.op == 6) = false := beqF e6
  by_cases e22 : x.op = 22
  · simp only [e6, e22, if_true] at hr1 hr2
    simp (disch := omega) [ltT, FL, hgg, hg, hfx, hcs, e22, a1, a2, St.cs, -Int.natCast_add]
    rw [← hr1, ← hr2]
    simp
  have b22 : (x.op == 22) = false := beqF e22
  have he : isEnd x.op = false := by simp [isEnd, e6, e22]
  have hgo := sound_offs hs hg (goes_offs he s)
  simp only [e6, e22, if_false, List.drop_drop] at hr1 hr2
  by_cases h5 : x.op = 5
  · have b5 : (x.op == 5) = true := by simp [h5]
    have hgg5 : goes s x = x.k := by simp [goes, h5]
    have hstp : stepS s x d = (s, true) := by
      have : (aluT 5).2.2 = false := by decide
      simp [stepS, stepO, h5, this]
    rw [hgg5] at hgo hr1 hr2
    rw [hstp] at hr1 hr2
    simp only [if_true] at hr1 hr2
    have a3 : addI .i64 ((t + 1 : Nat) : Int) (x.k : Int) = ((t + 1 + x.k : Nat) : Int) := addN (by omega)
    simp (disch := omega) [ltT, FL, hgg, hg, hfx, hcs, b6, b22, b5, hc, a1, a2, a3, -Int.natCast_add]
    refine ⟨(s, t + 1 + x.k, n + 1), ?_⟩
    refine ⟨by simp only; omega, ⟨hgo, hso2, hr1, by simp only; omega⟩, ?_, ?_⟩
    · simp [keep_cl, FL, -Int.natCast_add]
    · simp [trunc, Da.cs, St.cs]
  have b5 : (x.op == 5) = false := beqF h5
  simp (disch := omega) [ltT, FL, hgg, hg, hfx, hcs, b6, b22, b5, a1, a2, -Int.natCast_add]
  refine callP_of hbr ?_
  cases hb : isBr x.op
  · have hgg5 : goes s x = 0 := by simp [goes, h5, hb]
    rw [hgg5] at hgo hr1 hr2
    simp only [Nat.add_zero] at hgo hr1 hr2
    simp (disch := omega) [hl, htk, h6, ht6, St.cs, Da.cs, -Int.natCast_add]
    refine callP_of hst ?_
    cases hok : (stepS s x d).2
    · rw [hok] at hr1 hr2
      simp only [Bool.false_eq_true, if_false] at hr1 hr2
      simp [hl2, htk2, -Int.natCast_add]
      rw [← hr1, ← hr2]
      simp
    · rw [hok] at hr1 hr2
      simp only [if_true] at hr1 hr2
      simp (disch := omega) [hl2, htk2, hl, htk, St.cs, -Int.natCast_add]
      refine ⟨((stepS s x d).1, t + 1, n + 1), ?_⟩
      refine ⟨by simp only; omega, ⟨hgo, hso3, hr1, by simp only; omega⟩, ?_, ?_⟩
      · simp [keep_cl, FL, -Int.natCast_add]
      · have hdf := drop_full (k := .u32) hl
        simp [trunc, Da.cs, St.cs, hl2, htk2, hl, htk, hdf]
  obtain ⟨b1, b2, b3, b4⟩ := hbo hb
  have hstp : stepS s x d = (s, true) := by
    rcases br_two hb with h | h | h | h | h | h | h | h <;>
    · have : (aluT x.op).2.2 = false := by rw [h]; decide
      unfold stepS
      rw [this]
      simp [stepO, h]
  rw [hstp] at hr1 hr2
  simp only [if_true] at hr1 hr2
  simp (disch := omega) [hl, htk, St.cs, -Int.natCast_add]
  refine callP_of hta ?_
  cases htb : takesB s x
  · have hgg5 : goes s x = x.jf.toNat := by simp [goes, h5, hb, htb]
    rw [hgg5] at hgo hr1 hr2
    have a3 : addI .i64 ((t + 1 : Nat) : Int) x.jf = ((t + 1 + x.jf.toNat : Nat) : Int) := by rw [addI64] <;> omega
    simp (disch := omega) [a3, -Int.natCast_add]
    refine ⟨(s, t + 1 + x.jf.toNat, n + 1), ?_⟩
    refine ⟨by simp only; omega, ⟨hgo, hso2, hr1, by simp only; omega⟩, ?_, ?_⟩
    · simp [keep_cl, FL, -Int.natCast_add]
    · simp [trunc, Da.cs, St.cs]
  · have hgg5 : goes s x = x.jt.toNat := by simp [goes, h5, hb, htb]
    rw [hgg5] at hgo hr1 hr2
    have a3 : addI .i64 ((t + 1 : Nat) : Int) x.jt = ((t + 1 + x.jt.toNat : Nat) : Int) := by rw [addI64] <;> omega
    simp (disch := omega) [a3, -Int.natCast_add]
    refine ⟨(s, t + 1 + x.jt.toNat, n + 1), ?_⟩
    refine ⟨by simp only; omega, ⟨hgo, hso2, hr1, by simp only; omega⟩, ?_, ?_⟩
    · simp [keep_cl, FL, -Int.natCast_add]
    · simp [trunc, Da.cs, St.cs]
end Go.Ev
