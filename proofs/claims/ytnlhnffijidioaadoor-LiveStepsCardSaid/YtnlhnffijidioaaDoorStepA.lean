/- What an instruction makes of a state: run.Step. -/
import Derived.Test.YtnlhnffijidioaaDoorDataA
namespace Go.Ev
open Go Go.RowKit
variable {G : Tbl}
set_option maxRecDepth 10000
set_option maxHeartbeats 2000000
set_option linter.unusedSimpArgs false
set_option linter.unusedVariables false

def cellS (s : St) (k : Nat) : Nat := if k < 16 then s.m.getD k 0 else 0
def storeS (s : St) (k v : Nat) : St := if k < 16 then { s with m := s.m.set k v } else s
def negW (a : Nat) : Nat := (4294967296 - a) % 4294967296
/-- Of what is no arithmetic. -/
def stepO (s : St) (x : In4) (d : Da) : St :=
  if x.op = 0 then { s with a := x.k } else if x.op = 1 then { s with x := x.k } else if x.op = 32 then { s with a := (wordS d x.k).1 }
  else if x.op = 96 then { s with a := cellS s x.k } else if x.op = 97 then { s with x := cellS s x.k } else if x.op = 2 then storeS s x.k s.a else if x.op = 3 then storeS s x.k s.x
  else if x.op = 7 then { s with x := s.a } else if x.op = 135 then { s with a := s.x } else if x.op = 132 then { s with a := negW s.a } else s
def aluB (s : St) (x : In4) : Nat := if (aluT x.op).2.1 then s.x else x.k
def aluR (s : St) (x : In4) : Nat × Bool := doW (aluT x.op).1 s.a (aluB s x)
def stepS (s : St) (x : In4) (d : Da) : St × Bool :=
  if (aluT x.op).2.2 then (if (aluR s x).2 then { s with a := (aluR s x).1 } else s, (aluR s x).2) else (stepO s x d, true)

theorem cellS_ok [HasStep G] (s : St) (k : Nat) (hs : s.ok) (hk : k < 4294967296) : FP G 162 [SV s, .int .u32 k] (.int .u32 (cellS s k : Nat)) := by
  refine FP_of HasStep.h_run_cell (Nat.le_of_ble_eq_true rfl) ?_
  have hl := hs.2.2.1
  by_cases h : 16 ≤ k
  · have : (16 : Int) ≤ (k : Int) := by omega
    simp [SV, St.cs, this, cellS, show ¬ k < 16 from by omega]
  · have h1 : k < 16 := by omega
    have c := cnats_get .u32 s.m k (by omega)
    have hg : s.m.getD k 0 = s.m[k]'(by omega) := by simp [List.getD, List.getElem?_eq_getElem (show k < s.m.length by omega)]
    have i1 : ((16 : Int) ≤ (k : Int)) = False := leF (by omega)
    have i2 : ((k : Int) < 16) = True := ltT (by omega)
    have i3 : (2 + k + 1 ≤ 16 + 1 + 1) = True := leTn (by omega)
    simp [SV, St.cs, i1, i2, hl, drop2, drop1, c, cellS, h1, hg, show 2 + k ≤ 17 from by omega]
theorem storeS_ok [HasStep G] (s : St) (k v : Nat) (hs : s.ok) (hk : k < 4294967296) : FP G 163 [SV s, .int .u32 k, .int .u32 v] (SV (storeS s k v)) := by
  refine FP_of HasStep.h_run_store (Nat.le_of_ble_eq_true rfl) ?_
  have hl := hs.2.2.1
  have ht := take_full (k := .u32) hl
  by_cases h1 : k < 16
  · have c := cnats_set .u32 s.m k v (by omega)
    have i2 : ((k : Int) < 16) = True := ltT (by omega)
    have ht2 : (cnats .u32 (s.m.set k v)).take 16 = cnats .u32 (s.m.set k v) := take_full (by simp [hl])
    simp [SV, St.cs, i2, hl, drop2, drop1, drop21, take2, c, storeS, h1, ht2, show 2 + k ≤ 17 from by omega, show (k : Nat) ≤ 15 from by omega]
  · have i1 : ((k : Int) < 16) = False := ltF (by omega)
    simp [SV, St.cs, i1, storeS, h1, hl, ht]
theorem Neg_ok [HasNeg G] (a : Nat) (ha : a < 4294967296) : FP G 138 [.int .u32 a] (.int .u32 (negW a : Nat)) := by
  refine FP_of HasNeg.h_word_Neg (Nat.le_of_ble_eq_true rfl) ?_
  have : negI .u32 (a : Int) = ((negW a : Nat) : Int) := by unfold negI negW; rw [wrap32]; omega
  simp [this]

theorem storeS_ok' {s : St} (hs : s.ok) {k v : Nat} (hv : v < 4294967296) : (storeS s k v).ok := by
  unfold storeS
  split
  · refine ⟨hs.1, hs.2.1, by simp [hs.2.2.1], fun w hw => ?_⟩
    rcases List.mem_or_eq_of_mem_set hw with h | h
    · exact hs.2.2.2 w h
    · rw [h]; exact hv
  · exact hs
theorem cellS_lt {s : St} (hs : s.ok) (k : Nat) : cellS s k < 4294967296 := by
  unfold cellS
  split
  · rename_i h
    rw [List.getD, List.getElem?_eq_getElem (show k < s.m.length by rw [hs.2.2.1]; exact h), Option.getD_some]
    exact hs.2.2.2 _ (List.getElem_mem _)
  · decide
theorem wordS_lt {d : Da} (hd : d.ok) (k : Nat) : (wordS d k).1 < 4294967296 := by
  unfold wordS
  split
  · rename_i h
    have hl := wordsD_len hd.2.2.2.1
    simp only [List.getD, List.getElem?_eq_getElem (show k / 4 < (wordsD d).length by omega), Option.getD_some]
    exact wordsD_lt hd _ (List.getElem_mem _)
  · decide
theorem doW32 (kind : Int) {a b : Nat} (ha : a < 4294967296) (hb : b < 4294967296) : (doW kind a b).1 < 4294967296 := by
  have h1 := Nat.or_lt_two_pow (n := 32) ha hb
  have h2 := Nat.and_lt_two_pow (n := 32) a hb
  have h3 := Nat.xor_lt_two_pow (n := 32) ha hb
  have h4 : a / b ≤ a := Nat.div_le_self _ _
  have h5 : a / 2 ^ (b % 32) ≤ a := Nat.div_le_self _ _
  unfold doW
  repeat' split
  all_goals first
    | (simp only; omega)
    | (simp only; exact Nat.mod_lt _ (by decide))
theorem aluB_lt {s : St} (hs : s.ok) {x : In4} (hk : x.k < 4294967296) : aluB s x < 4294967296 := by
  unfold aluB
  split
  · exact hs.2.1
  · exact hk
theorem stepO_ok {s : St} (hs : s.ok) {x : In4} (hk : x.k < 4294967296) {d : Da} (hd : d.ok) : (stepO s x d).ok := by
  obtain ⟨h1, h2, h3, h4⟩ := hs
  have hn : negW s.a < 4294967296 := Nat.mod_lt _ (by decide)
  have hc := cellS_lt ⟨h1, h2, h3, h4⟩ x.k
  have hw := wordS_lt hd x.k
  unfold stepO
  repeat' split
  all_goals first
    | exact ⟨hk, h2, h3, h4⟩
    | exact ⟨h1, hk, h3, h4⟩
    | exact ⟨hw, h2, h3, h4⟩
    | exact ⟨hc, h2, h3, h4⟩
    | exact ⟨h1, hc, h3, h4⟩
    | exact storeS_ok' ⟨h1, h2, h3, h4⟩ h1
    | exact storeS_ok' ⟨h1, h2, h3, h4⟩ h2
    | exact ⟨h1, h1, h3, h4⟩
    | exact ⟨h2, h2, h3, h4⟩
    | exact ⟨hn, h2, h3, h4⟩
    | exact ⟨h1, h2, h3, h4⟩
theorem stepS_ok' {s : St} (hs : s.ok) {x : In4} (hk : x.k < 4294967296) {d : Da} (hd : d.ok) : (stepS s x d).1.ok := by
  unfold stepS
  split
  · simp only
    split
    · exact ⟨doW32 _ hs.1 (aluB_lt hs hk), hs.2⟩
    · exact hs
  · exact stepO_ok hs hk hd

theorem Step_ok [HasWd G] [HasNeg G] [HasIns G] [HasData G] [HasStep G] (s : St) (x : In4) (d : Da) (hs : s.ok) (hk : x.k < 4294967296) (hd : d.ok) :
    FP G 164 [SV s, IV x, DV d] (.tup [SV (stepS s x d).1, .bool (stepS s x d).2]) := by
  refine FP_of HasStep.h_run_Step (Nat.le_of_ble_eq_true rfl) ?_
  have hl := hs.2.2.1
  have ht := take_full (k := .u32) hl
  have h6 := hd.2.2.2.1
  have ht6 := take_full (k := .u64) h6
  have ha := Alu_ok (G := G) x
  have hD := doW_ok (G := G) inferInstance (aluT x.op).1 s.a (aluB s x) hs.1 (aluB_lt hs hk)
  have hW := Word_ok (G := G) d x.k hd hk
  have hC := cellS_ok (G := G) s x.k hs hk
  have hS1 := storeS_ok (G := G) s x.k s.a hs hk
  have hS2 := storeS_ok (G := G) s x.k s.x hs hk
  have hN := Neg_ok (G := G) s.a hs.1
  have hlS : ∀ v, (storeS s x.k v).m.length = 16 := fun v => by unfold storeS; split <;> simp [hl]
  have htS := fun v => take_full (k := .u32) (hlS v)
  simp [SV, IV, DV, In4.cs, St.cs, Da.cs] at ha hW hC hS1 hS2 ⊢
  refine callP_of ha ?_
  cases hal : (aluT x.op).2.2
  case true =>
    simp [hal]
    have hst : stepS s x d = (if (aluR s x).2 then { s with a := (aluR s x).1 } else s, (aluR s x).2) := by simp [stepS, hal]
    cases hx : (aluT x.op).2.1
    · have : aluB s x = x.k := by simp [aluB, hx]
      rw [this] at hD
      simp [hx]
      refine callP_of hD ?_
      cases hg : (doW (aluT x.op).1 s.a x.k).2 <;> simp [hg, hst, aluR, this, hl, ht]
    · have : aluB s x = s.x := by simp [aluB, hx]
      rw [this] at hD
      simp [hx]
      refine callP_of hD ?_
      cases hg : (doW (aluT x.op).1 s.a s.x).2 <;> simp [hg, hst, aluR, this, hl, ht]
  simp [hal]
  have hst : stepS s x d = (stepO s x d, true) := by simp [stepS, hal]
  rw [hst]
  by_cases e0 : x.op = 0
  · simp [e0, stepO, hl, ht]
  by_cases e1 : x.op = 1
  · simp [e1, beqF, stepO, hl, ht]
  by_cases e2 : x.op = 32
  · simp [e2, beqF, stepO, h6, ht6]
    refine callP_of hW ?_
    simp [hl, ht]
  by_cases e3 : x.op = 96
  · simp [e3, beqF, stepO, hl, ht]
    refine callP_of hC ?_
    simp [hl, ht]
  by_cases e4 : x.op = 97
  · simp [e4, beqF, stepO, hl, ht]
    refine callP_of hC ?_
    simp [hl, ht]
  by_cases e5 : x.op = 2
  · simp [e5, beqF, stepO, hl, ht]
    refine callP_of hS1 ?_
    simp [hl, hlS, htS]
  by_cases e6 : x.op = 3
  · simp [e6, beqF, stepO, hl, ht]
    refine callP_of hS2 ?_
    simp [hl, hlS, htS]
  by_cases e7 : x.op = 7
  · simp [e7, beqF, stepO, hl, ht]
  by_cases e8 : x.op = 135
  · simp [e8, beqF, stepO, hl, ht]
  by_cases e9 : x.op = 132
  · simp [e9, beqF, stepO]
    refine callP_of hN ?_
    simp [hl, ht]
  simp [e0, e1, e2, e3, e4, e5, e6, e7, e8, e9, beqF, stepO, hl, ht]
end Go.Ev
