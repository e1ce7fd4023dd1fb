/- The laws RunLoads, RunBehind and RunJumps. -/
import Derived.Test.YtdomogpjchpbnaaDoorRunF
import Derived.Test.YtdomogpjchpbnaaDoorEvLaw06C
namespace Go.Ev
open Go Go.RowKit
variable {G : Tbl}
set_option maxRecDepth 10000
set_option maxHeartbeats 4000000
set_option linter.unusedSimpArgs false
set_option linter.unusedVariables false

/-- RUNLOADS. -/
theorem RunLoads_ok [HasWd G] [HasNeg G] [HasIns G] [HasCheck G] [HasData G] [HasStep G] [HasTakes G] [HasRun G] [HasWith G] [HasR2 G] [HasR5 G] [HasL6 G] (hkn : FP G 235 [] (.bool true))
    (f : List In4) (d : Da) (n v : Nat) (hf : f.length ≤ maxLen) (hk : ∀ x ∈ f, x.k < 4294967296) (hd : d.ok) (hn : n < 4294967296) (hv : v < 4294967296) : FP G 239 [FL f, DV d, .int .u32 n, .int .u32 v] (.bool true) := by
  refine FP_of HasL6.h_hurdlelaw06_RunLoads (Nat.le_of_ble_eq_true rfl) ?_
  have h6 := hd.2.2.2.1
  have ht6 := take_full (k := .u64) h6
  by_cases hb : f.length > 300
  · have h1 : ((300 : Int) < (f.length : Int)) = True := eq_true (by omega)
    simp [FL, DV, Da.cs, h1]
    refine callP_of hkn ?_
    simp
  have h1 : ((300 : Int) < (f.length : Int)) = False := eq_false (by omega)
  have hso := SoundR_ok (G := G) f hf hk
  simp [FL] at hso
  cases hsf : soundF f
  · rw [hsf] at hso
    simp [FL, DV, Da.cs, h1, h6, ht6]
    refine callP_of hso ?_
    simp
    refine callP_of hkn ?_
    simp
  rw [hsf] at hso
  simp [FL, DV, Da.cs, h1, h6, ht6]
  refine callP_of hso ?_
  simp
  refine W_up f.length (fun i => [(0, FL f), (2, .int .u32 n), (3, .int .u32 v), (5, .ptr 0 0), (9, .int .i64 i)]) (fun _ => [some (.cells d.cs)])
    (fun i => ∀ (j : Nat) (x : In4), j < i → f[j]? = some x → x.op = 32 → x.k ≠ n) ?_ ?_
  · refine ⟨fun j x h => by omega, ?_, ?_⟩
    · simp [keep_cl, FL]
    · simp [trunc, Da.cs]
  intro i hi hP
  by_cases hlt : i < f.length
  · obtain ⟨x, hfx⟩ : ∃ x, x = f[i] := ⟨_, rfl⟩
    have hg : f[i]? = some x := by rw [List.getElem?_eq_getElem hlt, hfx]
    have hgv := hfx.symm
    have hcs : x.cs = [.int .i64 x.op, .int .i64 x.jt, .int .i64 x.jf, .int .u32 (x.k : Int)] := rfl
    by_cases h32 : x.op = 32
    · have b32 : (x.op == 32) = true := by simp [h32]
      by_cases hkn' : x.k = n
      · simp (disch := omega) [ltT, FL, hg, hgv, hcs, b32, hkn', -Int.natCast_add]
        refine callP_of hkn ?_
        simp
      · have bk : ((x.k : Int) == (n : Int)) = false := beqF (by omega)
        simp (disch := omega) [ltT, FL, hg, hgv, hcs, b32, bk, add1', hlt, keep_cl, trunc, Da.cs, -Int.natCast_add]
        intro j y hj hy h
        by_cases hji : j = i
        · subst hji
          rw [hg] at hy
          cases hy
          exact hkn'
        · exact hP j y (by omega) hy h
    · have b32 : (x.op == 32) = false := beqF h32
      simp (disch := omega) [ltT, FL, hg, hgv, hcs, b32, add1', hlt, keep_cl, trunc, Da.cs, -Int.natCast_add]
      intro j y hj hy h
      by_cases hji : j = i
      · subst hji
        rw [hg] at hy
        cases hy
        exact absurd h h32
      · exact hP j y (by omega) hy h
  · have hne : i = f.length := by omega
    subst hne
    have hru := Run_ok (G := G) f d hf hk hsf hd
    have hwo := with_ok hd (at' := n) hv
    have hru2 := Run_ok (G := G) f (withS d n v) hf hk hsf hwo
    have hwi := With_ok (G := G) d n v hd hn hv
    have hw6 := hwo.2.2.2.1
    have hwt := take_full (k := .u64) hw6
    have heq : run (withS d n v) f St0 = run d f St0 := (run_word _ f St0 (Nat.le_refl _) fun x hx h => by
      obtain ⟨j, hj⟩ := List.getElem?_of_mem hx
      exact (with_word hd hv (hP j x (List.getElem?_eq_some_iff.1 hj).1 hj h)).symm).symm
    rw [heq] at hru2
    simp [FL, DV, Da.cs] at hru hru2 hwi
    simp [FL, h6, ht6, Da.cs]
    refine callP_of hru ?_
    simp [h6, ht6, Da.cs]
    refine callP_of hwi ?_
    simp [h6, ht6, hw6, hwt, Da.cs]
    refine callP_of hru2 ?_
    simp
    refine callP_of hkn ?_
    simp

theorem IL_nil_iff (l : List In4) : (IL l = []) = (l = []) := propext (IL_eq_nil l)
/-- RUNBEHIND: of what is put together in memory that there is. -/
theorem RunBehind_ok [HasWd G] [HasNeg G] [HasIns G] [HasCheck G] [HasData G] [HasStep G] [HasTakes G] [HasRun G] [HasR2 G] [HasR5 G] [HasL6 G] (hkn : FP G 235 [] (.bool true))
    (f l : List In4) (d : Da) (hf : f.length + l.length ≤ 4000000000) (hk : ∀ x ∈ f, x.k < 4294967296) (hkl : ∀ x ∈ l, x.k < 4294967296) (hd : d.ok) : FP G 240 [FL f, FL l, DV d] (.bool true) := by
  refine FP_of HasL6.h_hurdlelaw06_RunBehind (Nat.le_of_ble_eq_true rfl) ?_
  have hmx : (4000000000 : Nat) ≤ maxLen := by decide
  have hfm : f.length ≤ maxLen := by omega
  have hgm : (f ++ l).length ≤ maxLen := by rw [List.length_append]; omega
  have hkg : ∀ x ∈ f ++ l, x.k < 4294967296 := fun x hx => by
    rcases List.mem_append.1 hx with h | h
    · exact hk x h
    · exact hkl x h
  have h6 := hd.2.2.2.1
  have ht6 := take_full (k := .u64) h6
  have hso := SoundR_ok (G := G) f hfm hk
  have hsg := SoundR_ok (G := G) (f ++ l) hgm hkg
  simp [FL] at hso hsg
  have q1 : (f.length * 32 ≤ 140737488355328) = True := eq_true (by omega)
  have q2 : ((f.length + l.length) * 32 ≤ 140737488355328) = True := eq_true (by omega)
  have q3 : (l.length * 32 ≤ 140737488355328) = True := eq_true (by omega)
  by_cases hfe : f = []
  · subst hfe
    have hs0 : soundF [] = false := by decide
    rw [hs0] at hso
    simp at hso
    by_cases hb : l.length > 300
    · have h1 : ((300 : Int) < (l.length : Int)) = True := eq_true (by omega)
      have hle : (l = []) = False := eq_false (by rintro rfl; simp at hb)
      simp [FL, DV, Da.cs, h6, ht6, q3, IL_nil_iff, hle, h1]
      refine callP_of hkn ?_
      simp
    have h1 : ((300 : Int) < (l.length : Int)) = False := eq_false (by omega)
    by_cases hle : l = []
    · subst hle
      simp [FL, DV, Da.cs, h6, ht6]
      refine callP_of hso ?_
      simp
      refine callP_of hkn ?_
      simp
    · simp [FL, DV, Da.cs, h6, ht6, q3, IL_nil_iff, hle, h1]
      refine callP_of hso ?_
      simp
      refine callP_of hkn ?_
      simp
  by_cases hle : l = []
  · subst hle
    rw [List.append_nil] at hsg
    by_cases hb : f.length > 300
    · have h1 : ((300 : Int) < (f.length : Int)) = True := eq_true (by omega)
      simp [FL, DV, Da.cs, h6, ht6, q1, IL_nil_iff, hfe, h1]
      refine callP_of hkn ?_
      simp
    have h1 : ((300 : Int) < (f.length : Int)) = False := eq_false (by omega)
    simp [FL, DV, Da.cs, h6, ht6, q1, IL_nil_iff, hfe, h1]
    refine callP_of hso ?_
    cases hsf : soundF f
    · simp
      refine callP_of hkn ?_
      simp
    have hru := Run_ok (G := G) f d hfm hk hsf hd
    simp [FL, DV, Da.cs] at hru
    rw [hsf] at hso
    simp
    refine callP_of hso ?_
    simp [h6, ht6]
    refine callP_of hru ?_
    simp [h6, ht6]
    refine callP_of hru ?_
    simp
    refine callP_of hkn ?_
    simp
  by_cases hb : f.length + l.length > 300
  · have h1 : ((300 : Int) < (f.length : Int) + (l.length : Int)) = True := eq_true (by omega)
    simp [FL, DV, Da.cs, h6, ht6, q1, q2, IL_nil_iff, IL_append, hfe, hle, h1]
    refine callP_of hkn ?_
    simp
  have h1 : ((300 : Int) < (f.length : Int) + (l.length : Int)) = False := eq_false (by omega)
  simp [FL, DV, Da.cs, h6, ht6, q1, q2, IL_nil_iff, IL_append, hfe, hle, h1]
  refine callP_of hso ?_
  cases hsf : soundF f
  · simp
    refine callP_of hkn ?_
    simp
  simp
  refine callP_of hsg ?_
  cases hsg' : soundF (f ++ l)
  · simp
    refine callP_of hkn ?_
    simp
  have h0 : 0 < f.length := by
    cases f with
    | nil => exact absurd rfl hfe
    | cons => simp
  have hru := Run_ok (G := G) f d hfm hk hsf hd
  have hrg := Run_ok (G := G) (f ++ l) d hgm hkg hsg' hd
  have hbe := run_behind (l := l) d hsf _ 0 St0 (Nat.le_refl _) h0
  simp only [List.drop_zero] at hbe
  rw [hbe] at hrg
  simp [FL, DV, Da.cs] at hru hrg
  simp [h6, ht6]
  refine callP_of hru ?_
  simp [h6, ht6]
  refine callP_of hrg ?_
  simp
  refine callP_of hkn ?_
  simp

/-- RUNJUMPS. -/
theorem RunJumps_ok [HasWd G] [HasNeg G] [HasIns G] [HasCheck G] [HasData G] [HasStep G] [HasTakes G] [HasRun G] [HasR2 G] [HasR5 G] [HasL6 G] (hkn : FP G 235 [] (.bool true))
    (f l : List In4) (d : Da) (hf : f.length ≤ maxLen) (hk : ∀ x ∈ f, x.k < 4294967296) (hl : l.length ≤ maxLen) (hkl : ∀ x ∈ l, x.k < 4294967296) (hd : d.ok) : FP G 241 [FL f, FL l, DV d] (.bool true) := by
  refine FP_of HasL6.h_hurdlelaw06_RunJumps (Nat.le_of_ble_eq_true rfl) ?_
  have h6 := hd.2.2.2.1
  have ht6 := take_full (k := .u64) h6
  by_cases hb : f.length > 300
  · have h1 : ((300 : Int) < (f.length : Int)) = True := eq_true (by omega)
    simp [FL, DV, Da.cs, h6, ht6, h1]
    refine callP_of hkn ?_
    simp
  have h1 : ((300 : Int) < (f.length : Int)) = False := eq_false (by omega)
  by_cases hb2 : l.length > 20
  · have h2 : ((20 : Int) < (l.length : Int)) = True := eq_true (by omega)
    simp [FL, DV, Da.cs, h6, ht6, h1, h2]
    refine callP_of hkn ?_
    simp
  have h2 : ((20 : Int) < (l.length : Int)) = False := eq_false (by omega)
  have hso := SoundR_ok (G := G) f hf hk
  simp [FL] at hso
  cases hsf : soundF f
  · rw [hsf] at hso
    simp [FL, DV, Da.cs, h1, h2, h6, ht6]
    refine callP_of hso ?_
    simp
    refine callP_of hkn ?_
    simp
  rw [hsf] at hso
  have hfe := sound_ne hsf
  obtain ⟨g, hgd⟩ : ∃ g, g = (⟨5, 0, 0, l.length⟩ : In4) :: (l ++ f) := ⟨_, rfl⟩
  have hgl : g.length = 1 + l.length + f.length := by rw [hgd]; simp; omega
  have hmx : (4000000000 : Nat) ≤ maxLen := by decide
  have hkg : ∀ x ∈ g, x.k < 4294967296 := fun x hx => by
    rw [hgd] at hx
    rcases List.mem_cons.1 hx with h | h
    · rw [h]; show l.length < _; omega
    · rcases List.mem_append.1 h with h | h
      · exact hkl x h
      · exact hk x h
  have hsg := SoundR_ok (G := G) g (by omega) hkg
  have hru := Run_ok (G := G) f d hf hk hsf hd
  have hju := run_jump d l f St0
  rw [← hgd] at hju
  have hle := run_le d _ f St0 (Nat.le_refl _)
  have a1 : addI .i64 ((run d f St0).2 : Int) 1 = (((run d f St0).2 + 1 : Nat) : Int) := add1' (by omega)
  have hc : convI .u32 (l.length : Int) = (l.length : Int) := by unfold convI; exact IntWalk.u32_in _ ⟨by omega, by omega⟩
  have q1 : ((1 + l.length) * 32 ≤ 140737488355328) = True := eq_true (by omega)
  have q2 : ((1 + l.length + f.length) * 32 ≤ 140737488355328) = True := eq_true (by omega)
  have q4 : ((1 + f.length) * 32 ≤ 140737488355328) = True := eq_true (by omega)
  have hI : ∀ m : List In4, [V.int .i64 5, .int .i64 0, .int .i64 0, .int .u32 (l.length : Int)] :: IL m = IL ((⟨5, 0, 0, l.length⟩ : In4) :: m) := fun m => rfl
  simp [FL] at hsg
  simp [FL, DV, Da.cs, h1, h2, h6, ht6]
  refine callP_of hso ?_
  simp [FL, DV, Da.cs] at hru
  by_cases hle : l = []
  · subst hle
    simp at hgd hju hI
    have hIf : [V.int .i64 5, .int .i64 0, .int .i64 0, .int .u32 0] :: IL f = IL g := by rw [hgd]; rfl
    simp [convI, show IntKind.u32.wrap 0 = 0 from by decide, q4, IL_nil_iff, hfe, hIf]
    refine callP_of hsg ?_
    cases hsg' : soundF g
    · simp
      refine callP_of hkn ?_
      simp
    have hrg := Run_ok (G := G) g d (by omega) hkg hsg' hd
    rw [hju] at hrg
    simp [FL, DV, Da.cs] at hrg
    simp [h6, ht6]
    refine callP_of hru ?_
    simp [h6, ht6]
    refine callP_of hrg ?_
    simp [a1]
    refine callP_of hkn ?_
    simp
  have hIf : [V.int .i64 5, .int .i64 0, .int .i64 0, .int .u32 (l.length : Int)] :: (IL l ++ IL f) = IL g := by rw [hgd, IL_append]; rfl
  have q2' : ((l.length + 1 + f.length) * 32 ≤ 140737488355328) = True := eq_true (by omega)
  have q5 : (1 + l.length = l.length + 1) = True := eq_true (by omega)
  simp [hc, q1, q2, q2', q5, IL_nil_iff, hfe, hle, hIf, -Int.natCast_add]
  refine callP_of hsg ?_
  cases hsg' : soundF g
  · simp
    refine callP_of hkn ?_
    simp
  have hrg := Run_ok (G := G) g d (by omega) hkg hsg' hd
  rw [hju] at hrg
  simp [FL, DV, Da.cs, -Int.natCast_add] at hrg
  simp [h6, ht6]
  refine callP_of hru ?_
  simp [h6, ht6]
  refine callP_of hrg ?_
  simp [a1, -Int.natCast_add]
  refine callP_of hkn ?_
  simp
end Go.Ev
