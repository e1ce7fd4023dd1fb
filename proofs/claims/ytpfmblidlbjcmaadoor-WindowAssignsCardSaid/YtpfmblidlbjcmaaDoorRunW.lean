/- What holds of runs: of what they hang on, and of filters that are put together. -/
import Derived.Test.YtpfmblidlbjcmaaDoorRun6W
import Derived.Test.YtpfmblidlbjcmaaDoorEvRunC
namespace Go.Ev
open Go Go.RowKit
variable {G : Tbl}
set_option maxRecDepth 10000
set_option maxHeartbeats 2000000
set_option linter.unusedSimpArgs false
set_option linter.unusedVariables false

theorem step_word {d e : Da} (s : St) (x : In4) (h : x.op = 32 → wordS d x.k = wordS e x.k) : stepS s x d = stepS s x e := by
  unfold stepS
  split
  · rfl
  · unfold stepO
    by_cases h32 : x.op = 32
    · rw [h h32]
    · simp only [h32, if_false]
/-- A run hangs on the words that are loaded alone. -/
theorem run_word {d e : Da} : ∀ (n : Nat) (g : List In4) (s : St), g.length ≤ n → (∀ x ∈ g, x.op = 32 → wordS d x.k = wordS e x.k) → run d g s = run e g s
  | _, [], s, _, _ => by rw [run, run]
  | 0, x :: g, s, h, _ => by simp at h
  | n + 1, x :: g, s, h, hw => by
    rw [run_cons, run_cons, step_word s x (hw x (by simp))]
    have ih := run_word n (g.drop (goes s x)) (stepS s x e).1 (by simp at h ⊢; omega) fun y hy => hw y (by simp [List.mem_of_mem_drop hy])
    rw [ih]
/-- What stands behind is never come to. -/
theorem run_behind {f l : List In4} (d : Da) (hs : soundF f = true) : ∀ (n t : Nat) (s : St), f.length - t ≤ n → t < f.length → run d ((f ++ l).drop t) s = run d (f.drop t) s
  | 0, t, s, h, ht => by omega
  | n + 1, t, s, h, ht => by
    have hg : f[t]? = some f[t] := List.getElem?_eq_getElem ht
    have hdr := List.drop_eq_getElem_cons ht
    have hdr2 : (f ++ l).drop t = f[t] :: (f ++ l).drop (t + 1) := by
      rw [List.drop_eq_getElem_cons (by simp; omega), List.getElem_append_left ht]
    generalize f[t] = x at hg hdr hdr2
    rw [hdr, hdr2, run_cons, run_cons]
    by_cases h6 : x.op = 6
    · rw [if_pos h6, if_pos h6]
    by_cases h22 : x.op = 22
    · rw [if_neg h6, if_neg h6, if_pos h22, if_pos h22]
    have he : isEnd x.op = false := by simp [isEnd, h6, h22]
    have hgo := sound_offs hs hg (goes_offs he s)
    have ih := run_behind (l := l) d hs n (t + 1 + goes s x) (stepS s x d).1 (by omega) hgo
    have e1 : ∀ z : List In4, z.drop (t + 1 + goes s x) = (z.drop (t + 1)).drop (goes s x) := fun z => by rw [List.drop_drop]
    rw [e1, e1] at ih
    rw [ih]
/-- A jump over what is never come to. -/
theorem run_jump (d : Da) (l f : List In4) (s : St) : run d (⟨5, 0, 0, l.length⟩ :: (l ++ f)) s = ((run d f s).1, (run d f s).2 + 1) := by
  rw [run_cons]
  have hs : stepS s ⟨5, 0, 0, l.length⟩ d = (s, true) := by
    have : (aluT 5).2.2 = false := by decide
    simp [stepS, stepO, this]
  have hg : goes s ⟨5, 0, 0, l.length⟩ = l.length := by simp [goes]
  rw [hs, hg, List.drop_left]
  simp
theorem run_pos (d : Da) (x : In4) (g : List In4) (s : St) : 1 ≤ (run d (x :: g) s).2 := by
  rw [run_cons]
  split
  · simp
  split
  · simp
  split
  · simp
  · simp
end Go.Ev

/- Records with another word; and branches whose ways are swapped. -/
namespace Go.Ev
open Go Go.RowKit
variable {G : Tbl}
set_option maxRecDepth 10000
set_option maxHeartbeats 2000000
set_option linter.unusedSimpArgs false
set_option linter.unusedVariables false

def two (w : List Nat) (i : Nat) : Nat := w.getD i 0 + w.getD (i + 1) 0 * 4294967296
/-- The record of words. -/
def ofW (w : List Nat) : Da := ⟨w.getD 0 0, w.getD 1 0, two w 2, (List.range 6).map fun i => two w (4 + 2 * i)⟩
def withS (d : Da) (at' v : Nat) : Da := if at' % 4 = 0 ∧ at' < 64 then ofW ((wordsD d).set (at' / 4) v) else d
theorem words_of {w : List Nat} (hl : w.length = 16) (hw : ∀ x ∈ w, x < 4294967296) : wordsD (ofW w) = w := by
  match w, hl with
  | [a0, a1, a2, a3, a4, a5, a6, a7, a8, a9, a10, a11, a12, a13, a14, a15], _ =>
    simp only [List.mem_cons, List.not_mem_nil, or_false, forall_eq_or_imp, forall_eq] at hw
    simp only [wordsD, ofW, two, lo, hi, List.range_succ, List.range_zero, List.nil_append, List.map_append, List.map_cons, List.map_nil, List.cons_append, List.flatMap_cons, List.flatMap_nil, List.getD_cons_zero, List.getD_cons_succ, Nat.mul_zero, Nat.mul_one, Nat.reduceMul, Nat.reduceAdd, List.cons.injEq, and_true, true_and]
    and_intros <;> omega
theorem ofW_ok {w : List Nat} (hl : w.length = 16) (hw : ∀ x ∈ w, x < 4294967296) : (ofW w).ok := by
  have hg : ∀ i, w.getD i 0 < 4294967296 := by
    intro i
    rw [List.getD]
    cases h : w[i]? with
    | none => decide
    | some z => exact hw z (List.mem_of_getElem? h)
  have h2 : ∀ i, two w i < 18446744073709551616 := fun i => by
    have := hg i; have := hg (i + 1); unfold two; omega
  refine ⟨hg 0, hg 1, h2 2, by simp [ofW], fun x hx => ?_⟩
  simp only [ofW, List.mem_map] at hx
  obtain ⟨i, _, rfl⟩ := hx
  exact h2 _
theorem set_lt {l : List Nat} {i v n : Nat} (h : ∀ x ∈ l, x < n) (hv : v < n) : ∀ x ∈ l.set i v, x < n := fun x hx => by
  rcases List.mem_or_eq_of_mem_set hx with h1 | h1
  · exact h x h1
  · rw [h1]; exact hv
theorem with_ok {d : Da} (hd : d.ok) {at' v : Nat} (hv : v < 4294967296) : (withS d at' v).ok := by
  unfold withS
  split
  · exact ofW_ok (by rw [List.length_set]; exact wordsD_len hd.2.2.2.1) (set_lt (wordsD_lt hd) hv)
  · exact hd
/-- Another word is as it was. -/
theorem with_word {d : Da} (hd : d.ok) {at' v k : Nat} (hv : v < 4294967296) (hk : k ≠ at') : wordS (withS d at' v) k = wordS d k := by
  unfold withS
  split
  · rename_i h
    unfold wordS
    rw [words_of (by rw [List.length_set]; exact wordsD_len hd.2.2.2.1) (set_lt (wordsD_lt hd) hv)]
    split
    · rename_i h2
      rw [List.getD, List.getD, List.getElem?_set_ne (by omega)]
    · rfl
  · rfl
end Go.Ev

/- What run.Run and hurdleref06.Run compute. -/
namespace Go.Ev
open Go Go.RowKit
variable {G : Tbl}
set_option maxRecDepth 10000
set_option maxHeartbeats 2000000
set_option linter.unusedSimpArgs false
set_option linter.unusedVariables false

/-- The first state. -/
def St0 : St := ⟨0, 0, zeros 16⟩
theorem st0_ok : St0.ok := ⟨by decide, by decide, by simp [St0], fun w hw => by
  simp only [St0, zeros, List.mem_replicate] at hw
  omega⟩
theorem st0_cs : St0.cs = cnats .u32 (zeros 18) := rfl

theorem RunR_ok [HasR2 G] [hR1 : HasR1 G] [HasR1n G] [HasR4 G] [HasR6s G] [HasR6 G] [HasR6r G] (f : List In4) (d : Da) (hk : ∀ x ∈ f, x.k < 4294967296) (hs : soundF f = true) (hd : d.ok) :
    FP G 234 [FL f, DV d] (.tup [.int .u32 ((run d f St0).1 : Nat), .int .i64 ((run d f St0).2 : Nat)]) := by
  refine FP_of HasR6r.h_hurdleref06_Run (Nat.le_of_ble_eq_true rfl) ?_
  have h0 : 0 < f.length := by
    have := sound_ne hs
    cases f with
    | nil => exact absurd rfl this
    | cons => simp
  have hf := From_ok (G := G) f d hk hs hd _ 0 St0 (Nat.le_refl _) h0 st0_ok
  have h6 := hd.2.2.2.1
  have ht6 := take_full (k := .u64) h6
  simp [SV, st0_cs, FL, DV, Da.cs] at hf
  simp [FL, DV, Da.cs, h6, ht6]
  refine callP_of hf ?_
  simp

theorem Run_no [HasIns G] [HasCheck G] [HasRun G] (f : List In4) (d : Da) (hf : f.length ≤ maxLen) (hk : ∀ x ∈ f, x.k < 4294967296) (hs : soundF f = false) :
    FP G 230 [FL f, DV d] (.tup [.int .u32 0, .int .i64 0, .int .i64 1]) := by
  refine FP_of HasRun.h_run_Run (Nat.le_of_ble_eq_true rfl) ?_
  have hso := Sound_ok (G := G) f hf hk
  rw [hs] at hso
  simp [FL] at hso
  simp [FL, DV, Da.cs]
  refine callP_of hso ?_
  simp

theorem Run_ok [HasWd G] [HasNeg G] [HasIns G] [HasCheck G] [HasData G] [HasStep G] [HasTakes G] [HasRun G] (f : List In4) (d : Da) (hf : f.length ≤ maxLen) (hk : ∀ x ∈ f, x.k < 4294967296) (hs : soundF f = true) (hd : d.ok) :
    FP G 230 [FL f, DV d] (.tup [.int .u32 ((run d f St0).1 : Nat), .int .i64 ((run d f St0).2 : Nat), .int .i64 0]) := by
  refine FP_of HasRun.h_run_Run (Nat.le_of_ble_eq_true rfl) ?_
  have hso := Sound_ok (G := G) f hf hk
  rw [hs] at hso
  have h6 := hd.2.2.2.1
  have ht6 := take_full (k := .u64) h6
  have h0 : 0 < f.length := by
    have := sound_ne hs
    cases f with
    | nil => exact absurd rfl this
    | cons => simp
  have hrl := run_le d _ f St0 (Nat.le_refl _)
  have hl4 : f.length ≤ 4096 := by simp only [soundF, Bool.and_eq_true, decide_eq_true_eq] at hs; exact hs.1.1
  obtain ⟨R, hR⟩ : ∃ R, R = run d f St0 := ⟨_, rfl⟩
  rw [← hR] at hrl ⊢
  simp [FL] at hso
  simp [FL, DV, Da.cs]
  refine callP_of hso ?_
  simp
  refine W_state (fun z : St × Nat × Nat => f.length - z.2.1)
    (fun z => [(0, FL f), (3, .ptr 0 0), (7, .ptr 1 0), (8, .int .u32 0), (9, .int .i64 z.2.1), (10, .int .i64 z.2.2)])
    (fun z => [some (.cells d.cs), some (.cells z.1.cs)])
    (fun z => z.2.1 < f.length ∧ z.1.ok ∧ (run d (f.drop z.2.1) z.1).1 = R.1 ∧ z.2.2 + (run d (f.drop z.2.1) z.1).2 = R.2) (St0, 0, 0) ?_ ?_
  · refine ⟨⟨h0, st0_ok, by simp [hR], by simp [hR]⟩, ?_, ?_⟩
    · simp [keep_cl, FL]
    · simp [trunc, Da.cs, st0_cs]
  rintro ⟨s, t, n⟩ ⟨ht, hso2, hr1, hr2⟩
  simp only at ht hso2 hr1 hr2
  have hg : f[t]? = some f[t] := List.getElem?_eq_getElem ht
  have hgg := FL_get ht
  have hxm : f[t] ∈ f := List.getElem_mem ht
  have hdr := List.drop_eq_getElem_cons ht
  obtain ⟨x, hfx⟩ : ∃ x, x = f[t] := ⟨_, rfl⟩
  rw [← hfx] at hg hgg hxm hdr
  have hfx := hfx.symm
  have hkk := hk x hxm
  have hcs : x.cs = [.int .i64 x.op, .int .i64 x.jt, .int .i64 x.jf, .int .u32 (x.k : Int)] := rfl
  have hbo := sound_br hs hg
  have hbr := Branch_ok (G := G) x
  have hta := Takes_ok (G := G) s x hso2 hkk
  have hst := Step_ok (G := G) s x d hso2 hkk hd
  have hl := hso2.2.2.1
  have htk := take_full (k := .u32) hl
  have hc := convI64 x.k hkk
  have hso3 := stepS_ok' hso2 hkk hd
  have hl2 := hso3.2.2.1
  have htk2 := take_full (k := .u32) hl2
  have a1 : addI .i64 (t : Int) 1 = ((t + 1 : Nat) : Int) := add1' (by omega)
  have a2 : addI .i64 (n : Int) 1 = ((n + 1 : Nat) : Int) := add1' (by omega)
  rw [hdr, run_cons] at hr1 hr2
  simp [SV, IV, DV, FL, hcs, St.cs, Da.cs] at hbr hta hst
  by_cases e6 : x.op = 6
  · simp only [e6, if_true] at hr1 hr2
    simp (disch := omega) [ltT, FL, hgg, hg, hfx, hcs, e6, a1, a2, -Int.natCast_add]
    rw [← hr1, ← hr2]
    simp
  have b6 : (x.op == 6) = false := beqF e6
  by_cases e22 : x.op = 22
  · simp only [e6, e22, if_true] at hr1 hr2
    simp (disch := omega) [ltT, FL, hgg, hg, hfx, hcs, e22, a1, a2, St.cs, -Int.natCast_add]
    rw [← hr1, ← hr2]
    simp
  have b22 : (x.op == 22) = false := beqF e22
  have he : isEnd x.op = false := by simp [isEnd, e6, e22]
  have hgo := sound_offs hs hg (goes_offs he s)
  simp only [e6, e22, if_false, List.drop_drop] at hr1 hr2
  by_cases h5 : x.op = 5
  · have b5 : (x.op == 5) = true := by simp [h5]
    have hgg5 : goes s x = x.k := by simp [goes, h5]
    have hstp : stepS s x d = (s, true) := by
      have : (aluT 5).2.2 = false := by decide
      simp [stepS, stepO, h5, this]
    rw [hgg5] at hgo hr1 hr2
    rw [hstp] at hr1 hr2
    simp only [if_true] at hr1 hr2
    have a3 : addI .i64 ((t + 1 : Nat) : Int) (x.k : Int) = ((t + 1 + x.k : Nat) : Int) := addN (by omega)
    simp (disch := omega) [ltT, FL, hgg, hg, hfx, hcs, b6, b22, b5, hc, a1, a2, a3, -Int.natCast_add]
    refine ⟨(s, t + 1 + x.k, n + 1), ?_⟩
    refine ⟨by simp only; omega, ⟨hgo, hso2, hr1, by simp only; omega⟩, ?_, ?_⟩
    · simp [keep_cl, FL, -Int.natCast_add]
    · simp [trunc, Da.cs, St.cs]
  have b5 : (x.op == 5) = false := beqF h5
  simp (disch := omega) [ltT, FL, hgg, hg, hfx, hcs, b6, b22, b5, a1, a2, -Int.natCast_add]
  refine callP_of hbr ?_
  cases hb : isBr x.op
  · have hgg5 : goes s x = 0 := by simp [goes, h5, hb]
    rw [hgg5] at hgo hr1 hr2
    simp only [Nat.add_zero] at hgo hr1 hr2
    simp (disch := omega) [hl, htk, h6, ht6, St.cs, Da.cs, -Int.natCast_add]
    refine callP_of hst ?_
    cases hok : (stepS s x d).2
    · rw [hok] at hr1 hr2
      simp only [Bool.false_eq_true, if_false] at hr1 hr2
      simp [hl2, htk2, -Int.natCast_add]
      rw [← hr1, ← hr2]
      simp
    · rw [hok] at hr1 hr2
      simp only [if_true] at hr1 hr2
      simp (disch := omega) [hl2, htk2, hl, htk, St.cs, -Int.natCast_add]
      refine ⟨((stepS s x d).1, t + 1, n + 1), ?_⟩
      refine ⟨by simp only; omega, ⟨hgo, hso3, hr1, by simp only; omega⟩, ?_, ?_⟩
      · simp [keep_cl, FL, -Int.natCast_add]
      · have hdf := drop_full (k := .u32) hl
        simp [trunc, Da.cs, St.cs, hl2, htk2, hl, htk, hdf]
  obtain ⟨b1, b2, b3, b4⟩ := hbo hb
  have hstp : stepS s x d = (s, true) := by
    rcases br_two hb with h | h | h | h | h | h | h | h <;>
    · have : (aluT x.op).2.2 = false := by rw [h]; decide
      unfold stepS
      rw [this]
      simp [stepO, h]
  rw [hstp] at hr1 hr2
  simp only [if_true] at hr1 hr2
  simp (disch := omega) [hl, htk, St.cs, -Int.natCast_add]
  refine callP_of hta ?_
  cases htb : takesB s x
  · have hgg5 : goes s x = x.jf.toNat := by simp [goes, h5, hb, htb]
    rw [hgg5] at hgo hr1 hr2
    have a3 : addI .i64 ((t + 1 : Nat) : Int) x.jf = ((t + 1 + x.jf.toNat : Nat) : Int) := by rw [addI64] <;> omega
    simp (disch := omega) [a3, -Int.natCast_add]
    refine ⟨(s, t + 1 + x.jf.toNat, n + 1), ?_⟩
    refine ⟨by simp only; omega, ⟨hgo, hso2, hr1, by simp only; omega⟩, ?_, ?_⟩
    · simp [keep_cl, FL, -Int.natCast_add]
    · simp [trunc, Da.cs, St.cs]
  · have hgg5 : goes s x = x.jt.toNat := by simp [goes, h5, hb, htb]
    rw [hgg5] at hgo hr1 hr2
    have a3 : addI .i64 ((t + 1 : Nat) : Int) x.jt = ((t + 1 + x.jt.toNat : Nat) : Int) := by rw [addI64] <;> omega
    simp (disch := omega) [a3, -Int.natCast_add]
    refine ⟨(s, t + 1 + x.jt.toNat, n + 1), ?_⟩
    refine ⟨by simp only; omega, ⟨hgo, hso2, hr1, by simp only; omega⟩, ?_, ?_⟩
    · simp [keep_cl, FL, -Int.natCast_add]
    · simp [trunc, Da.cs, St.cs]
end Go.Ev

/- What data.With computes. -/
namespace Go.Ev
open Go Go.RowKit
variable {G : Tbl}
set_option maxRecDepth 10000
set_option maxHeartbeats 2000000
set_option linter.unusedSimpArgs false
set_option linter.unusedVariables false

theorem take3 (a b c : V) (l : List V) (n : Nat) : (a :: b :: c :: l).take (3 + n) = a :: b :: c :: l.take n := by rw [Nat.add_comm]; rfl
theorem drop3 (a b c : V) (l : List V) (n : Nat) : (a :: b :: c :: l).drop (3 + n) = l.drop n := by rw [Nat.add_comm]; rfl
theorem drop31 (a b c : V) (l : List V) (n : Nat) : (a :: b :: c :: l).drop (3 + n + 1) = l.drop (n + 1) := by rw [show 3 + n + 1 = (n + 1) + 3 by omega]; rfl

theorem drop32 (b c : V) (l : List V) (n : Nat) : (b :: c :: l).drop (3 + n) = l.drop (n + 1) := by rw [show 3 + n = (n + 1) + 2 by omega]; rfl
theorem two_or {w : List Nat} (hw : ∀ x ∈ w, x < 4294967296) (i : Nat) : orI .u64 ((w.getD i 0 : Nat) : Int) (shlI .u64 ((w.getD (i + 1) 0 : Nat) : Int) 32) = ((two w i : Nat) : Int) := by
  have hg : ∀ i, w.getD i 0 < 4294967296 := by
    intro i
    rw [List.getD]
    cases h : w[i]? with
    | none => decide
    | some z => exact hw z (List.mem_of_getElem? h)
  exact or_two _ _ (hg i) (hg (i + 1))

def ZD : List V := [.int .u32 0, .int .u32 0, .int .u64 0, .int .u64 0, .int .u64 0, .int .u64 0, .int .u64 0, .int .u64 0, .int .u64 0]
/-- What holds words, and a place in them, and a record. -/
def HG (w : List Nat) (n : Nat) (a b c : Nat) (l : List Nat) : Heap := [some (.cells (cnats .u32 w)), some (.cells ZD), some (.cells [.int .i64 n]), some (.cells (.int .u32 (a : Int) :: .int .u32 (b : Int) :: .int .u64 (c : Int) :: cnats .u64 l))]
theorem get_ok [HasWith G] (w : List Nat) (n a b c : Nat) (l : List Nat) (hl : w.length = 16) (hw : ∀ x ∈ w, x < 4294967296) (hn : n + 1 < 16) :
    Big G (.F 231 [.ptr 0 0, .ptr 2 0] (HG w n a b c l) (.int .u64 (two w n : Nat)) (HG w (n + 2) a b c l)) := by
  have c1 := cnats_get .u32 w n (by omega)
  have c2 := cnats_get .u32 w (n + 1) (by omega)
  have d1 : w.getD n 0 = w[n] := by simp [List.getD, List.getElem?_eq_getElem (show n < w.length by omega)]
  have d2 : w.getD (n + 1) 0 = w[n + 1] := by simp [List.getD, List.getElem?_eq_getElem (show n + 1 < w.length by omega)]
  have ho := two_or hw n
  rw [d1, d2] at ho
  have l1 := hw _ (List.getElem_mem (show n < w.length by omega))
  have l2 := hw _ (List.getElem_mem (show n + 1 < w.length by omega))
  have v1 := convU w[n] (by omega)
  have v2 := convU w[n + 1] (by omega)
  have e1 : addI .i64 (n : Int) 1 = ((n + 1 : Nat) : Int) := add1' (by omega)
  have e2 : addI .i64 (n : Int) 2 = ((n + 2 : Nat) : Int) := addL (n := 2) (by omega)
  have i1 : ((n : Int) < 16) = True := ltT (by omega)
  have i2 : (((n + 1 : Nat) : Int) < 16) = True := ltT (by omega)
  have j1 : (n + 1 ≤ 16) = True := leTn (by omega)
  have j2 : (n + 1 + 1 ≤ 16) = True := leTn (by omega)
  have j3 : (n ≤ 14) = True := leTn (by omega)
  refine F_of HasWith.h_data_of_1 (Nat.le_of_ble_eq_true rfl) ?_
  simp [HG, ZD, e1, e2, i1, i2, j1, j2, j3, c1, c2, v1, v2, ho, hl, -Int.natCast_add]

def fillA (w : List Nat) (i : Nat) : List Nat := (List.range 6).map fun j => if j < i then two w (4 + 2 * j) else 0
theorem fillA_len (w : List Nat) (i : Nat) : (fillA w i).length = 6 := by simp [fillA]
theorem fillA_step (w : List Nat) {i : Nat} (hi : i < 6) : (fillA w i).set i (two w (4 + 2 * i)) = fillA w (i + 1) := by
  apply List.ext_getElem?
  intro j
  rw [List.getElem?_set, fillA_len]
  by_cases h : i = j
  · subst h
    simp [fillA, hi]
  · rw [if_neg h]
    by_cases hj : j < 6
    · simp only [fillA, List.getElem?_map, List.getElem?_range hj, Option.map_some]
      by_cases h2 : j < i
      · simp [h2, show j < i + 1 by omega]
      · simp [h2, show ¬ j < i + 1 by omega]
    · simp [fillA, hj]
theorem fillA_6 (w : List Nat) : fillA w 6 = (ofW w).args := by
  simp only [fillA, ofW]
  apply List.map_congr_left
  intro j hj
  simp [List.mem_range.1 hj]
theorem fillA_0 (w : List Nat) : fillA w 0 = zeros 6 := by
  simp [fillA, zeros, List.range_succ]

theorem of_ok' [HasWith G] (w : List Nat) (hl : w.length = 16) (hw : ∀ x ∈ w, x < 4294967296) : FP G 232 [.agg (cnats .u32 w)] (DV (ofW w)) := by
  refine FP_of HasWith.h_data_of (Nat.le_of_ble_eq_true rfl) ?_
  have htw := take_full (k := .u32) hl
  have c0 : (cnats .u32 w).take 1 = [.int .u32 (w[0] : Nat)] := by have := cnats_get .u32 w 0 (by omega); rwa [List.drop_zero] at this
  have c1 : (cnats .u32 w).tail.take 1 = [.int .u32 (w[1] : Nat)] := by have := cnats_get .u32 w 1 (by omega); rwa [List.drop_one] at this
  have c2 := cnats_get .u32 w 2 (by omega)
  have c3 := cnats_get .u32 w 3 (by omega)
  have d : ∀ i (h : i < 16), w.getD i 0 = w[i] := fun i h => by simp [List.getD, List.getElem?_eq_getElem (show i < w.length by omega)]
  have ho := two_or hw 2
  rw [d 2 (by omega), d 3 (by omega)] at ho
  have l2 := hw _ (List.getElem_mem (show 2 < w.length by omega))
  have l3 := hw _ (List.getElem_mem (show 3 < w.length by omega))
  have v2 := convU w[2] (by omega)
  have v3 := convU w[3] (by omega)
  simp [c0, c1, c2, c3, v2, v3, ho, hl, htw]
  refine W_up 6 (fun i => [(2, .ptr 1 0), (4, .fn 231 [.ptr 0 0, .ptr 2 0]), (5, .ptr 3 0), (21, .int .i64 i)])
    (fun i => HG w (4 + 2 * i) w[0] w[1] (two w 2) (fillA w i)) (fun _ => True) ?_ ?_
  · have hz6 : cnats .u64 (zeros 6) = [.int .u64 0, .int .u64 0, .int .u64 0, .int .u64 0, .int .u64 0, .int .u64 0] := rfl
    simp [keep_cl, trunc, HG, ZD, fillA_0, hz6, hl, htw]
  intro i hi _
  by_cases hlt : i < 6
  · have hg := get_ok (G := G) w (4 + 2 * i) w[0] w[1] (two w 2) (fillA w i) hl hw (by omega)
    have hfl := fillA_len w i
    have cs := cnats_set .u64 (fillA w i) i (two w (4 + 2 * i)) (by omega)
    rw [fillA_step w hlt] at cs
    simp [HG, ZD, -Int.natCast_add, -Int.natCast_mul] at hg
    simp (disch := omega) [ltT, leTn, HG, ZD, -Int.natCast_add, -Int.natCast_mul]
    refine callV_of hg (by simp) ?_
    simp (disch := omega) [trunc, take3, drop3, drop31, drop32, hfl, cs, ltT, leTn, add1', hlt, keep_cl, show 4 + 2 * (i + 1) = 4 + 2 * i + 2 from by omega, -Int.natCast_add, -Int.natCast_mul]
  · have hne : i = 6 := by omega
    subst hne
    have h6 := fillA_6 w
    have h6l := fillA_len w 6
    have ht6 := take_full (k := .u64) h6l
    have e0 := d 0 (by omega)
    have e1 := d 1 (by omega)
    simp [HG, ZD, DV, Da.cs, h6l, ht6]
    rw [← h6]
    simp [ofW, hl]

theorem With_ok [HasData G] [HasWith G] (d : Da) (n v : Nat) (hd : d.ok) (hn : n < 4294967296) (hv : v < 4294967296) : FP G 233 [DV d, .int .u32 n, .int .u32 v] (DV (withS d n v)) := by
  refine FP_of HasWith.h_data_With (Nat.le_of_ble_eq_true rfl) ?_
  have hw := words_ok (G := G) d hd
  have ht := take_full (k := .u64) hd.2.2.2.1
  have h6 := hd.2.2.2.1
  simp [DV, Da.cs] at hw ⊢
  refine callP_of (there_ok n hn) ?_
  by_cases h : n % 4 = 0 ∧ n < 64
  · have hq : quoI .u32 (n : Int) 4 = ((n / 4 : Nat) : Int) := quo32 (b := 4) hn (by decide)
    have hl := wordsD_len h6
    have htw := take_full (k := .u32) hl
    have cs := cnats_set .u32 (wordsD d) (n / 4) v (by omega)
    have hl2 : ((wordsD d).set (n / 4) v).length = 16 := by rw [List.length_set]; exact hl
    have htw2 := take_full (k := .u32) hl2
    have hof := of_ok' (G := G) ((wordsD d).set (n / 4) v) hl2 (set_lt (wordsD_lt hd) hv)
    have ho6 : (ofW ((wordsD d).set (n / 4) v)).args.length = 6 := by simp [ofW]
    have ht2 := take_full (k := .u64) ho6
    simp [DV, Da.cs] at hof
    simp [h, h6, ht, withS]
    refine callP_of hw ?_
    simp (disch := omega) [hq, ltT, leTn, hl, htw, cs, hl2, htw2, -Int.natCast_ediv]
    refine callP_of hof ?_
    simp [ho6, ht2]
  · simp [h, withS, h6, ht]
end Go.Ev
