/- A filter with another window: splice.Put. -/
import Derived.Test.YtnlhnffijidioaaDoorWinC
namespace Go.Ev
open Go Go.RowKit
variable {G : Tbl}
set_option maxRecDepth 10000
set_option maxHeartbeats 2000000
set_option linter.unusedSimpArgs false
set_option linter.unusedVariables false

/-- Over how many is gone, behind the change. -/
def adjN (a e less i d : Nat) : Nat := if i < a ∧ e ≤ i + 1 + d then d - less else d
def putI (a e less i : Nat) (x : In4) : In4 := if x.op = 5 then { x with k := adjN a e less i x.k } else if isBr x.op then { x with jt := (adjN a e less i x.jt.toNat : Nat), jf := (adjN a e less i x.jf.toNat : Nat) } else x
def pre (f : List In4) (a e less m : Nat) : List In4 := (List.range m).map fun i => putI a e less i (f.getD i RET)
def putL (f : List In4) (a n : Nat) (w : List In4) : List In4 := pre f a (a + n) (n - w.length) a ++ w ++ f.drop (a + n)
def okPut (f : List In4) (a n : Int) (w : List In4) : Bool := freeZ f a n && winB w && decide ((w.length : Int) ≤ n)
/-- What is put together ahead of a place. -/
def outAt (f : List In4) (a n : Nat) (w : List In4) (i : Nat) : List In4 :=
  if i ≤ a then pre f a (a + n) (n - w.length) i else pre f a (a + n) (n - w.length) a ++ w ++ (f.take i).drop (a + n)
theorem pre_succ (f : List In4) (a e less m : Nat) : pre f a e less (m + 1) = pre f a e less m ++ [putI a e less m (f.getD m RET)] := by simp [pre, List.range_succ]
theorem pre_len (f : List In4) (a e less m : Nat) : (pre f a e less m).length = m := by simp [pre]
theorem outAt_len {f : List In4} {a n : Nat} {w : List In4} {i : Nat} (hi : i ≤ f.length) (hw : w.length ≤ 32) : (outAt f a n w i).length ≤ i + 32 := by
  unfold outAt
  split
  · rw [pre_len]; omega
  · simp only [List.length_append, pre_len, List.length_drop, List.length_take]; omega
theorem outAt_end {f : List In4} {a n : Nat} {w : List In4} (h : a + n ≤ f.length) (hn : 0 < n) : outAt f a n w f.length = putL f a n w := by
  rw [outAt, if_neg (by omega), List.take_length, putL]
theorem over_ok [HasSpl G] (a e less i d : Nat) (z : Blk) (y : List V) (hi : i ≤ 5000) (hd : d < 4294967296) (hl : less ≤ d + 5000) (hle : i < a → e ≤ i + 1 + d → less ≤ d) :
    Big G (.F 207 [.int .i64 i, .int .i64 d, .ptr 0 0, .ptr 1 0, .ptr 2 0] [some (.cells [.int .i64 a]), some (.cells [.int .i64 e]), some (.cells [.int .i64 less]), some z, some (.cells y)] (.int .i64 (adjN a e less i d : Nat))
      [some (.cells [.int .i64 a]), some (.cells [.int .i64 e]), some (.cells [.int .i64 less]), some z, some (.cells y)]) := by
  refine F_of HasSpl.h_splice_Put_1 (Nat.le_of_ble_eq_true rfl) ?_
  have a1 : addI .i64 (i : Int) 1 = ((i + 1 : Nat) : Int) := add1' (by omega)
  have a2 : addI .i64 ((i + 1 : Nat) : Int) (d : Int) = ((i + 1 + d : Nat) : Int) := addN (by omega)
  by_cases h1 : i < a
  · by_cases h2 : e ≤ i + 1 + d
    · have s1 : subI .i64 (d : Int) (less : Int) = ((adjN a e less i d : Nat) : Int) := by
        have := hle h1 h2
        rw [adjN, if_pos ⟨h1, h2⟩, subI64] <;> omega
      have h2' : ((e : Int) ≤ ((i + 1 + d : Nat) : Int)) = True := eq_true (by omega)
      simp [h1, a1, a2, h2', s1, -Int.natCast_add]
    · have s1 : adjN a e less i d = d := by rw [adjN, if_neg (by omega)]
      have h2' : ((e : Int) ≤ ((i + 1 + d : Nat) : Int)) = False := eq_false (by omega)
      simp [h1, a1, a2, h2', s1, -Int.natCast_add]
  · have s1 : adjN a e less i d = d := by rw [adjN, if_neg (by omega)]
    simp [h1, s1]
/-- Where what is gone over reaches behind the piece, it is as long. -/
theorem less_le {f : List In4} {a n less i : Nat} (hfr : freeN f a n = true) (hl : less ≤ n) (d : Nat) (h1 : i < a) (h2 : a + n ≤ i + 1 + d) : less ≤ d := by omega

theorem Put_no [HasIns G] [HasCheck G] [HasWRight G] [HasSpl G] (f w : List In4) (a n : Int) (hf : f.length ≤ maxLen) (hw : w.length ≤ maxLen) (hk : ∀ x ∈ f, x.k < 4294967296) (hkw : ∀ x ∈ w, x.k < 4294967296) (h : okPut f a n w = false) :
    FP G 208 [FL f, .int .i64 a, .int .i64 n, FL w] (.tup [.vs [] .no, .int .i64 1]) := by
  refine FP_of HasSpl.h_splice_Put (Nat.le_of_ble_eq_true rfl) ?_
  have hfr := Free_ok (G := G) f a n hf hk
  have hwr := WRight_ok (G := G) w hw hkw
  simp only [FL] at hfr hwr
  simp [FL]
  refine callP_of hfr ?_
  cases h1 : freeZ f a n
  · simp
  simp
  refine callP_of hwr ?_
  cases h2 : winB w
  · simp
  have h3 : ((n : Int) < (w.length : Int)) = True := by
    simp only [okPut, h1, h2, Bool.true_and, decide_eq_false_iff_not] at h
    exact eq_true (by omega)
  simp [h3]
theorem Put_ok [HasIns G] [HasCheck G] [HasWRight G] [HasSpl G] (f w : List In4) (a n : Nat) (hf : f.length ≤ maxLen) (hw : w.length ≤ maxLen) (hk : ∀ x ∈ f, x.k < 4294967296) (hkw : ∀ x ∈ w, x.k < 4294967296) (h : okPut f a n w = true) :
    FP G 208 [FL f, .int .i64 a, .int .i64 n, FL w] (.tup [.vs (IL (putL f a n w)) .no, .int .i64 0]) := by
  refine FP_of HasSpl.h_splice_Put (Nat.le_of_ble_eq_true rfl) ?_
  have hfr := Free_ok (G := G) f a n hf hk
  have hwr := WRight_ok (G := G) w hw hkw
  simp only [okPut, Bool.and_eq_true, decide_eq_true_eq] at h
  obtain ⟨⟨h1, h2⟩, h3⟩ := h
  rw [h1] at hfr
  rw [h2] at hwr
  simp only [freeZ, freeR, inB, Bool.and_eq_true, decide_eq_true_eq] at h1
  obtain ⟨hs, ⟨_, i2, i3, i4⟩, hfn⟩ := h1
  simp only [Int.toNat_natCast] at hfn
  have hlen := sound_le hs
  have hw32 : w.length ≤ 32 := by simp only [winB, Bool.and_eq_true, decide_eq_true_eq] at h2; exact h2.1
  have hbd : a + n ≤ f.length := by omega
  have h3' : ((n : Int) < (w.length : Int)) = False := eq_false (by omega)
  have aa : addI .i64 (a : Int) (n : Int) = ((a + n : Nat) : Int) := addN (by omega)
  have ss : subI .i64 (n : Int) (w.length : Int) = ((n - w.length : Nat) : Int) := by rw [subI64] <;> omega
  simp only [FL] at hfr hwr
  simp [FL]
  refine callP_of hfr ?_
  simp
  refine callP_of hwr ?_
  simp [h3', aa, ss, -Int.natCast_add]
  obtain ⟨T, hT⟩ : ∃ T : Nat → List In4, ∀ j, T j = outAt f a n w j := ⟨_, fun _ => rfl⟩
  have hT0 : T 0 = [] := by rw [hT, outAt, if_pos (by omega)]; rfl
  refine W_up f.length (fun i => [(3, FL w), (5, .ptr 0 0), (10, .ptr 1 0), (12, .fn 207 [.ptr 0 0, .ptr 1 0, .ptr 2 0]), (13, .vs (IL (T i)) (.own 3)), (40, FL f), (41, .int .i64 f.length), (42, .int .i64 i)])
    (fun i => [some (.cells [.int .i64 a]), some (.cells [.int .i64 ((a + n : Nat) : Int)]), some (.cells [.int .i64 ((n - w.length : Nat) : Int)]), some (.zone (T i).length)]) (fun _ => True) ?_ ?_
  · simp [keep_cl, trunc, FL, hT0]
  intro i hi _
  by_cases hlt : i < f.length
  · have hTl : (T i).length ≤ i + 32 := by rw [hT]; exact outAt_len hi hw32
    obtain ⟨x, hfx⟩ : ∃ x, x = f[i] := ⟨_, rfl⟩
    have hgg := FL_get hlt
    rw [← hfx] at hgg
    have hfx := hfx.symm
    have hg : f[i]? = some x := by rw [List.getElem?_eq_getElem hlt, hfx]
    have hD : f.getD i RET = x := by rw [List.getD, hg]; rfl
    have hxm : x ∈ f := hfx ▸ List.getElem_mem hlt
    have hkk := hk x hxm
    have hbo := sound_br hs hg
    have hcs : x.cs = [.int .i64 x.op, .int .i64 x.jt, .int .i64 x.jf, .int .u32 (x.k : Int)] := rfl
    have hbr := Branch_ok (G := G) x
    simp [IV, hcs] at hbr
    have hend : ((a : Int) ≤ (i : Int)) = (a ≤ i) := propext (by omega)
    by_cases hia : i = a
    · have e1 : ((i : Int) == (a : Int)) = true := by simp [hia]
      have hTs : T (i + 1) = T i ++ w := by
        rw [hT, hT, outAt, outAt, if_neg (by omega), if_pos (by omega), hia]
        rw [List.drop_eq_nil_of_le (by rw [List.length_take]; omega)]; simp
      have hTl2 : (T (i + 1)).length = (T i).length + w.length := by rw [hTs]; simp
      have hE : ((i : Int) < ((a + n : Nat) : Int)) = True := eq_true (by omega)
      have hG : ((a : Int) ≤ (i : Int)) = True := eq_true (by omega)
      have hap : IL (T i) ++ IL w = IL (T (i + 1)) := by rw [IL_append, hTs]
      by_cases hw0 : w = []
      · subst hw0
        have hTe : T (i + 1) = T i := by rw [hTs]; simp
        simp (disch := omega) [ltT, FL, hgg, hfx, hcs, e1, hE, hG, hTe, hlt, add1', keep_cl, trunc, -Int.natCast_add]
      · simp (disch := omega) [ltT, FL, hgg, hfx, hcs, e1, hE, hG, IL_eq_nil, hw0, leTn, hap, hTl2, hlt, add1', keep_cl, trunc, -Int.natCast_add]
    have e1 : ((i : Int) == (a : Int)) = false := beqF (by omega)
    by_cases hmid : a ≤ i ∧ i < a + n
    · have hTe : T (i + 1) = T i := by
        rw [hT, hT, outAt, outAt, if_neg (by omega), if_neg (by omega)]
        rw [List.drop_eq_nil_of_le (by rw [List.length_take]; omega), List.drop_eq_nil_of_le (by rw [List.length_take]; omega)]
      have hE : ((i : Int) < ((a + n : Nat) : Int)) = True := eq_true (by omega)
      have hG : ((a : Int) ≤ (i : Int)) = True := eq_true (by omega)
      simp (disch := omega) [ltT, FL, hgg, hfx, hcs, e1, hE, hG, hTe, hlt, add1', keep_cl, trunc, -Int.natCast_add]
    have hTs : T (i + 1) = T i ++ [putI a (a + n) (n - w.length) i x] := by
      rw [hT, hT]
      by_cases hlo : i < a
      · rw [outAt, outAt, if_pos (by omega), if_pos (by omega), pre_succ, hD]
      · have hadj : ∀ d, adjN a (a + n) (n - w.length) i d = d := fun d => by rw [adjN, if_neg (by omega)]
        have hpx : putI a (a + n) (n - w.length) i x = x := by
          unfold putI
          simp only [hadj]
          obtain ⟨op, jt, jf, k⟩ := x
          by_cases h5 : op = 5
          · simp [h5]
          · cases hbx : isBr op
            · simp [h5]
            · obtain ⟨b1, b2, b3, b4⟩ := hbo hbx
              simp only at b1 b2 b3 b4
              simp [h5]; omega
        have hdr : (f.take (i + 1)).drop (a + n) = (f.take i).drop (a + n) ++ [x] := by
          rw [List.take_add_one, hg, Option.toList_some, List.drop_append_of_le_length (by rw [List.length_take]; omega)]
        rw [hpx, outAt, outAt, if_neg (by omega), hdr]
        by_cases hia2 : i ≤ a
        · omega
        · rw [if_neg hia2, ← List.append_assoc]
    have hTl2 : (T (i + 1)).length = (T i).length + 1 := by rw [hTs]; simp
    have ho : ∀ d : Nat, d < 4294967296 → _ := fun d hd => over_ok (G := G) a (a + n) (n - w.length) i d (.zone (T i).length) x.cs (by omega) hd (by omega) (fun h1 h2 => by omega)
    have hadl : ∀ d : Nat, adjN a (a + n) (n - w.length) i d ≤ d := fun d => by unfold adjN; split <;> omega
    have hsn : ∀ y : In4, y = putI a (a + n) (n - w.length) i x → IL (T i) ++ [y.cs] = IL (T (i + 1)) := fun y hy => by rw [hTs, hy]; exact IL_snoc _ _
    by_cases hai : a ≤ i
    · have hG : ((a : Int) ≤ (i : Int)) = True := eq_true (by omega)
      have hE : ((i : Int) < ((a + n : Nat) : Int)) = False := eq_false (by omega)
      by_cases h5 : x.op = 5
      · have b5 : (x.op == 5) = true := by simp [h5]
        have hc := convI64 x.k hkk
        have hov := ho x.k hkk
        have hc2 : convI .u32 ((adjN a (a + n) (n - w.length) i x.k : Nat) : Int) = ((adjN a (a + n) (n - w.length) i x.k : Nat) : Int) := by unfold convI; exact wrap_nat32 (by have := hadl x.k; omega)
        have hap := hsn ⟨x.op, x.jt, x.jf, adjN a (a + n) (n - w.length) i x.k⟩ (by simp [putI, h5])
        simp only [In4.cs] at hov hap
        simp (disch := omega) [ltT, FL, hgg, hfx, hcs, e1, hG, hE, b5, hc, -Int.natCast_add]
        refine callV_of hov (by simp) ?_
        simp (disch := omega) [trunc, hc2, leTn, hap, hTl2, hlt, add1', keep_cl, -Int.natCast_add]
      have b5 : (x.op == 5) = false := beqF h5
      simp (disch := omega) [ltT, FL, hgg, hfx, hcs, e1, hG, hE, b5, -Int.natCast_add]
      refine callP_of hbr ?_
      cases hbx : isBr x.op
      · have hap := hsn x (by simp [putI, h5, hbx])
        simp only [In4.cs] at hap
        simp (disch := omega) [leTn, hap, hTl2, hlt, add1', keep_cl, trunc, -Int.natCast_add]
      · obtain ⟨b1, b2, b3, b4⟩ := hbo hbx
        have hov := ho x.jt.toNat (by omega)
        have hov2 := ho x.jf.toNat (by omega)
        have hap := hsn ⟨x.op, (adjN a (a + n) (n - w.length) i x.jt.toNat : Nat), (adjN a (a + n) (n - w.length) i x.jf.toNat : Nat), x.k⟩ (by simp [putI, h5, hbx])
        have j1 : ((x.jt.toNat : Nat) : Int) = x.jt := by omega
        have j2 : ((x.jf.toNat : Nat) : Int) = x.jf := by omega
        simp only [In4.cs, j1, j2] at hov hov2 hap
        simp
        refine callV_of hov (by simp [trunc]) ?_
        simp [trunc]
        refine callV_of hov2 (by simp [trunc]) ?_
        simp (disch := omega) [trunc, leTn, hap, hTl2, hlt, add1', keep_cl, -Int.natCast_add]
        omega
    · have hG : ((a : Int) ≤ (i : Int)) = False := eq_false (by omega)
      by_cases h5 : x.op = 5
      · have b5 : (x.op == 5) = true := by simp [h5]
        have hc := convI64 x.k hkk
        have hov := ho x.k hkk
        have hc2 : convI .u32 ((adjN a (a + n) (n - w.length) i x.k : Nat) : Int) = ((adjN a (a + n) (n - w.length) i x.k : Nat) : Int) := by unfold convI; exact wrap_nat32 (by have := hadl x.k; omega)
        have hap := hsn ⟨x.op, x.jt, x.jf, adjN a (a + n) (n - w.length) i x.k⟩ (by simp [putI, h5])
        simp only [In4.cs] at hov hap
        simp (disch := omega) [ltT, FL, hgg, hfx, hcs, e1, hG, b5, hc, -Int.natCast_add]
        refine callV_of hov (by simp) ?_
        simp (disch := omega) [trunc, hc2, leTn, hap, hTl2, hlt, add1', keep_cl, -Int.natCast_add]
      have b5 : (x.op == 5) = false := beqF h5
      simp (disch := omega) [ltT, FL, hgg, hfx, hcs, e1, hG, b5, -Int.natCast_add]
      refine callP_of hbr ?_
      cases hbx : isBr x.op
      · have hap := hsn x (by simp [putI, h5, hbx])
        simp only [In4.cs] at hap
        simp (disch := omega) [leTn, hap, hTl2, hlt, add1', keep_cl, trunc, -Int.natCast_add]
      · obtain ⟨b1, b2, b3, b4⟩ := hbo hbx
        have hov := ho x.jt.toNat (by omega)
        have hov2 := ho x.jf.toNat (by omega)
        have hap := hsn ⟨x.op, (adjN a (a + n) (n - w.length) i x.jt.toNat : Nat), (adjN a (a + n) (n - w.length) i x.jf.toNat : Nat), x.k⟩ (by simp [putI, h5, hbx])
        have j1 : ((x.jt.toNat : Nat) : Int) = x.jt := by omega
        have j2 : ((x.jf.toNat : Nat) : Int) = x.jf := by omega
        simp only [In4.cs, j1, j2] at hov hov2 hap
        simp
        refine callV_of hov (by simp [trunc]) ?_
        simp [trunc]
        refine callV_of hov2 (by simp [trunc]) ?_
        simp (disch := omega) [trunc, leTn, hap, hTl2, hlt, add1', keep_cl, -Int.natCast_add]
        omega
  · have hne : i = f.length := by omega
    subst hne
    have hTe : T f.length = putL f a n w := by rw [hT, outAt_end hbd (by omega)]
    simp [hTe]
end Go.Ev
