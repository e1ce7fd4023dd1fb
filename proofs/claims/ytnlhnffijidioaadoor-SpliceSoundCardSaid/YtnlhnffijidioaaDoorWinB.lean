/- Where a filter is gone to: splice.targets, hurdleref22.jumps. -/
import Derived.Test.YtnlhnffijidioaaDoorWinA
import Derived.Test.YtnlhnffijidioaaDoorLiveW
namespace Go.Ev
open Go Go.RowKit
variable {G : Tbl}
set_option maxRecDepth 10000
set_option maxHeartbeats 2000000
set_option linter.unusedSimpArgs false
set_option linter.unusedVariables false

/-- Does an instruction at a place jump to another? -/
def jumpB (x : In4) (j i : Nat) : Bool := if x.op = 5 then decide (j + 1 + x.k = i) else isBr x.op && (decide (j + 1 + x.jt.toNat = i) || decide (j + 1 + x.jf.toNat = i))
theorem jumps_ok [HasR2 G] [HasR22 G] (f : List In4) (j i : Nat) (x : In4) (hg : f[j]? = some x) (hb : x.brOk) (hk : x.k < 4294967296) (hf : f.length ≤ 1000000) (hi : i ≤ 4294967296) : FP G 210 [FL f, .int .i64 j, .int .i64 i] (.bool (jumpB x j i)) := by
  refine FP_of HasR22.h_hurdleref22_jumps (Nat.le_of_ble_eq_true rfl) ?_
  obtain ⟨hlt, hfx⟩ := List.getElem?_eq_some_iff.1 hg
  have hgg := FL_get hlt
  rw [hfx] at hgg
  have hbr := BranchR_ok (G := G) x
  have hcs : x.cs = [.int .i64 x.op, .int .i64 x.jt, .int .i64 x.jf, .int .u32 (x.k : Int)] := rfl
  simp [IV, hcs] at hbr
  have c1 := convU64 j (by omega)
  have c2 := convU64 i (by omega)
  have c3 := convU64 x.k (by omega)
  have a1 : addI .u64 (j : Int) 1 = ((j + 1 : Nat) : Int) := by unfold addI; rw [show (j : Int) + 1 = ((j + 1 : Nat) : Int) by omega]; exact IntWalk.u64_in _ ⟨by omega, by omega⟩
  have a2 : addI .u64 ((j + 1 : Nat) : Int) (x.k : Int) = ((j + 1 + x.k : Nat) : Int) := by unfold addI; rw [← Int.natCast_add]; exact IntWalk.u64_in _ ⟨by omega, by omega⟩
  have a3 : addI .i64 (j : Int) 1 = ((j + 1 : Nat) : Int) := add1' (by omega)
  have ez : ∀ a b : Nat, ((a : Int) == (b : Int)) = decide (a = b) := fun a b => by rw [Bool.eq_iff_iff]; simp
  simp (disch := omega) [FL, ltT, hgg, hfx, hcs]
  by_cases h5 : x.op = 5
  · have b5 : (x.op == 5) = true := by simp [h5]
    simp [b5, c1, c2, c3, a1, a2, jumpB, h5, ez, -Int.natCast_add]
  · have b5 : (x.op == 5) = false := beqF h5
    simp [b5]
    refine callP_of hbr ?_
    cases hbx : isBr x.op
    · simp [jumpB, h5, hbx]
    · obtain ⟨b1, b2, b3, b4⟩ := hb hbx
      have a4 : addI .i64 ((j + 1 : Nat) : Int) x.jt = ((j + 1 + x.jt.toNat : Nat) : Int) := by rw [addI64] <;> omega
      have a5 : addI .i64 ((j + 1 : Nat) : Int) x.jf = ((j + 1 + x.jf.toNat : Nat) : Int) := by rw [addI64] <;> omega
      simp [a3, a4, -Int.natCast_add]
      by_cases he : j + 1 + x.jt.toNat = i
      · simp [ez, he, jumpB, h5, hbx, -Int.natCast_add]
      · simp [ez, he, a3, a5, jumpB, h5, hbx, -Int.natCast_add]

/-- Which places are jumped to by the first so many instructions. -/
def hitB (f : List In4) (m i : Nat) : Bool := (List.range m).any fun j => jumpB (f.getD j RET) j i
def hits (f : List In4) (m : Nat) : List Bool := (List.range f.length).map (hitB f m)
theorem hits_len (f : List In4) (m : Nat) : (hits f m).length = f.length := by simp [hits]
theorem hitB_succ (f : List In4) (m i : Nat) : hitB f (m + 1) i = (hitB f m i || jumpB (f.getD m RET) m i) := by simp [hitB, List.range_succ, List.any_append]
theorem hits_get (f : List In4) (m i : Nat) (h : i < f.length) : (hits f m)[i]? = some (hitB f m i) := by simp [hits, h]
theorem hits_set (f : List In4) (m : Nat) (l : List Bool) (hl : l.length = f.length) (h : ∀ i, i < f.length → l[i]? = some (hitB f (m + 1) i)) : l = hits f (m + 1) := by
  refine List.ext_getElem? fun i => ?_
  by_cases hi : i < f.length
  · rw [h i hi, hits_get _ _ _ hi]
  · rw [List.getElem?_eq_none (by omega), List.getElem?_eq_none (by rw [hits_len]; omega)]
theorem cb_chunks : ∀ l : List Bool, chunks 1 l.length (cb l) = bools l
  | [] => rfl
  | x :: l => by
    have := cb_chunks l
    simp only [cb] at this
    simp [chunks, cb, bools, this]

theorem targets_ok [HasIns G] [HasSpl G] (f : List In4) (hs : soundF f = true) (hk : ∀ x ∈ f, x.k < 4294967296) : FP G 204 [FL f] (.vs (bools (hits f f.length)) .no) := by
  refine FP_of HasSpl.h_splice_targets (Nat.le_of_ble_eq_true rfl) ?_
  have hl : f.length ≤ 4096 := by simp only [soundF, Bool.and_eq_true, decide_eq_true_eq] at hs; exact hs.1.1
  simp (disch := omega) [FL, leTn]
  refine W_up f.length (fun m => [(3, .rs 0 0 f.length 1), (9, FL f), (10, .int .i64 f.length), (11, .int .i64 m)]) (fun m => [some (.cells (cb (hits f m)))]) (fun _ => True) ?_ ?_
  · have : hits f 0 = List.replicate f.length false := by
      refine List.ext_getElem? fun i => ?_
      by_cases hi : i < f.length
      · rw [hits_get _ _ _ hi, List.getElem?_replicate_of_lt hi]; rfl
      · rw [List.getElem?_eq_none (by rw [hits_len]; omega), List.getElem?_eq_none (by simp; omega)]
    simp [keep_cl, trunc, FL, this]
  intro m hm _
  have hhl := hits_len f m
  by_cases hlt : m < f.length
  · obtain ⟨x, hfx⟩ : ∃ x, x = f[m] := ⟨_, rfl⟩
    have hgg := FL_get hlt
    rw [← hfx] at hgg
    have hfx := hfx.symm
    have hg : f[m]? = some x := by rw [List.getElem?_eq_getElem hlt, hfx]
    have hD : f.getD m RET = x := by rw [List.getD, hg]; rfl
    have hkk := hk x (hfx ▸ List.getElem_mem hlt)
    have hbr := Branch_ok (G := G) x
    have hcs : x.cs = [.int .i64 x.op, .int .i64 x.jt, .int .i64 x.jf, .int .u32 (x.k : Int)] := rfl
    simp [IV, hcs] at hbr
    have hbo := sound_br hs hg
    have hofs := fun o => sound_offs (o := o) hs hg
    have a3 : addI .i64 (m : Int) 1 = ((m + 1 : Nat) : Int) := add1' (by omega)
    have hc := convI64 x.k hkk
    simp (disch := omega) [FL, ltT, hgg, hfx, hcs]
    by_cases h5 : x.op = 5
    · have b5 : (x.op == 5) = true := by simp [h5]
      have hnb : isBr x.op = false := by rw [h5]; decide
      have hof := hofs x.k (by simp [offs, h5, show isEnd 5 = false by decide])
      have a4 : addI .i64 ((m + 1 : Nat) : Int) (x.k : Int) = ((m + 1 + x.k : Nat) : Int) := addN (by omega)
      have hst := cb_set (hits f m) (m + 1 + x.k) true (by omega)
      have hnew : (hits f m).set (m + 1 + x.k) true = hits f (m + 1) := by
        refine hits_set f m _ (by simp [hhl]) fun i hi => ?_
        rw [List.getElem?_set, hits_get _ _ _ hi, hitB_succ, hD]
        by_cases he : m + 1 + x.k = i
        · subst he; simp [jumpB, h5, hhl, hi]
        · simp [jumpB, h5, he]
      rw [hnb] at hbr
      rw [hnew] at hst
      simp (disch := omega) [b5, a3, a4, hc, hhl, ltTn, leTn, hst, -Int.natCast_add]
      refine callP_of hbr ?_
      simp (disch := omega) [hlt, add1', keep_cl, trunc, FL, -Int.natCast_add]
    · have b5 : (x.op == 5) = false := beqF h5
      simp (disch := omega) [b5, -Int.natCast_add]
      refine callP_of hbr ?_
      cases hbx : isBr x.op
      · have hnew : hits f m = hits f (m + 1) := by
          refine hits_set f m _ hhl fun i hi => ?_
          rw [hits_get _ _ _ hi, hitB_succ, hD]
          simp [jumpB, h5, hbx]
        rw [hnew]
        simp (disch := omega) [hlt, add1', keep_cl, trunc, FL, -Int.natCast_add]
      · obtain ⟨b1, b2, b3, b4⟩ := hbo hbx
        have hne : isEnd x.op = false := by
          have key : ∀ p ∈ [21, 37, 53, 69, 29, 45, 61, (77 : Int)], isEnd p = false := by decide
          exact key _ (by simpa [isBr] using hbx)
        have ho1 := hofs x.jt.toNat (by simp [offs, hne, h5, hbx])
        have ho2 := hofs x.jf.toNat (by simp [offs, hne, h5, hbx])
        have a4 : addI .i64 ((m + 1 : Nat) : Int) x.jt = ((m + 1 + x.jt.toNat : Nat) : Int) := by rw [addI64] <;> omega
        have a5 : addI .i64 ((m + 1 : Nat) : Int) x.jf = ((m + 1 + x.jf.toNat : Nat) : Int) := by rw [addI64] <;> omega
        have hst := cb_set (hits f m) (m + 1 + x.jt.toNat) true (by omega)
        have hst2 := cb_set ((hits f m).set (m + 1 + x.jt.toNat) true) (m + 1 + x.jf.toNat) true (by rw [List.length_set]; omega)
        have hnew : ((hits f m).set (m + 1 + x.jt.toNat) true).set (m + 1 + x.jf.toNat) true = hits f (m + 1) := by
          refine hits_set f m _ (by simp [hhl]) fun i hi => ?_
          rw [List.getElem?_set, List.getElem?_set, hits_get _ _ _ hi, hitB_succ, hD]
          by_cases he : m + 1 + x.jt.toNat = i <;> by_cases he2 : m + 1 + x.jf.toNat = i <;> simp [jumpB, h5, hbx, he, he2, hhl, hi]
        rw [hnew] at hst2
        simp (maxSteps := 20000) (disch := omega) [a3, a4, a5, hhl, -Int.natCast_add]
        simp [ho1, ho2, hhl, -Int.natCast_add]
        simp (disch := omega) [hhl, leTn, hst, hst2, -Int.natCast_add]
        simp [ho2, -Int.natCast_add]
        simp (disch := omega) [hhl, leTn, hst2, -Int.natCast_add]
        simp (disch := omega) [hlt, add1', keep_cl, trunc, FL, -Int.natCast_add]
  · have hne : m = f.length := by omega
    subst hne
    have hch : chunks 1 f.length (cb (hits f f.length)) = bools (hits f f.length) := by
      have h := cb_chunks (hits f f.length)
      rw [hhl] at h; exact h
    simp (disch := omega) [hhl, leTn, hch]
end Go.Ev
