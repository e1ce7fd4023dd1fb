/- A nil book: the law SymNil. -/
import Derived.Test.YtdomogpjchpbnaaEvLaw16C
import Derived.Test.YtdomogpjchpbnaaRun6W
import Derived.Test.YtdomogpjchpbnaaEvWordC
import Derived.Test.YtdomogpjchpbnaaBitsW
namespace Go.Ev
open Go Go.RowKit
variable {G : Tbl}
set_option maxRecDepth 10000
set_option maxHeartbeats 4000000
set_option linter.unusedSimpArgs false
set_option linter.unusedVariables false

theorem HShut.self {H : Heap} (h : HShut H) : trunc H.length H = H := by
  have := shut_trunc h [] 0
  simpa using this
theorem HShut.back {H : Heap} (h : HShut H) (r : Heap) : trunc H.length (H ++ r) = H := by
  have := shut_trunc h r 0
  simpa using this
theorem HShut.app {H : Heap} (h : HShut H) {r : Heap} (hr : ∀ n, r.map (Option.map (Blk.cl n)) = r) : HShut (H ++ r) := by
  intro m hm
  rw [List.map_append, hr, h m (by rw [List.length_append] at hm; omega)]
theorem HShut.nil : HShut [] := fun _ _ => rfl

/-- A value of a book: a sum, bits, or a deed. -/
structure Nd where
  kind : Nat
  f : List Nat
  n : Nat
  vars : List Nat
  tab : List Nat
  op : Int
  x : Nat
  y : Nat
  deriving DecidableEq
/-- Its cells. -/
def Nd.cs (a : Nd) : List V := .int .i64 (a.kind : Int) :: (cnats .u32 a.f ++ .int .i64 (a.n : Int) :: (cnats .i64 a.vars ++ (cnats .u32 a.tab ++ [.int .i64 a.op, .int .i64 (a.x : Int), .int .i64 (a.y : Int)])))
def Nd0 : Nd := ⟨0, zeros 35, 0, zeros 4, zeros 16, 0, 0, 0⟩
theorem nz : (V.int .i64 0 :: (cnats .u32 (zeros 35) ++ V.int .i64 0 :: V.int .i64 0 :: V.int .i64 0 :: V.int .i64 0 :: V.int .i64 0 :: (cnats .u32 (zeros 16) ++ [V.int .i64 0, V.int .i64 0, V.int .i64 0]))) = Nd0.cs := rfl
def Nd.ok (a : Nd) : Prop := a.f.length = 35 ∧ a.vars.length = 4 ∧ a.tab.length = 16
theorem Nd.len {a : Nd} (h : a.ok) : a.cs.length = 60 := by simp [Nd.cs, h.1, h.2.1, h.2.2]
def sumNd (f : List Nat) : Nd := { Nd0 with f := f }
theorem fill_sum (f : List Nat) (hf : f.length = 35) (e : Env) (t : Nat) (he : e t = .agg (cnats .u32 f)) : fillC e Nd0.cs [(0, 1, .c (.int .i64 0)), (1, 35, .t t)] = some (sumNd f).cs := by
  have hl : (cnats .u32 f).length = 35 := by simp [hf]
  have hd : ∀ r : List V, (cnats .u32 (zeros 35) ++ r).drop 35 = r := fun r => by rw [List.drop_left' (by simp)]
  simp [fillC, he, Nd0, Nd.cs, hl, hd, sumNd]
theorem affConst_ok [HasAffine G] (c : Nat) : FP G 243 [.int .u32 c] (.agg (cnats .u32 (c :: zeros 34))) := by
  refine FP_of HasAffine.h_affine_Const (Nat.le_of_ble_eq_true rfl) ?_
  have hz : cnats .u32 (zeros 35) = .int .u32 0 :: cnats .u32 (zeros 34) := rfl
  have hc : cnats .u32 (c :: zeros 34) = .int .u32 (c : Int) :: cnats .u32 (zeros 34) := rfl
  simp [hz, hc]

theorem LenN [HasSym G] (H : Heap) : Big G (.F 257 [.nilp] H (.int .i64 0) H) := by
  refine F_of HasSym.h_sym_Book_Len (Nat.le_of_ble_eq_true rfl) ?_
  simp
theorem hasN [HasSym G] (i : Int) {H : Heap} (hH : HShut H) : Big G (.F 258 [.nilp, .int .i64 i] H (.bool false) H) := by
  refine F_of HasSym.h_sym_Book_has (Nat.le_of_ble_eq_true rfl) ?_
  have hs := hH.self
  by_cases h : 0 ≤ i
  · have hF : (i < 0) = False := eq_false (by omega)
    simp [h]
    refine callS_of (LenN H) ?_
    simp [hs, hF]
  · simp [h]
theorem idN [HasSym G] (cs : List V) (H : Heap) : Big G (.F 259 [.nilp, .agg cs] H (.int .i64 (-1)) (H ++ [some (.cells cs)])) := by
  refine F_of HasSym.h_sym_Book_id (Nat.le_of_ble_eq_true rfl) ?_
  simp
theorem sumN [HasSym G] (f : List Nat) (hf : f.length = 35) {H : Heap} (hH : HShut H) : Big G (.F 260 [.nilp, .agg (cnats .u32 f)] H (.int .i64 (-1)) (H ++ [some (.cells (cnats .u32 f))])) := by
  have ht := take_full (k := .u32) hf
  have h1 : HShut (H ++ [some (.cells (cnats .u32 f))]) := hH.app fun n => by simp [Blk.cl]
  refine F_of HasSym.h_sym_Book_sum (Nat.le_of_ble_eq_true rfl) ?_
  have hb := h1.back
  simp at hb
  simp [hf, ht, -fillC, nz, fill_sum f hf]
  refine callS_of (idN _ _) ?_
  simp [hb]
theorem ConstN [HasAffine G] [HasSym G] (c : Nat) {H : Heap} (hH : HShut H) : Big G (.F 262 [.nilp, .int .u32 c] H (.int .i64 (-1)) H) := by
  refine F_of HasSym.h_sym_Book_Const (Nat.le_of_ble_eq_true rfl) ?_
  have hb := hH.back
  simp
  refine callP_of (affConst_ok c) ?_
  simp
  refine callS_of (sumN (c :: zeros 34) (by simp) hH) ?_
  simp [hb]
def varL (i : Nat) : List Nat := (zeros 35).set (i + 1) 1
theorem affVar_ok [HasAffine G] (i : Nat) (hi : i < 34) : FP G 244 [.int .i64 i] (.tup [.agg (cnats .u32 (varL i)), .int .i64 0]) := by
  refine FP_of HasAffine.h_affine_Var (Nat.le_of_ble_eq_true rfl) ?_
  have hz : cnats .u32 (zeros 35) = .int .u32 0 :: cnats .u32 (zeros 34) := rfl
  have cs := cnats_set .u32 (zeros 34) i 1 (by simp; omega)
  have hv : cnats .u32 (varL i) = .int .u32 0 :: cnats .u32 ((zeros 34).set i 1) := by
    rw [varL, show zeros 35 = 0 :: zeros 34 from rfl, List.set_cons_succ]; rfl
  have ht1 : ∀ (a : V) (l : List V), (a :: l).take (1 + i) = a :: l.take i := fun a l => by rw [Nat.add_comm]; rfl
  have hc1 : (1 : Int) = ((1 : Nat) : Int) := rfl
  have hd : (cnats .u32 (zeros 34)).take i ++ V.int .u32 1 :: (cnats .u32 (zeros 34)).drop (1 + i) = cnats .u32 ((zeros 34).set i 1) := by rw [Nat.add_comm]; exact cs
  have hlv : ((zeros 34).set i 1).length = 34 := by simp
  have htv := take_full (k := .u32) hlv
  simp (disch := omega) [ltT, ltF, leF, leTn, hz, hv, hd, ht1, hi, htv]
theorem affVar_no [HasAffine G] (i : Int) (hi : i < 0 ∨ 34 ≤ i) : FP G 244 [.int .i64 i] (.tup [.agg (cnats .u32 (zeros 35)), .int .i64 1]) := by
  refine FP_of HasAffine.h_affine_Var (Nat.le_of_ble_eq_true rfl) ?_
  by_cases h : i < 0
  · simp [h]
  · have h2 : (34 ≤ i) = True := eq_true (by omega)
    have h1 : (i < 0) = False := eq_false h
    simp [h1, h2]
theorem VarN [HasAffine G] [HasSym G] (i : Int) {H : Heap} (hH : HShut H) : ∃ H', Big G (.F 263 [.nilp, .int .i64 i] H (.int .i64 (-1)) H') ∧ trunc H.length H' = H := by
  by_cases hi : i < 0 ∨ 34 ≤ i
  · refine ⟨H ++ [some (.cells (cnats .u32 (zeros 35)))], F_of HasSym.h_sym_Book_Var (Nat.le_of_ble_eq_true rfl) ?_, hH.back _⟩
    have hd : (cnats .u32 (zeros 35)).drop 35 = [] := rfl
    simp
    refine callP_of (affVar_no i hi) ?_
    simp [hd]
  · obtain ⟨n, rfl⟩ := Int.eq_ofNat_of_zero_le (show 0 ≤ i by omega)
    have hl : (varL n).length = 35 := by simp [varL]
    have ht := take_full (k := .u32) hl
    have hd : (cnats .u32 (zeros 35)).drop 35 = [] := rfl
    have h1 : HShut (H ++ [some (.cells (cnats .u32 (varL n)))]) := hH.app fun n => by simp [Blk.cl]
    have hb := h1.back
    simp at hb
    refine ⟨H ++ [some (.cells (cnats .u32 (varL n)))], F_of HasSym.h_sym_Book_Var (Nat.le_of_ble_eq_true rfl) ?_, hH.back _⟩
    simp
    refine callP_of (affVar_ok n (by omega)) ?_
    simp [hd, hl, ht]
    refine callS_of (sumN (varL n) hl h1) ?_
    simp [hb]
theorem ConstantN [HasSym G] (i : Int) {H : Heap} (hH : HShut H) : Big G (.F 266 [.nilp, .int .i64 i] H (.tup [.int .u32 0, .bool false]) H) := by
  refine F_of HasSym.h_sym_Book_Constant (Nat.le_of_ble_eq_true rfl) ?_
  have hb := hH.self
  simp
  refine callS_of (hasN i hH) ?_
  simp [hb]
theorem NegN [HasSym G] (i : Int) {H : Heap} (hH : HShut H) : Big G (.F 275 [.nilp, .int .i64 i] H (.int .i64 (-1)) H) := by
  refine F_of HasSym.h_sym_Book_Neg (Nat.le_of_ble_eq_true rfl) ?_
  have hb := hH.self
  simp
  refine callS_of (hasN i hH) ?_
  simp [hb]
theorem EvalN [HasSym G] [HasSymEval G] (i : Int) (v : List Nat) {H : Heap} (hH : HShut H) : Big G (.F 276 [.nilp, .int .i64 i, .agg (cnats .u32 v)] H (.tup [.int .u32 0, .bool false]) (H ++ [some (.cells (cnats .u32 v))])) := by
  refine F_of HasSymEval.h_sym_Book_Eval (Nat.le_of_ble_eq_true rfl) ?_
  have h1 : HShut (H ++ [some (.cells (cnats .u32 v))]) := hH.app fun n => by simp [Blk.cl]
  have hb := h1.self
  simp at hb
  simp
  refine callS_of (hasN i h1) ?_
  simp [hb]
theorem ApartN [HasSym G] [HasSymApart G] (i j : Int) {H : Heap} (hH : HShut H) : ∃ H', Big G (.F 277 [.nilp, .int .i64 i, .int .i64 j] H (.tup [.agg (cnats .u32 (zeros 34)), .bool false]) H') ∧ trunc H.length H' = H := by
  refine ⟨H ++ [some (.cells (cnats .u32 (zeros 34))), some (.cells (cnats .u32 (zeros 34)))], F_of HasSymApart.h_sym_Book_Apart (Nat.le_of_ble_eq_true rfl) ?_, hH.back _⟩
  have h1 : HShut (H ++ [some (.cells (cnats .u32 (zeros 34))), some (.cells (cnats .u32 (zeros 34)))]) := hH.app fun n => by simp [Blk.cl]
  have hb := h1.self
  have hd : (cnats .u32 (zeros 34)).drop 34 = [] := rfl
  simp at hb
  simp
  refine callS_of (hasN i h1) ?_
  simp [hb, hd]
theorem AluN [HasWd G] [HasSym G] (i : Int) {H : Heap} (hH : HShut H) : ∃ H', Big G (.F 274 [.nilp, .int .i64 4, .int .i64 i, .int .i64 i] H (.int .i64 (-1)) H') ∧ trunc H.length H' = H := by
  refine ⟨H ++ [some (.cells [.nilp]), some (.cells [.int .i64 4]), some (.cells [.int .i64 i]), some (.cells [.int .i64 i])], F_of HasSym.h_sym_Book_Alu (Nat.le_of_ble_eq_true rfl) ?_, hH.back _⟩
  have h1 : HShut (H ++ [some (.cells [.nilp]), some (.cells [.int .i64 4]), some (.cells [.int .i64 i]), some (.cells [.int .i64 i])]) := hH.app fun n => by simp [Blk.cl]
  have hb := h1.self
  simp at hb
  have hdo := doW_ok (G := G) (by infer_instance) 4 0 1 (by decide) (by decide)
  simp [doW] at hdo
  simp
  refine callP_of hdo ?_
  simp
  refine callS_of (hasN i h1) ?_
  simp [hb]

/-- SYMNIL. -/
theorem SymNil_ok [HasWd G] [HasAffine G] [HasSym G] [HasSymEval G] [HasSymApart G] [HasL16 G] (hkn : FP G 284 [] (.bool true)) (i : Int) (c : Nat) (v : List Nat) (hl : v.length = 34) : FP G 291 [.int .i64 i, .int .u32 c, .agg (cnats .u32 v)] (.bool true) := by
  refine FP_of HasL16.h_hurdlelaw16_SymNil (Nat.le_of_ble_eq_true rfl) ?_
  have ht := take_full (k := .u32) hl
  have h1 : HShut [some (.cells (cnats .u32 v))] := fun n _ => by simp [Blk.cl]
  simp [hl, ht]
  refine callS_of (EvalN i v h1) ?_
  simp [trunc, keep_cl]
  refine callS_of (ConstantN i h1) ?_
  simp [trunc, keep_cl]
  have h2 : HShut [some (.cells (cnats .u32 v)), none] := fun n _ => by simp [Blk.cl]
  obtain ⟨H2, hA, hA2⟩ := ApartN (G := G) i (addI .i64 i 1) h2
  refine callS_of hA ?_
  simp at hA2
  have hd : (cnats .u32 (zeros 34)).drop 34 = [] := rfl
  simp [hA2, keep_cl, hd]
  have h3 : HShut [some (.cells (cnats .u32 v)), some (.cells (cnats .u32 (zeros 34)))] := fun n _ => by simp [Blk.cl]
  have hs3 := h3.self
  simp at hs3
  refine callS_of (ConstN c h3) ?_
  simp [hs3, keep_cl]
  obtain ⟨H3, hV, hV2⟩ := VarN (G := G) i h3
  simp at hV2
  refine callS_of hV ?_
  simp [hV2, keep_cl]
  obtain ⟨H4, hL, hL2⟩ := AluN (G := G) i h3
  simp at hL2
  refine callS_of hL ?_
  simp [hL2, keep_cl]
  refine callS_of (NegN i h3) ?_
  simp [hs3, keep_cl]
  refine callS_of (LenN _) ?_
  simp [hs3, keep_cl]
  refine callP_of hkn ?_
  simp
end Go.Ev
