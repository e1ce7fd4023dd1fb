/- A nil book: the law SymNil. -/
import Derived.Test.YtdomogpjchpbnaaEvLaw16C
import Derived.Test.YtdomogpjchpbnaaEvU
import Derived.Test.YtdomogpjchpbnaaEvWordC
import Derived.Test.YtdomogpjchpbnaaBitsW
namespace Go.Ev
open Go Go.RowKit
variable {G : Tbl}
set_option maxRecDepth 10000
set_option maxHeartbeats 4000000
set_option linter.unusedSimpArgs false
set_option linter.unusedVariables false

theorem HShut.self {H : Heap} (h : HShut H) : trunc H.length H = H := by
  have := shut_trunc h [] 0
  simpa using this
theorem HShut.back {H : Heap} (h : HShut H) (r : Heap) : trunc H.length (H ++ r) = H := by
  have := shut_trunc h r 0
  simpa using this
theorem HShut.app {H : Heap} (h : HShut H) {r : Heap} (hr : ∀ n, r.map (Option.map (Blk.cl n)) = r) : HShut (H ++ r) := by
  intro m hm
  rw [List.map_append, hr, h m (by rw [List.length_append] at hm; omega)]
theorem HShut.nil : HShut [] := fun _ _ => rfl

/-- A value of a book: a sum, bits, or a deed. -/
structure Nd where
  kind : Nat
  f : List Nat
  n : Nat
  vars : List Nat
  tab : List Nat
  op : Int
  x : Nat
  y : Nat
  deriving DecidableEq
/-- Its cells. -/
def Nd.cs (a : Nd) : List V := .int .i64 (a.kind : Int) :: (cnats .u32 a.f ++ .int .i64 (a.n : Int) :: (cnats .i64 a.vars ++ (cnats .u32 a.tab ++ [.int .i64 a.op, .int .i64 (a.x : Int), .int .i64 (a.y : Int)])))
def Nd0 : Nd := ⟨0, zeros 35, 0, zeros 4, zeros 16, 0, 0, 0⟩
theorem nz : (V.int .i64 0 :: (cnats .u32 (zeros 35) ++ V.int .i64 0 :: V.int .i64 0 :: V.int .i64 0 :: V.int .i64 0 :: V.int .i64 0 :: (cnats .u32 (zeros 16) ++ [V.int .i64 0, V.int .i64 0, V.int .i64 0]))) = Nd0.cs := rfl
def Nd.ok (a : Nd) : Prop := a.f.length = 35 ∧ a.vars.length = 4 ∧ a.tab.length = 16
theorem Nd.len {a : Nd} (h : a.ok) : a.cs.length = 60 := by simp [Nd.cs, h.1, h.2.1, h.2.2]
def sumNd (f : List Nat) : Nd := { Nd0 with f := f }
theorem fill_sum (f : List Nat) (hf : f.length = 35) (e : Env) (t : Nat) (he : e t = .agg (cnats .u32 f)) : fillC e Nd0.cs [(0, 1, .c (.int .i64 0)), (1, 35, .t t)] = some (sumNd f).cs := by
  have hl : (cnats .u32 f).length = 35 := by simp [hf]
  have hd : ∀ r : List V, (cnats .u32 (zeros 35) ++ r).drop 35 = r := fun r => by rw [List.drop_left' (by simp)]
  simp [fillC, he, Nd0, Nd.cs, hl, hd, sumNd]
theorem affConst_ok [HasAffine G] (c : Nat) : FP G 243 [.int .u32 c] (.agg (cnats .u32 (c :: zeros 34))) := by
  refine FP_of HasAffine.h_affine_Const (Nat.le_of_ble_eq_true rfl) ?_
  have hz : cnats .u32 (zeros 35) = .int .u32 0 :: cnats .u32 (zeros 34) := rfl
  have hc : cnats .u32 (c :: zeros 34) = .int .u32 (c : Int) :: cnats .u32 (zeros 34) := rfl
  simp [hz, hc]

theorem LenN [HasSym G] (H : Heap) : Big G (.F 257 [.nilp] H (.int .i64 0) H) := by
  refine F_of HasSym.h_sym_Book_Len (Nat.le_of_ble_eq_true rfl) ?_
  simp
theorem hasN [HasSym G] (i : Int) {H : Heap} (hH : HShut H) : Big G (.F 258 [.nilp, .int .i64 i] H (.bool false) H) := by
  refine F_of HasSym.h_sym_Book_has (Nat.le_of_ble_eq_true rfl) ?_
  have hs := hH.self
  by_cases h : 0 ≤ i
  · have hF : (i < 0) = False := eq_false (by omega)
    simp [h]
    refine callS_of (LenN H) ?_
    simp [hs, hF]
  · simp [h]
theorem idN [HasSym G] (cs : List V) (H : Heap) : Big G (.F 259 [.nilp, .agg cs] H (.int .i64 (-1)) (H ++ [some (.cells cs)])) := by
  refine F_of HasSym.h_sym_Book_id (Nat.le_of_ble_eq_true rfl) ?_
  simp
theorem sumN [HasSym G] (f : List Nat) (hf : f.length = 35) {H : Heap} (hH : HShut H) : Big G (.F 260 [.nilp, .agg (cnats .u32 f)] H (.int .i64 (-1)) (H ++ [some (.cells (cnats .u32 f))])) := by
  have ht := take_full (k := .u32) hf
  have h1 : HShut (H ++ [some (.cells (cnats .u32 f))]) := hH.app fun n => by simp [Blk.cl]
  refine F_of HasSym.h_sym_Book_sum (Nat.le_of_ble_eq_true rfl) ?_
  have hb := h1.back
  simp at hb
  simp [hf, ht, -fillC, nz, fill_sum f hf]
  refine callS_of (idN _ _) ?_
  simp [hb]
theorem ConstN [HasAffine G] [HasSym G] (c : Nat) {H : Heap} (hH : HShut H) : Big G (.F 262 [.nilp, .int .u32 c] H (.int .i64 (-1)) H) := by
  refine F_of HasSym.h_sym_Book_Const (Nat.le_of_ble_eq_true rfl) ?_
  have hb := hH.back
  simp
  refine callP_of (affConst_ok c) ?_
  simp
  refine callS_of (sumN (c :: zeros 34) (by simp) hH) ?_
  simp [hb]
def varL (i : Nat) : List Nat := (zeros 35).set (i + 1) 1
theorem affVar_ok [HasAffine G] (i : Nat) (hi : i < 34) : FP G 244 [.int .i64 i] (.tup [.agg (cnats .u32 (varL i)), .int .i64 0]) := by
  refine FP_of HasAffine.h_affine_Var (Nat.le_of_ble_eq_true rfl) ?_
  have hz : cnats .u32 (zeros 35) = .int .u32 0 :: cnats .u32 (zeros 34) := rfl
  have cs := cnats_set .u32 (zeros 34) i 1 (by simp; omega)
  have hv : cnats .u32 (varL i) = .int .u32 0 :: cnats .u32 ((zeros 34).set i 1) := by
    rw [varL, show zeros 35 = 0 :: zeros 34 from rfl, List.set_cons_succ]; rfl
  have ht1 : ∀ (a : V) (l : List V), (a :: l).take (1 + i) = a :: l.take i := fun a l => by rw [Nat.add_comm]; rfl
  have hc1 : (1 : Int) = ((1 : Nat) : Int) := rfl
  have hd : (cnats .u32 (zeros 34)).take i ++ V.int .u32 1 :: (cnats .u32 (zeros 34)).drop (1 + i) = cnats .u32 ((zeros 34).set i 1) := by rw [Nat.add_comm]; exact cs
  have hlv : ((zeros 34).set i 1).length = 34 := by simp
  have htv := take_full (k := .u32) hlv
  simp (disch := omega) [ltT, ltF, leF, leTn, hz, hv, hd, ht1, hi, htv]
theorem affVar_no [HasAffine G] (i : Int) (hi : i < 0 ∨ 34 ≤ i) : FP G 244 [.int .i64 i] (.tup [.agg (cnats .u32 (zeros 35)), .int .i64 1]) := by
  refine FP_of HasAffine.h_affine_Var (Nat.le_of_ble_eq_true rfl) ?_
  by_cases h : i < 0
  · simp [h]
  · have h2 : (34 ≤ i) = True := eq_true (by omega)
    have h1 : (i < 0) = False := eq_false h
    simp [h1, h2]
theorem VarN [HasAffine G] [HasSym G] (i : Int) {H : Heap} (hH : HShut H) : ∃ H', Big G (.F 263 [.nilp, .int .i64 i] H (.int .i64 (-1)) H') ∧ trunc H.length H' = H := by
  by_cases hi : i < 0 ∨ 34 ≤ i
  · refine ⟨H ++ [some (.cells (cnats .u32 (zeros 35)))], F_of HasSym.h_sym_Book_Var (Nat.le_of_ble_eq_true rfl) ?_, hH.back _⟩
    have hd : (cnats .u32 (zeros 35)).drop 35 = [] := rfl
    simp
    refine callP_of (affVar_no i hi) ?_
    simp [hd]
  · obtain ⟨n, rfl⟩ := Int.eq_ofNat_of_zero_le (show 0 ≤ i by omega)
    have hl : (varL n).length = 35 := by simp [varL]
    have ht := take_full (k := .u32) hl
    have hd : (cnats .u32 (zeros 35)).drop 35 = [] := rfl
    have h1 : HShut (H ++ [some (.cells (cnats .u32 (varL n)))]) := hH.app fun n => by simp [Blk.cl]
    have hb := h1.back
    simp at hb
    refine ⟨H ++ [some (.cells (cnats .u32 (varL n)))], F_of HasSym.h_sym_Book_Var (Nat.le_of_ble_eq_true rfl) ?_, hH.back _⟩
    simp
    refine callP_of (affVar_ok n (by omega)) ?_
    simp [hd, hl, ht]
    refine callS_of (sumN (varL n) hl h1) ?_
    simp [hb]
theorem ConstantN [HasSym G] (i : Int) {H : Heap} (hH : HShut H) : Big G (.F 266 [.nilp, .int .i64 i] H (.tup [.int .u32 0, .bool false]) H) := by
  refine F_of HasSym.h_sym_Book_Constant (Nat.le_of_ble_eq_true rfl) ?_
  have hb := hH.self
  simp
  refine callS_of (hasN i hH) ?_
  simp [hb]
theorem NegN [HasSym G] (i : Int) {H : Heap} (hH : HShut H) : Big G (.F 275 [.nilp, .int .i64 i] H (.int .i64 (-1)) H) := by
  refine F_of HasSym.h_sym_Book_Neg (Nat.le_of_ble_eq_true rfl) ?_
  have hb := hH.self
  simp
  refine callS_of (hasN i hH) ?_
  simp [hb]
theorem EvalN [HasSym G] [HasSymEval G] (i : Int) (v : List Nat) {H : Heap} (hH : HShut H) : Big G (.F 276 [.nilp, .int .i64 i, .agg (cnats .u32 v)] H (.tup [.int .u32 0, .bool false]) (H ++ [some (.cells (cnats .u32 v))])) := by
  refine F_of HasSymEval.h_sym_Book_Eval (Nat.le_of_ble_eq_true rfl) ?_
  have h1 : HShut (H ++ [some (.cells (cnats .u32 v))]) := hH.app fun n => by simp [Blk.cl]
  have hb := h1.self
  simp at hb
  simp
  refine callS_of (hasN i h1) ?_
  simp [hb]
theorem ApartN [HasSym G] [HasSymApart G] (i j : Int) {H : Heap} (hH : HShut H) : ∃ H', Big G (.F 277 [.nilp, .int .i64 i, .int .i64 j] H (.tup [.agg (cnats .u32 (zeros 34)), .bool false]) H') ∧ trunc H.length H' = H := by
  refine ⟨H ++ [some (.cells (cnats .u32 (zeros 34))), some (.cells (cnats .u32 (zeros 34)))], F_of HasSymApart.h_sym_Book_Apart (Nat.le_of_ble_eq_true rfl) ?_, hH.back _⟩
  have h1 : HShut (H ++ [some (.cells (cnats .u32 (zeros 34))), some (.cells (cnats .u32 (zeros 34)))]) := hH.app fun n => by simp [Blk.cl]
  have hb := h1.self
  have hd : (cnats .u32 (zeros 34)).drop 34 = [] := rfl
  simp at hb
  simp
  refine callS_of (hasN i h1) ?_
  simp [hb, hd]
theorem AluN [HasWd G] [HasSym G] (i : Int) {H : Heap} (hH : HShut H) : ∃ H', Big G (.F 274 [.nilp, .int .i64 4, .int .i64 i, .int .i64 i] H (.int .i64 (-1)) H') ∧ trunc H.length H' = H := by
  refine ⟨H ++ [some (.cells [.nilp]), some (.cells [.int .i64 4]), some (.cells [.int .i64 i]), some (.cells [.int .i64 i])], F_of HasSym.h_sym_Book_Alu (Nat.le_of_ble_eq_true rfl) ?_, hH.back _⟩
  have h1 : HShut (H ++ [some (.cells [.nilp]), some (.cells [.int .i64 4]), some (.cells [.int .i64 i]), some (.cells [.int .i64 i])]) := hH.app fun n => by simp [Blk.cl]
  have hb := h1.self
  simp at hb
  have hdo := doW_ok (G := G) (by infer_instance) 4 0 1 (by decide) (by decide)
  simp [doW] at hdo
  simp
  refine callP_of hdo ?_
  simp
  refine callS_of (hasN i h1) ?_
  simp [hb]

/-- SYMNIL. -/
theorem SymNil_ok [HasWd G] [HasAffine G] [HasSym G] [HasSymEval G] [HasSymApart G] [HasL16 G] (hkn : FP G 284 [] (.bool true)) (i : Int) (c : Nat) (v : List Nat) (hl : v.length = 34) : FP G 291 [.int .i64 i, .int .u32 c, .agg (cnats .u32 v)] (.bool true) := by
  refine FP_of HasL16.h_hurdlelaw16_SymNil (Nat.le_of_ble_eq_true rfl) ?_
  have ht := take_full (k := .u32) hl
  have h1 : HShut [some (.cells (cnats .u32 v))] := fun n _ => by simp [Blk.cl]
  simp [hl, ht]
  refine callS_of (EvalN i v h1) ?_
  simp [trunc, keep_cl]
  refine callS_of (ConstantN i h1) ?_
  simp [trunc, keep_cl]
  have h2 : HShut [some (.cells (cnats .u32 v)), none] := fun n _ => by simp [Blk.cl]
  obtain ⟨H2, hA, hA2⟩ := ApartN (G := G) i (addI .i64 i 1) h2
  refine callS_of hA ?_
  simp at hA2
  have hd : (cnats .u32 (zeros 34)).drop 34 = [] := rfl
  simp [hA2, keep_cl, hd]
  have h3 : HShut [some (.cells (cnats .u32 v)), some (.cells (cnats .u32 (zeros 34)))] := fun n _ => by simp [Blk.cl]
  have hs3 := h3.self
  simp at hs3
  refine callS_of (ConstN c h3) ?_
  simp [hs3, keep_cl]
  obtain ⟨H3, hV, hV2⟩ := VarN (G := G) i h3
  simp at hV2
  refine callS_of hV ?_
  simp [hV2, keep_cl]
  obtain ⟨H4, hL, hL2⟩ := AluN (G := G) i h3
  simp at hL2
  refine callS_of hL ?_
  simp [hL2, keep_cl]
  refine callS_of (NegN i h3) ?_
  simp [hs3, keep_cl]
  refine callS_of (LenN _) ?_
  simp [hs3, keep_cl]
  refine callP_of hkn ?_
  simp
end Go.Ev

/- A book in memory: its values, and their numbers. -/
namespace Go.Ev
open Go Go.RowKit
variable {G : Tbl}
set_option maxRecDepth 10000
set_option maxHeartbeats 4000000
set_option linter.unusedSimpArgs false
set_option linter.unusedVariables false

/-! Cells that are alike. -/
theorem eqks_app : ∀ {k1 k2 : List Kd} {a b c d : List V} {x y : Bool}, eqks k1 a b = some x → eqks k2 c d = some y → eqks (k1 ++ k2) (a ++ c) (b ++ d) = some (x && y)
  | [], k2, [], [], c, d, x, y, h1, h2 => by simp only [eqks, Option.some.injEq] at h1; subst h1; simpa using h2
  | [], _, [], _ :: _, _, _, _, _, h, _ => by simp [eqks] at h
  | [], _, _ :: _, _, _, _, _, _, h, _ => by simp [eqks] at h
  | _ :: _, _, [], _, _, _, _, _, h, _ => by simp [eqks] at h
  | _ :: _, _, _ :: _, [], _, _, _, _, h, _ => by simp [eqks] at h
  | k :: k1, k2, a :: as, b :: bs, c, d, x, y, h1, h2 => by
    simp only [eqks] at h1
    split at h1
    case h_2 => cases h1
    rename_i u v hu hv
    simp only [Option.some.injEq] at h1
    subst h1
    simp only [List.cons_append, eqks, hu, eqks_app hv h2, Bool.and_assoc]
theorem eqks_k (k : IntKind) : ∀ {n : Nat} {a b : List Nat}, a.length = n → b.length = n → eqks (List.replicate n .int) (cnats k a) (cnats k b) = some (decide (a = b))
  | 0, [], [], _, _ => rfl
  | 0, _ :: _, _, h, _ => by simp at h
  | 0, [], _ :: _, _, h => by simp at h
  | n + 1, [], _, h, _ => by simp at h
  | n + 1, _ :: _, [], _, h => by simp at h
  | n + 1, x :: a, y :: b, h1, h2 => by
    have ih := eqks_k k (n := n) (a := a) (b := b) (by simpa using h1) (by simpa using h2)
    rw [List.replicate_succ]
    show eqks (.int :: List.replicate n .int) (.int k (x : Int) :: cnats k a) (.int k (y : Int) :: cnats k b) = _
    simp only [eqks, eqk, if_true, ih, Option.some.injEq]
    rw [Bool.eq_iff_iff]
    simp
theorem eqks_one (k : IntKind) (x y : Int) : eqks [.int] [.int k x] [.int k y] = some (decide (x = y)) := by
  simp only [eqks, eqk, if_true, Bool.and_true]
  congr 1
theorem eqks_nd {a b : Nd} (ha : a.ok) (hb : b.ok) : eqks (List.replicate 60 .int) a.cs b.cs = some (decide (a = b)) := by
  have h := eqks_app (eqks_one .i64 a.kind b.kind) (eqks_app (eqks_k .u32 ha.1 hb.1) (eqks_app (eqks_one .i64 a.n b.n) (eqks_app (eqks_k .i64 ha.2.1 hb.2.1) (eqks_app (eqks_k .u32 ha.2.2 hb.2.2)
    (eqks_app (eqks_one .i64 a.op b.op) (eqks_app (eqks_one .i64 a.x b.x) (eqks_one .i64 a.y b.y)))))))
  have hk : List.replicate 60 Kd.int = [Kd.int] ++ (List.replicate 35 .int ++ ([.int] ++ (List.replicate 4 .int ++ (List.replicate 16 .int ++ ([.int] ++ ([.int] ++ [.int])))))) := rfl
  rw [hk]
  have e1 : ∀ c : Nd, c.cs = [.int .i64 (c.kind : Int)] ++ (cnats .u32 c.f ++ ([.int .i64 (c.n : Int)] ++ (cnats .i64 c.vars ++ (cnats .u32 c.tab ++ ([.int .i64 c.op] ++ ([.int .i64 (c.x : Int)] ++ [.int .i64 (c.y : Int)])))))) := fun c => by simp [Nd.cs]
  rw [e1 a, e1 b, h]
  congr 1
  rw [Bool.eq_iff_iff]
  cases a; cases b
  simp
def K60 : List Kd := [Kd.int, .int, .int, .int, .int, .int, .int, .int, .int, .int, .int, .int, .int, .int, .int, .int, .int, .int, .int, .int, .int, .int, .int, .int, .int, .int, .int, .int, .int, .int, .int, .int, .int, .int, .int, .int, .int, .int, .int, .int, .int, .int, .int, .int, .int, .int, .int, .int, .int, .int, .int, .int, .int, .int, .int, .int, .int, .int, .int, .int]
theorem k60 : List.replicate 60 Kd.int = [Kd.int, .int, .int, .int, .int, .int, .int, .int, .int, .int, .int, .int, .int, .int, .int, .int, .int, .int, .int, .int, .int, .int, .int, .int, .int, .int, .int, .int, .int, .int, .int, .int, .int, .int, .int, .int, .int, .int, .int, .int, .int, .int, .int, .int, .int, .int, .int, .int, .int, .int, .int, .int, .int, .int, .int, .int, .int, .int, .int, .int] := rfl

/-- What the map has. -/
def entsF (i : Nat) : List Nd → List (V × V)
  | [] => []
  | a :: L => (.agg a.cs, .int .i64 (i : Int)) :: entsF (i + 1) L
def ents (L : List Nd) : List (V × V) := entsF 0 L
theorem entsF_app (a : Nd) : ∀ (L : List Nd) (i : Nat), entsF i (L ++ [a]) = entsF i L ++ [(.agg a.cs, .int .i64 ((i + L.length : Nat) : Int))]
  | [], i => by simp [entsF]
  | b :: L, i => by
    have := entsF_app a L (i + 1)
    simp only [List.cons_append, entsF, this, List.length_cons]
    rw [show i + 1 + L.length = i + (L.length + 1) by omega]
theorem mfind_in {a : Nd} (ha : a.ok) : ∀ {L : List Nd} (i : Nat), (∀ x ∈ L, x.ok) → a ∈ L → mfind (.row (List.replicate 60 .int)) (.agg a.cs) (entsF i L) i = some (some (i + L.idxOf a, .int .i64 ((i + L.idxOf a : Nat) : Int)))
  | [], i, _, h => by cases h
  | b :: L, i, hL, h => by
    simp only [entsF, mfind, keyEq, eqks_nd ha (hL b (by simp))]
    by_cases e : a = b
    · subst e; simp
    · have hm : a ∈ L := by simpa [e] using h
      have ih := mfind_in ha (i + 1) (fun x hx => hL x (by simp [hx])) hm
      have hix : (b :: L).idxOf a = L.idxOf a + 1 := by rw [List.idxOf_cons, beq_false_of_ne (Ne.symm e)]; rfl
      simp only [e, decide_false, ih, hix, show i + 1 + L.idxOf a = i + (L.idxOf a + 1) from by omega]
theorem mfind_out {a : Nd} (ha : a.ok) : ∀ {L : List Nd} (i : Nat), (∀ x ∈ L, x.ok) → a ∉ L → mfind (.row (List.replicate 60 .int)) (.agg a.cs) (entsF i L) i = some none
  | [], i, _, _ => rfl
  | b :: L, i, hL, h => by
    simp only [List.mem_cons, not_or] at h
    simp only [entsF, mfind, keyEq, eqks_nd ha (hL b (by simp)), h.1, decide_false]
    exact mfind_out ha (i + 1) (fun x hx => hL x (by simp [hx])) h.2

/-- The cells of a book's values. -/
def nds (L : List Nd) : List (List V) := L.map Nd.cs
def bookC (L : List Nd) (z m : Nat) : Blk := .cells [.vs (nds L) (.own z), .mp m]
/-- A book in memory. -/
structure Bk (H : Heap) (b z m : Nat) (L : List Nd) : Prop where
  hb : H[b]? = some (some (bookC L z m))
  hz : H[z]? = some (some (.zone L.length))
  hm : H[m]? = some (some (.map (ents L)))
  shut : HShut H
  ok : ∀ a ∈ L, a.ok
  small : L.length ≤ 1000000
/-- Memory with another book. -/
def upd (H : Heap) (b z m : Nat) (L : List Nd) : Heap := ((H.set b (some (bookC L z m))).set z (some (.zone L.length))).set m (some (.map (ents L)))
theorem upd_len (H : Heap) (b z m : Nat) (L : List Nd) : (upd H b z m L).length = H.length := by simp [upd]
section
variable {H : Heap} {b z m : Nat} {L L' : List Nd}
theorem Bk.bz (h : Bk H b z m L) : b ≠ z := fun e => by have h1 := h.hb; rw [e, h.hz] at h1; simp [bookC] at h1
theorem Bk.bm (h : Bk H b z m L) : b ≠ m := fun e => by have h1 := h.hb; rw [e, h.hm] at h1; simp [bookC] at h1
theorem Bk.zm (h : Bk H b z m L) : z ≠ m := fun e => by have h1 := h.hz; rw [e, h.hm] at h1; simp at h1
theorem Bk.lb (h : Bk H b z m L) : b < H.length := (List.getElem?_eq_some_iff.1 h.hb).1
theorem Bk.lz (h : Bk H b z m L) : z < H.length := (List.getElem?_eq_some_iff.1 h.hz).1
theorem Bk.lm (h : Bk H b z m L) : m < H.length := (List.getElem?_eq_some_iff.1 h.hm).1
theorem set_same {α : Type} {l : List α} {i : Nat} {a : α} (h : l[i]? = some a) : l.set i a = l := by
  apply List.ext_getElem?
  intro j
  rw [List.getElem?_set]
  by_cases e : i = j
  · subst e
    rw [if_pos rfl, if_pos (List.getElem?_eq_some_iff.1 h).1, h]
  · rw [if_neg e]
theorem Bk.upd_self (h : Bk H b z m L) : upd H b z m L = H := by
  unfold upd
  rw [set_same h.hb, set_same h.hz, set_same h.hm]
theorem ents_cl (n : Nat) : ∀ (L : List Nd) (i : Nat), (entsF i L).map (fun p => (p.1.cl n, p.2.cl n)) = entsF i L
  | [], i => rfl
  | a :: L, i => by
    have ih := ents_cl n L (i + 1)
    have hc : clL n a.cs = a.cs := by rw [clL_eq_map]; simp [Nd.cs, cnats, Function.comp_def, V.cl]
    simp only [entsF, List.map_cons, V.cl, hc, ih]
theorem map_set' {α β : Type} (f : α → β) : ∀ (l : List α) (i : Nat) (a : α), (l.set i a).map f = (l.map f).set i (f a) := fun l i a => List.map_set
theorem Bk.upd_shut (h : Bk H b z m L) (L' : List Nd) : HShut (upd H b z m L') := by
  intro n hn
  rw [upd_len] at hn
  have h1 := h.shut n hn
  have hz := h.lz
  have hm := h.lm
  unfold upd
  rw [map_set', map_set', map_set', h1]
  have c1 : Option.map (Blk.cl n) (some (bookC L' z m)) = some (bookC L' z m) := by
    simp [bookC, Blk.cl, clL, V.cl, Tk.cl, show z < n from by omega, show m < n from by omega]
  have c2 : Option.map (Blk.cl n) (some (Blk.zone L'.length)) = some (.zone L'.length) := rfl
  have c3 : Option.map (Blk.cl n) (some (Blk.map (ents L'))) = some (.map (ents L')) := by
    simp only [Option.map_some, Blk.cl, ents, ents_cl]
  rw [c1, c2, c3]
theorem Bk.upd_bk (h : Bk H b z m L) (hok : ∀ a ∈ L', a.ok) (hs : L'.length ≤ 1000000) : Bk (upd H b z m L') b z m L' := by
  have h1 := h.bz
  have h2 := h.bm
  have h3 := h.zm
  refine ⟨?_, ?_, ?_, h.upd_shut L', hok, hs⟩
  · unfold upd
    rw [List.getElem?_set_ne h2.symm, List.getElem?_set_ne h1.symm, List.getElem?_set_self h.lb]
  · unfold upd
    rw [List.getElem?_set_ne h3.symm, List.getElem?_set_self (by simp [h.lz])]
  · unfold upd
    rw [List.getElem?_set_self (by simp [h.lm])]
theorem Bk.app (h : Bk H b z m L) {r : Heap} (hr : ∀ n, r.map (Option.map (Blk.cl n)) = r) : Bk (H ++ r) b z m L :=
  ⟨by rw [List.getElem?_append_left h.lb]; exact h.hb, by rw [List.getElem?_append_left h.lz]; exact h.hz, by rw [List.getElem?_append_left h.lm]; exact h.hm, h.shut.app hr, h.ok, h.small⟩
theorem Bk.upd_app (h : Bk H b z m L) (r : Heap) (L' : List Nd) : upd (H ++ r) b z m L' = upd H b z m L' ++ r := by
  unfold upd
  rw [List.set_append_left _ _ h.lb, List.set_append_left _ _ (by simp [h.lz]), List.set_append_left _ _ (by simp [h.lm])]
theorem Bk.upd_upd (h : Bk H b z m L) (L1 L2 : List Nd) : upd (upd H b z m L1) b z m L2 = upd H b z m L2 := by
  have h1 := h.bz
  have h2 := h.bm
  have h3 := h.zm
  apply List.ext_getElem?
  intro i
  unfold upd
  simp only [List.getElem?_set, List.length_set]
  repeat' split
  all_goals first | rfl | omega
end

/-- A value is put into a book. -/
def insN (L : List Nd) (a : Nd) : List Nd := if a ∈ L then L else L ++ [a]
theorem idxOf_out {L : List Nd} {a : Nd} (h : a ∉ L) : L.idxOf a = L.length := List.idxOf_eq_length h
end Go.Ev

/- The smaller functions of a book. -/
namespace Go.Ev
open Go Go.RowKit
variable {G : Tbl}
set_option maxRecDepth 10000
set_option maxHeartbeats 4000000
set_option linter.unusedSimpArgs false
set_option linter.unusedVariables false
variable {H : Heap} {b z m : Nat} {L : List Nd}

/-- What a function's end must be, of which the blocks count. -/
def QX (res : List ResV) (R : V → Heap → Prop) (x : Ex) (e1 : Env) (H1 : Heap) : Prop := (x = .nx ∨ x = .ret) ∧ ∃ vs, evRess e1 H1 res = some vs ∧ R (resOf vs) H1
@[simp] theorem QX_nx (res : List ResV) (R : V → Heap → Prop) (e1 : Env) (H1 : Heap) : QX res R .nx e1 H1 = ∃ vs, evRess e1 H1 res = some vs ∧ R (resOf vs) H1 := by simp [QX]
@[simp] theorem QX_ret (res : List ResV) (R : V → Heap → Prop) (e1 : Env) (H1 : Heap) : QX res R .ret e1 H1 = ∃ vs, evRess e1 H1 res = some vs ∧ R (resOf vs) H1 := by simp [QX]
/-- A function that changes memory: from some blocks to others. -/
def SF (G : Tbl) (f : Nat) (args : List V) (H : Heap) (r : V) (H' : Heap) : Prop := ∃ r1 H1, Big G (.F f args H r1 H1) ∧ r1.cl H.length = r ∧ trunc H.length H1 = H'
theorem SF_of {f nt : Nat} {body : SCode} {res : List ResV} {args : List V} {r : V} {H H' : Heap} (hg : G f = some ⟨nt, body, res⟩) (hl : args.length ≤ nt)
    (h : W G body [] (mkE (idxE 0 args)) H (QX res fun r1 H1 => r1.cl H.length = r ∧ trunc H.length H1 = H')) : SF G f args H r H' := by
  obtain ⟨x, e1, H1, hb, hx, vs, hvs, hr, ht⟩ := h
  rw [← envOf_eq] at hb
  exact ⟨_, _, .fn hg hl hb hx hvs, hr, ht⟩
theorem callSF_of {f : Nat} {args : List V} {r : V} {H H' : Heap} {base : Nat} {d : Option Nat} {os : List SOper} {K : List Kt} {e : Env} {Q : Ex → Env → Heap → Prop} (h : SF G f args H r H')
    (hr : WO G base os K (e.put d r) H' Q) : callS G f args base d os K e H Q := by
  obtain ⟨r1, H1, hb, hr1, ht⟩ := h
  refine callS_of hb ?_
  rw [hr1, ht]
  exact hr
theorem Bk.back (h : Bk H b z m L) (L' : List Nd) (r : Heap) : trunc H.length (upd H b z m L' ++ r) = upd H b z m L' := by
  have := (h.upd_shut L').back r
  rwa [upd_len] at this

@[simp] theorem nds_length (L : List Nd) : (nds L).length = L.length := by simp [nds]
theorem nds_get {x : Nat} {a : Nd} (h : L[x]? = some a) : (nds L)[x]? = some a.cs := by simp [nds, h]
theorem nds_snoc (L : List Nd) (a : Nd) : nds L ++ [a.cs] = nds (L ++ [a]) := by simp [nds]
theorem nds_sz (h : ∀ a ∈ L, a.ok) : (∀ f ∈ nds L, f.length = 60) := by
  intro f hf
  simp only [nds, List.mem_map] at hf
  obtain ⟨a, ha, rfl⟩ := hf
  exact Nd.len (h a ha)
theorem Bk.hb' (h : Bk H b z m L) : H[b]? = some (some (.cells [.vs (nds L) (.own z), .mp m])) := h.hb

theorem Len_ok [HasSym G] (h : Bk H b z m L) : Big G (.F 257 [.ptr b 0] H (.int .i64 L.length) H) := by
  refine F_of HasSym.h_sym_Book_Len (Nat.le_of_ble_eq_true rfl) ?_
  have hb := h.hb'
  simp [hb]
def hasI (L : List Nd) (i : Int) : Bool := decide (0 ≤ i ∧ i < (L.length : Int))
theorem has_ok [HasSym G] (i : Int) (h : Bk H b z m L) : Big G (.F 258 [.ptr b 0, .int .i64 i] H (.bool (hasI L i)) H) := by
  refine F_of HasSym.h_sym_Book_has (Nat.le_of_ble_eq_true rfl) ?_
  have hs := h.shut.self
  by_cases h0 : 0 ≤ i
  · simp [h0]
    refine callS_of (Len_ok h) ?_
    simp [hs, hasI, h0]
  · simp [h0, hasI]
theorem asSum_ok [HasSym G] (x : Nat) (a : Nd) (h : Bk H b z m L) (hx : L[x]? = some a) : Big G (.F 264 [.ptr b 0, .int .i64 x] H (.tup [.agg (cnats .u32 a.f), .bool (decide (a.kind = 0))]) (H ++ [some (.cells (cnats .u32 a.f))])) := by
  refine F_of HasSym.h_sym_Book_asSum (Nat.le_of_ble_eq_true rfl) ?_
  have hlt := h.lb
  have hb := h.hb'
  have hb2 : ∀ r : Heap, (H ++ r)[b]? = some (some (.cells [.vs (nds L) (.own z), .mp m])) := fun r => by rw [List.getElem?_append_left hlt]; exact hb
  have hg := nds_get hx
  have hao := h.ok a (List.mem_of_getElem? hx)
  have hl := Nd.len hao
  have t1 : a.cs.take 1 = [.int .i64 (a.kind : Int)] := rfl
  have t35 : (a.cs.drop 1).take 35 = cnats .u32 a.f := by
    show (cnats .u32 a.f ++ _).take 35 = _
    rw [List.take_left' (by simp [hao.1])]
  have t35' : a.cs.tail.take 35 = cnats .u32 a.f := by rw [← List.drop_one]; exact t35
  have hd : (cnats .u32 (zeros 35)).drop 35 = [] := rfl
  have hne : b ≠ H.length := by omega
  have hne' : (H.length = b) = False := eq_false (by omega)
  have hf := hao.1
  have hk0 : ((a.kind : Int) == 0) = decide (a.kind = 0) := by rw [Bool.eq_iff_iff]; simp
  simp [hb2, hb, hg, hl, t1, t35, t35', hd, hne, hne', hf, take_full (k := .u32) hf, hk0]

/-- A value's number, and the book with it. -/
theorem id_ok [HasSym G] (a : Nd) (ha : a.ok) (h : Bk H b z m L) (hs : L.length < 1000000) : SF G 259 [.ptr b 0, .agg a.cs] H (.int .i64 (L.idxOf a : Nat)) (upd H b z m (insN L a)) := by
  have hlb := h.lb
  have hlz := h.lz
  have hlm := h.lm
  have hb := h.hb'
  have hbz := h.bz
  have hbm := h.bm
  have hzm := h.zm
  have hl := Nd.len ha
  have htk : a.cs.take 60 = a.cs := List.take_of_length_le (by omega)
  have hself := eqks_nd ha ha
  simp only [decide_true] at hself
  have hF : (H.length + 1 ≤ b) = False := eq_false (by omega)
  have hFs : (H.length + 1 ≤ H.length) = False := eq_false (by omega)
  have hF0 : (H.length = b) = False := eq_false (by omega)
  have hFm : (H.length = m) = False := eq_false (by omega)
  have hFz : (H.length = z) = False := eq_false (by omega)
  have hb2 : ∀ r : Heap, (H ++ r)[b]? = some (some (.cells [.vs (nds L) (.own z), .mp m])) := fun r => by rw [List.getElem?_append_left hlb]; exact hb
  have hm2 : ∀ r : Heap, (H ++ r)[m]? = some (some (.map (ents L))) := fun r => by rw [List.getElem?_append_left hlm]; exact h.hm
  have hz2 : ∀ r : Heap, (H ++ r)[z]? = some (some (.zone L.length)) := fun r => by rw [List.getElem?_append_left hlz]; exact h.hz
  refine SF_of HasSym.h_sym_Book_id (Nat.le_of_ble_eq_true rfl) ?_
  by_cases hin : a ∈ L
  · have hmf := mfind_in ha 0 h.ok hin
    simp only [Nat.zero_add] at hmf
    have hbk := h.shut.back
    have hu : upd H b z m (insN L a) = H := by rw [insN, if_pos hin, h.upd_self]
    simp [-List.reduceReplicate, hb2, hm2, hl, htk, hself, ents, hmf, hF, hF0, hFm, hFz, hFs, hbk, hu]
  · have hmf := mfind_out ha 0 h.ok hin
    have hset : ∀ (x : Option Blk) (r : Heap), (H ++ r).set m x = H.set m x ++ r := fun x r => List.set_append_left _ _ hlm
    obtain ⟨K, hK⟩ : ∃ K, K = H.set m (some (.map (ents (L ++ [a])))) := ⟨_, rfl⟩
    have hKl : K.length = H.length := by rw [hK, List.length_set]
    have he : entsF 0 L ++ [(V.agg a.cs, V.int .i64 (L.length : Int))] = ents (L ++ [a]) := by rw [ents, entsF_app, Nat.zero_add]
    have kb : ∀ r : Heap, (K ++ r)[b]? = some (some (.cells [.vs (nds L) (.own z), .mp m])) := fun r => by
      rw [List.getElem?_append_left (by omega), hK, List.getElem?_set_ne hbm.symm]; exact hb
    have kz : ∀ r : Heap, (K ++ r)[z]? = some (some (.zone L.length)) := fun r => by
      rw [List.getElem?_append_left (by omega), hK, List.getElem?_set_ne hzm.symm]; exact h.hz
    have kset : ∀ (x : Option Blk) (r : Heap), (K ++ r).set z x = K.set z x ++ r := fun x r => List.set_append_left _ _ (by omega)
    have kzb : ∀ (x : Option Blk) (r : Heap), (K.set z x ++ r)[b]? = some (some (.cells [.vs (nds L) (.own z), .mp m])) := fun x r => by
      rw [List.getElem?_append_left (by simp; omega), List.getElem?_set_ne hbz.symm]; have := kb []; simpa using this
    have kzset : ∀ (x y : Option Blk) (r : Heap), (K.set z x ++ r).set b y = (K.set z x).set b y ++ r := fun x y r => List.set_append_left _ _ (by simp; omega)
    have hlen := idxOf_out hin
    have hsz := nds_sz h.ok
    have hby : ((L.length + 1) * 280 ≤ 140737488355328) = True := eq_true (by omega)
    have hall : (∀ f ∈ nds L, f.length = 60) = True := eq_true hsz
    have hpure : a.cs.all V.pure = true := by simp [Nd.cs, cnats, V.pure]
    have hzl : Nd0.cs.length = 60 := rfl
    have hsn := nds_snoc L a
    have fin : (K.set z (some (.zone (L.length + 1)))).set b (some (.cells [.vs (nds (L ++ [a])) (.own z), .mp m])) = upd H b z m (insN L a) := by
      rw [insN, if_neg hin, upd, hK, bookC, List.length_append]
      apply List.ext_getElem?
      intro i
      simp only [List.getElem?_set, List.length_set]
      repeat' split
      all_goals first | rfl | omega
    have hbk := h.back (insN L a)
    have kh : ∀ r : Heap, (K ++ r)[H.length]? = r[0]? := fun r => by rw [← hKl, List.getElem?_append_right (Nat.le_refl _), Nat.sub_self]
    simp [-List.reduceReplicate, hb2, hm2, hl, htk, hself, ents, hmf, hF, hF0, hFm, hFz, hFs]
    simp [-List.reduceReplicate, hset, he, ← hK, kb, kz, hl, htk, hF, hF0, hFs, hby, hall, hpure, nz, hzl, hsz, kh, kset, kzb, kzset, hsn, fin, hbk, hlen, List.getElem?_append_left hlb]
end Go.Ev

/- Sums of multiples. -/
namespace Go.Ev
open Go Go.RowKit
variable {G : Tbl}
set_option maxRecDepth 10000
set_option maxHeartbeats 4000000
set_option linter.unusedSimpArgs false
set_option linter.unusedVariables false

/-- Two rows, the first places of which were worked on. -/
def mxA (o : Nat → Nat → Nat) (f g : List Nat) (i : Nat) : List Nat := List.zipWith o (f.take i) (g.take i) ++ f.drop i
section
variable {o : Nat → Nat → Nat} {f g : List Nat} {i n : Nat}
theorem mxA_len (hf : f.length = n) (hg : g.length = n) : (mxA o f g i).length = n := by simp [mxA, hf, hg]; omega
theorem mxA_zero : mxA o f g 0 = f := by simp [mxA]
theorem mxA_all (hf : f.length = n) (hg : g.length = n) : mxA o f g n = List.zipWith o f g := by
  rw [mxA, List.take_of_length_le (by omega), List.take_of_length_le (by omega), List.drop_eq_nil_of_le (by omega), List.append_nil]
theorem mxA_get (hf : f.length = n) (hg : g.length = n) (h : i < n) : (mxA o f g i)[i]? = some (f[i]'(by omega)) := by
  rw [mxA, List.getElem?_append_right (by simp; omega)]
  have e : i - (List.zipWith o (f.take i) (g.take i)).length = 0 := by simp; omega
  rw [e, List.getElem?_drop]
  exact get_in (by omega)
theorem mxA_set (hf : f.length = n) (hg : g.length = n) (h : i < n) : (mxA o f g i).set i (o (f[i]'(by omega)) (g[i]'(by omega))) = mxA o f g (i + 1) := by
  apply List.ext_getElem?
  intro j
  have hl : (mxA o f g i).length = n := mxA_len hf hg
  rw [List.getElem?_set]
  have hz : ∀ k, (List.zipWith o (f.take k) (g.take k)).length = min k n := fun k => by simp [hf, hg]
  by_cases hj : i = j
  · subst hj
    simp only [if_true, hl, h]
    rw [mxA, List.getElem?_append_left (by rw [hz]; omega)]
    simp [List.getElem?_zipWith, List.getElem?_take, show i < f.length by omega, show i < g.length by omega]
  · rw [if_neg hj, mxA, mxA]
    by_cases hlt : j < i
    · rw [List.getElem?_append_left (by rw [hz]; omega), List.getElem?_append_left (by rw [hz]; omega)]
      simp [List.getElem?_zipWith, List.getElem?_take, hlt, show j < i + 1 by omega]
    · rw [List.getElem?_append_right (by rw [hz]; omega), List.getElem?_append_right (by rw [hz]; omega), hz, hz]
      simp only [List.getElem?_drop]
      congr 1
      omega
end
theorem cnats_get1 (k : IntKind) (l : List Nat) (i : Nat) (h : i < l.length) : ((cnats k l).drop i).take 1 = [.int k (l[i] : Nat)] := cnats_get k l i h
theorem cnats_q {l : List Nat} {i x : Nat} (k : IntKind) (h : l[i]? = some x) : ((cnats k l).drop i).take 1 = [.int k (x : Int)] := by
  obtain ⟨h1, rfl⟩ := List.getElem?_eq_some_iff.1 h
  exact cnats_get k l i h1

section
variable {α : Type} (H l : List α)
theorem ap0 : (H ++ l)[H.length]? = l[0]? := by rw [List.getElem?_append_right (Nat.le_refl _), Nat.sub_self]
theorem apk (k : Nat) : (H ++ l)[H.length + k]? = l[k]? := by rw [List.getElem?_append_right (by omega), Nat.add_sub_cancel_left]
theorem set0 (x : α) : (H ++ l).set H.length x = H ++ l.set 0 x := by rw [List.set_append_right _ _ (Nat.le_refl _), Nat.sub_self]
theorem setk (k : Nat) (x : α) : (H ++ l).set (H.length + k) x = H ++ l.set k x := by rw [List.set_append_right _ _ (by omega), Nat.add_sub_cancel_left]
end

theorem both_ok [HasAffine G] (fn : Nat) (cap : List V) (o : Nat → Nat → Nat) (f g : List Nat) (H : Heap) (hs : HShut H) (hf : f.length = 35) (hg : g.length = 35) (hcap : ∀ n, H.length ≤ n → clL n cap = cap)
    (hc : ∀ (i : Nat) (h : i < 35) (r : Heap), Big G (.F fn ([.int .u32 (f[i]'(by omega) : Nat), .int .u32 (g[i]'(by omega) : Nat)] ++ cap) (H ++ r) (.int .u32 (o (f[i]'(by omega)) (g[i]'(by omega)) : Nat)) (H ++ r))) :
    Big G (.F 245 [.agg (cnats .u32 f), .agg (cnats .u32 g), .fn fn cap] H (.agg (cnats .u32 (List.zipWith o f g))) (H ++ [some (.cells (cnats .u32 (List.zipWith o f g))), some (.cells (cnats .u32 g)), some (.cells (cnats .u32 (List.zipWith o f g)))])) := by
  refine F_of HasAffine.h_affine_both (Nat.le_of_ble_eq_true rfl) ?_
  have hl0 : ∀ i, (mxA o f g i).length = 35 := fun i => mxA_len hf hg
  have hcl : ∀ r, HShut (H ++ [some (.cells (cnats .u32 r)), some (.cells (cnats .u32 g)), some (.cells (cnats .u32 (zeros 35)))]) := fun r => hs.app fun n => by simp [Blk.cl]
  have hb : ∀ r x, trunc (H.length + 3) (H ++ some (.cells (cnats .u32 r)) :: some (.cells (cnats .u32 g)) :: some (.cells (cnats .u32 (zeros 35))) :: x) = H ++ [some (.cells (cnats .u32 r)), some (.cells (cnats .u32 g)), some (.cells (cnats .u32 (zeros 35)))] := fun r x => by
    have := (hcl r).back x
    simpa using this
  have h0 := hc 0 (by omega)
  have g0 : ((cnats .u32 f).drop 0).take 1 = [.int .u32 (f[0] : Nat)] := cnats_get .u32 f 0 (by omega)
  have g0' : ((cnats .u32 g).drop 0).take 1 = [.int .u32 (g[0] : Nat)] := cnats_get .u32 g 0 (by omega)
  rw [List.drop_zero] at g0 g0'
  have htf := take_full (k := .u32) hf
  have htg := take_full (k := .u32) hg
  have e0 : V.int .u32 (o f[0] g[0] : Nat) :: (cnats .u32 f).drop 1 = cnats .u32 (mxA o f g 1) := by
    have h1 := cnats_set .u32 (mxA o f g 0) 0 (o f[0] g[0]) (by rw [hl0]; omega)
    rw [mxA_set hf hg (by omega), mxA_zero] at h1
    simpa using h1
  rw [List.drop_one] at e0
  obtain ⟨BB, hBB⟩ : ∃ BB : Nat → Heap, ∀ i, BB i = H ++ [some (.cells (cnats .u32 (mxA o f g (i + 1)))), some (.cells (cnats .u32 g)), some (.cells (cnats .u32 (zeros 35)))] := ⟨_, fun _ => rfl⟩
  simp [hf, hg, htf, htg, g0, g0', hb]
  refine callV_of (h0 _) (by simp) ?_
  simp [hb, hf, e0, keep_cl]
  refine W_up 34 (fun i => [(2, .fn fn cap), (3, .ptr H.length 0), (4, .ptr (H.length + 1) 0), (6, .ptr (H.length + 2) 0), (15, .int .i64 i)]) BB (fun _ => True) ?_ ?_
  · simp [keep_cl, hb, hBB, hcap]
  intro i hi _
  by_cases hlt : i < 34
  · have hfi := mxA_get (o := o) hf hg (show i + 1 < 35 by omega)
    have hgi : g[i + 1]? = some (g[i + 1]'(by omega)) := get_in (by omega)
    have q1 := cnats_q .u32 hfi
    have q2 := cnats_q .u32 hgi
    have hst := cnats_set .u32 (mxA o f g (i + 1)) (i + 1) (o (f[i + 1]'(by omega)) (g[i + 1]'(by omega))) (by rw [hl0]; omega)
    rw [mxA_set hf hg (by omega)] at hst
    simp (disch := omega) [ltT, ltF, leF, leFn, leTn, ap0, apk, set0, setk, hBB, hlt, hl0, hf, hg, show 1 + i = i + 1 from Nat.add_comm 1 i, q1, q2, -Int.natCast_add, hb]
    refine callV_of (hc (i + 1) (by omega) [some (.cells (cnats .u32 (mxA o f g (i + 1)))), some (.cells (cnats .u32 g)), some (.cells (cnats .u32 (zeros 35)))]) (fun _ => by have := hb (mxA o f g (i + 1)) []; simpa using this) ?_
    simp (disch := omega) [ltT, ltF, leF, leFn, leTn, ap0, apk, set0, setk, hBB, hlt, hl0, hf, hg, show 1 + i = i + 1 from Nat.add_comm 1 i, hst, -Int.natCast_add, hb, add1', keep_cl, hcap]
  · have hi34 : i = 34 := by omega
    subst hi34
    have hml := hl0 35
    have hm := mxA_all (o := o) hf hg
    have hzl : (List.zipWith o f g).length = 35 := by simp [hf, hg]
    simp (disch := omega) [ltT, ltF, leF, leFn, leTn, ap0, apk, set0, setk, hBB, hm, hzl, take_full (k := .u32) hzl]

/-- Sums, differences and multiples. -/
def fAdd (f g : List Nat) : List Nat := List.zipWith (fun a b => (a + b) % 4294967296) f g
def fSub (f g : List Nat) : List Nat := List.zipWith (fun a b => (a + 4294967296 - b) % 4294967296) f g
def fMul (f : List Nat) (k : Nat) : List Nat := f.map fun a => a * k % 4294967296
theorem Add1_ok [HasAffine G] (a b : Nat) (H : Heap) : Big G (.F 246 [.int .u32 a, .int .u32 b] H (.int .u32 ((a + b) % 4294967296 : Nat)) H) := by
  refine F_of HasAffine.h_affine_Add_1 (Nat.le_of_ble_eq_true rfl) ?_
  simp
  simp [addI, wrap32]
theorem Sub1_ok [HasAffine G] (a b : Nat) (hb : b < 4294967296) (H : Heap) : Big G (.F 248 [.int .u32 a, .int .u32 b] H (.int .u32 ((a + 4294967296 - b) % 4294967296 : Nat)) H) := by
  refine F_of HasAffine.h_affine_Sub_1 (Nat.le_of_ble_eq_true rfl) ?_
  simp
  simp [subI, wrap32]
  omega
theorem Mul1_ok [HasAffine G] (a b k p : Nat) (H : Heap) (hp : H[p]? = some (some (.cells [.int .u32 k]))) : Big G (.F 250 [.int .u32 a, .int .u32 b, .ptr p 0] H (.int .u32 (a * k % 4294967296 : Nat)) H) := by
  refine F_of HasAffine.h_affine_Mul_1 (Nat.le_of_ble_eq_true rfl) ?_
  simp [hp]
  simp [mulI, wrap32]
theorem fAdd_ok [HasAffine G] (f g : List Nat) (hf : f.length = 35) (hg : g.length = 35) : FP G 247 [.agg (cnats .u32 f), .agg (cnats .u32 g)] (.agg (cnats .u32 (fAdd f g))) := by
  refine FP_of HasAffine.h_affine_Add (Nat.le_of_ble_eq_true rfl) ?_
  have htf := take_full (k := .u32) hf
  have htg := take_full (k := .u32) hg
  have hl : (fAdd f g).length = 35 := by simp [fAdd, hf, hg]
  have htl := take_full (k := .u32) hl
  have hs : HShut [some (.cells (cnats .u32 f)), some (.cells (cnats .u32 g)), some (.cells (cnats .u32 (zeros 35)))] := fun n _ => by simp [Blk.cl]
  have hb := hs.back
  simp at hb
  simp [hf, hg, htf, htg]
  refine callS_of (both_ok 246 [] (fun a b => (a + b) % 4294967296) f g _ hs hf hg (fun _ _ => rfl) (fun i h r => Add1_ok _ _ _)) ?_
  have e : List.zipWith (fun a b => (a + b) % 4294967296) f g = fAdd f g := rfl
  simp [e, hb, hl, htl]
theorem fSub_ok [HasAffine G] (f g : List Nat) (hf : f.length = 35) (hg : g.length = 35) (hgw : ∀ x ∈ g, x < 4294967296) : FP G 249 [.agg (cnats .u32 f), .agg (cnats .u32 g)] (.agg (cnats .u32 (fSub f g))) := by
  refine FP_of HasAffine.h_affine_Sub (Nat.le_of_ble_eq_true rfl) ?_
  have htf := take_full (k := .u32) hf
  have htg := take_full (k := .u32) hg
  have hl : (fSub f g).length = 35 := by simp [fSub, hf, hg]
  have htl := take_full (k := .u32) hl
  have hs : HShut [some (.cells (cnats .u32 f)), some (.cells (cnats .u32 g)), some (.cells (cnats .u32 (zeros 35)))] := fun n _ => by simp [Blk.cl]
  have hb := hs.back
  simp at hb
  simp [hf, hg, htf, htg]
  refine callS_of (both_ok 248 [] (fun a b => (a + 4294967296 - b) % 4294967296) f g _ hs hf hg (fun _ _ => rfl) (fun i h r => Sub1_ok _ _ (hgw _ (List.getElem_mem _)) _)) ?_
  have e : List.zipWith (fun a b => (a + 4294967296 - b) % 4294967296) f g = fSub f g := rfl
  simp [e, hb, hl, htl]
theorem fMul_ok [HasAffine G] (f : List Nat) (k : Nat) (hf : f.length = 35) : FP G 251 [.agg (cnats .u32 f), .int .u32 k] (.agg (cnats .u32 (fMul f k))) := by
  refine FP_of HasAffine.h_affine_Mul (Nat.le_of_ble_eq_true rfl) ?_
  have htf := take_full (k := .u32) hf
  have hl : (fMul f k).length = 35 := by simp [fMul, hf]
  have htl := take_full (k := .u32) hl
  have hs : HShut [some (.cells (cnats .u32 f)), some (.cells [.int .u32 k]), some (.cells (cnats .u32 (zeros 35)))] := fun n _ => by simp [Blk.cl]
  have hb := hs.back
  simp at hb
  simp [hf, htf]
  refine callS_of (both_ok 250 [.ptr 1 0] (fun a _ => a * k % 4294967296) f f _ hs hf hf (fun n hn => by simp at hn; simp [clL, V.cl, show 1 < n by omega]) (fun i h r => Mul1_ok _ _ k 1 _ (by simp))) ?_
  have e : f.map (fun a => a * k % 4294967296) = fMul f k := rfl
  simp [e, hb, hf, hl, htl]
/-- The number that a form always is. -/
def fConst (f : List Nat) : Option Nat := if f.drop 1 = zeros 34 then f.head? else none
theorem fConst_ok [HasAffine G] (f : List Nat) (hf : f.length = 35) : FP G 253 [.agg (cnats .u32 f)] (.tup [.int .u32 ((fConst f).getD 0 : Nat), .bool (fConst f).isSome]) := by
  refine FP_of HasAffine.h_affine_Constant (Nat.le_of_ble_eq_true rfl) ?_
  obtain ⟨c, t, rfl⟩ : ∃ c t, f = c :: t := by cases f with | nil => simp at hf | cons c t => exact ⟨c, t, rfl⟩
  have ht : t.length = 34 := by simpa using hf
  have hc : cnats .u32 (c :: t) = .int .u32 (c : Int) :: cnats .u32 t := rfl
  have he := eqks_k .u32 (n := 34) (a := t) (b := zeros 34) ht (by simp)
  have htt := take_full (k := .u32) ht
  by_cases e : t = zeros 34
  · have hfc : fConst (c :: t) = some c := by simp [fConst, e]
    rw [decide_eq_true e] at he
    simp [-List.reduceReplicate, hc, ht, htt, he, hfc]
  · have hfc : fConst (c :: t) = none := by simp [fConst, e]
    rw [decide_eq_false e] at he
    simp [-List.reduceReplicate, hc, ht, htt, he, hfc]
/-- A form's number. -/
def fSum (f v : List Nat) (i : Nat) : Nat := ((List.zipWith (· * ·) (f.drop 1) v).take i).sum
def fEval (f v : List Nat) : Nat := (f.headD 0 + fSum f v 34) % 4294967296
theorem fEval_ok [HasAffine G] (f v : List Nat) (hf : f.length = 35) (hv : v.length = 34) (hfw : ∀ x ∈ f, x < 4294967296) : FP G 252 [.agg (cnats .u32 f), .agg (cnats .u32 v)] (.int .u32 (fEval f v : Nat)) := by
  refine FP_of HasAffine.h_affine_Eval (Nat.le_of_ble_eq_true rfl) ?_
  obtain ⟨c, t, rfl⟩ : ∃ c t, f = c :: t := by cases f with | nil => simp at hf | cons c t => exact ⟨c, t, rfl⟩
  have ht : t.length = 34 := by simpa using hf
  have hc : cnats .u32 (c :: t) = .int .u32 (c : Int) :: cnats .u32 t := rfl
  have htt := take_full (k := .u32) ht
  have htv := take_full (k := .u32) hv
  have hcw : c < 4294967296 := hfw c (by simp)
  simp [hc, ht, htt, hv, htv]
  obtain ⟨S, hS⟩ : ∃ S : Nat → Nat, ∀ i, S i = (c + fSum (c :: t) v i) % 4294967296 := ⟨_, fun _ => rfl⟩
  have S0 : S 0 = c := by rw [hS]; simp [fSum]; omega
  have S34 : S 34 = fEval (c :: t) v := by rw [hS]; rfl
  have Ss : ∀ (i : Nat) (h : i < 34), (S i + (t[i]'(by omega)) * (v[i]'(by omega))) % 4294967296 = S (i + 1) := fun i h => by
    rw [hS, hS, fSum, fSum, List.take_add_one, List.getElem?_eq_getElem (by simp; omega)]
    simp
    omega
  refine W_up 34 (fun i => [(3, .ptr 1 0), (5, .int .u32 (S i : Nat)), (11, .agg (cnats .u32 t)), (12, .int .i64 i)]) (fun _ => [some (.cells (.int .u32 (c : Int) :: cnats .u32 t)), some (.cells (cnats .u32 v))]) (fun _ => True) ?_ ?_
  · simp [keep_cl, S0, trunc, clL, V.cl]
  intro i hi _
  by_cases hlt : i < 34
  · have q1 := cnats_q .u32 (get_in (show i < t.length by omega))
    have q2 := cnats_q .u32 (get_in (show i < v.length by omega))
    have m : addI .u32 (S i : Int) (mulI .u32 (t[i] : Nat) (v[i] : Nat)) = ((S (i + 1) : Nat) : Int) := by
      rw [← Ss i hlt]; simp [addI, mulI, wrap32]
    simp (disch := omega) [ltT, ltF, leF, leFn, leTn, hlt, ht, hv, q1, q2, m, -Int.natCast_add, add1', keep_cl, trunc, clL, V.cl]
  · have hi34 : i = 34 := by omega
    subst hi34
    simp [S34]
/-- Which variable a form is. -/
def fOne (f : List Nat) : Option Nat := (List.range 34).find? fun i => decide (f = varL i)
theorem fOne_ok [HasAffine G] (f : List Nat) (hf : f.length = 35) : FP G 254 [.agg (cnats .u32 f)] (.tup [.int .i64 ((fOne f).getD 0 : Nat), .bool (fOne f).isSome]) := by
  refine FP_of HasAffine.h_affine_Single (Nat.le_of_ble_eq_true rfl) ?_
  obtain ⟨c, t, rfl⟩ : ∃ c t, f = c :: t := by cases f with | nil => simp at hf | cons c t => exact ⟨c, t, rfl⟩
  have ht : t.length = 34 := by simpa using hf
  have hc : cnats .u32 (c :: t) = .int .u32 (c : Int) :: cnats .u32 t := rfl
  have htt := take_full (k := .u32) ht
  have htf := take_full (k := .u32) hf
  rw [hc] at htf
  have hk : (List.replicate 35 Kd.int) = Kd.int :: List.replicate 34 .int := rfl
  simp [-List.reduceReplicate, hc, ht, htt]
  refine W_up 34 (fun i => [(1, .ptr 0 0), (9, .agg (cnats .u32 t)), (10, .int .i64 i)]) (fun _ => [some (.cells (.int .u32 (c : Int) :: cnats .u32 t))]) (fun i => ∀ j, j < i → c :: t ≠ varL j) ?_ ?_
  · simp [keep_cl, trunc, clL, V.cl]
  intro i hi hp
  by_cases hlt : i < 34
  · have q1 := cnats_q .u32 (get_in (show i < t.length by omega))
    have hd : (cnats .u32 (zeros 35)).drop 35 = [] := rfl
    have hvl : (varL i).length = 35 := by simp [varL]
    have htv := take_full (k := .u32) hvl
    have he := eqks_k .u32 (n := 35) (a := varL i) (b := c :: t) hvl hf
    rw [hc] at he
    have g1 : c :: t = varL i → t[i] = 1 := fun e => by
      have h1 : (c :: t)[i + 1]? = some 1 := by rw [e, varL, List.getElem?_set_self (by simp; omega)]
      rw [List.getElem?_cons_succ, get_in (by omega)] at h1
      exact Option.some.inj h1
    simp (disch := omega) [-List.reduceReplicate, ltT, ltF, leF, leFn, leTn, hlt, ht, q1]
    refine callP_of (affVar_ok i hlt) ?_
    by_cases h1 : t[i] = 1
    · by_cases e : varL i = c :: t
      · have hone : fOne (c :: t) = some i := by
          rw [fOne, List.find?_range_eq_some]
          exact ⟨by simpa using e.symm, List.mem_range.2 hlt, fun j hj => by simpa using hp j hj⟩
        rw [decide_eq_true e] at he
        simp (disch := omega) [-List.reduceReplicate, ltT, ltF, leF, leFn, leTn, hlt, ht, hvl, htv, htf, hd, h1, he, hone]
      · rw [decide_eq_false e] at he
        have hp' : ∀ j, j < i + 1 → c :: t ≠ varL j := fun j hj => by
          by_cases e' : j = i
          · subst e'; exact fun h => e h.symm
          · exact hp j (by omega)
        simp (disch := omega) [-List.reduceReplicate, ltT, ltF, leF, leFn, leTn, hlt, ht, hvl, htv, htf, hd, h1, he, -Int.natCast_add, add1', keep_cl, trunc, clL, V.cl]
        exact hp'
    · have hp' : ∀ j, j < i + 1 → c :: t ≠ varL j := fun j hj => by
        by_cases e' : j = i
        · subst e'; exact fun h => h1 (g1 h)
        · exact hp j (by omega)
      have h1' : ((t[i] : Int) == 1) = false := by rw [beq_eq_false_iff_ne]; omega
      simp (disch := omega) [-List.reduceReplicate, ltT, ltF, leF, leFn, leTn, hlt, ht, hvl, htv, htf, hd, h1, h1', -Int.natCast_add, add1', keep_cl, trunc, clL, V.cl]
      exact hp'
  · have hi34 : i = 34 := by omega
    subst hi34
    have hnone : fOne (c :: t) = none := by
      rw [fOne, List.find?_eq_none]
      intro j hj
      simpa using hp j (List.mem_range.1 hj)
    simp [hnone]
end Go.Ev
