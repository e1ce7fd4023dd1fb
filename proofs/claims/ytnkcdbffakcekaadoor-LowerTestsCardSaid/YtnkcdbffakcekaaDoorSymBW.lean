/- A book in memory: its values, and their numbers. -/
import Derived.Test.YtnkcdbffakcekaaDoorInsAW
import Derived.Test.YtnkcdbffakcekaaDoorEvRefCW
import Derived.Test.YtnkcdbffakcekaaDoorEvNW
set_option linter.unusedVariables false
set_option linter.unusedSimpArgs false
namespace Go.Ev
open Go Go.RowKit
variable {G : Tbl}
set_option maxRecDepth 10000
set_option maxHeartbeats 4000000
set_option linter.unusedSimpArgs false
set_option linter.unusedVariables false
def entsF (i : Nat) : List Nd → List (V × V)
 | [] => []
 | a :: L => (.agg a.cs, .int .i64 (i : Int)) :: entsF (i + 1) L
def ents (L : List Nd) : List (V × V) := entsF 0 L
def nds (L : List Nd) : List (List V) := L.map Nd.cs
def bookC (L : List Nd) (z m : Nat) : Blk := .cells [.vs (nds L) (.own z), .mp m]
structure Bk (H : Heap) (b z m : Nat) (L : List Nd) : Prop where
 hb : H[b]? = some (some (bookC L z m))
 hz : H[z]? = some (some (.zone L.length))
 hm : H[m]? = some (some (.map (ents L)))
 shut : HShut H
 ok : ∀ a ∈ L, a.ok
 small : L.length ≤ 1000000
def upd (H : Heap) (b z m : Nat) (L : List Nd) : Heap := ((H.set b (some (bookC L z m))).set z (some (.zone L.length))).set m (some (.map (ents L)))
theorem upd_len (H : Heap) (b z m : Nat) (L : List Nd) : (upd H b z m L).length = H.length := by simp [upd]
section
variable {H : Heap} {b z m : Nat} {L L' : List Nd}
theorem Bk.bm (h : Bk H b z m L) : b ≠ m := fun e => by have h1 := h.hb; rw [e, h.hm] at h1; simp [bookC] at h1
theorem Bk.lb (h : Bk H b z m L) : b < H.length := (List.getElem?_eq_some_iff.1 h.hb).1
theorem Bk.lz (h : Bk H b z m L) : z < H.length := (List.getElem?_eq_some_iff.1 h.hz).1
theorem Bk.lm (h : Bk H b z m L) : m < H.length := (List.getElem?_eq_some_iff.1 h.hm).1
theorem ents_cl (n : Nat) : ∀ (L : List Nd) (i : Nat), (entsF i L).map (fun p => (p.1.cl n, p.2.cl n)) = entsF i L
 | [], i => rfl
 | a :: L, i => by
  have ih := ents_cl n L (i + 1)
  have hc : clL n a.cs = a.cs := by rw [clL_eq_map]; simp [Nd.cs, cnats, Function.comp_def, V.cl]
  simp only [entsF, List.map_cons, V.cl, hc, ih]
theorem map_set' {α β : Type} (f : α → β) : ∀ (l : List α) (i : Nat) (a : α), (l.set i a).map f = (l.map f).set i (f a) := fun l i a => List.map_set
theorem Bk.upd_shut (h : Bk H b z m L) (L' : List Nd) : HShut (upd H b z m L') := by
 intro n hn
 rw [upd_len] at hn
 have h1 := h.shut n hn
 have hz := h.lz
 have hm := h.lm
 unfold upd
 rw [map_set', map_set', map_set', h1]
 have c1 : Option.map (Blk.cl n) (some (bookC L' z m)) = some (bookC L' z m) := by
  simp [bookC, Blk.cl, clL, V.cl, Tk.cl, show z < n from by omega, show m < n from by omega]
 have c2 : Option.map (Blk.cl n) (some (Blk.zone L'.length)) = some (.zone L'.length) := rfl
 have c3 : Option.map (Blk.cl n) (some (Blk.map (ents L'))) = some (.map (ents L')) := by
  simp only [Option.map_some, Blk.cl, ents, ents_cl]
 rw [c1, c2, c3]
theorem Bk.app (h : Bk H b z m L) {r : Heap} (hr : ∀ n, r.map (Option.map (Blk.cl n)) = r) : Bk (H ++ r) b z m L :=
 ⟨by rw [List.getElem?_append_left h.lb]; exact h.hb, by rw [List.getElem?_append_left h.lz]; exact h.hz, by rw [List.getElem?_append_left h.lm]; exact h.hm, h.shut.app hr, h.ok, h.small⟩
end
end Go.Ev
/- The smaller functions of a book. -/
namespace Go.Ev
open Go Go.RowKit
variable {G : Tbl}
set_option maxRecDepth 10000
set_option maxHeartbeats 4000000
set_option linter.unusedSimpArgs false
set_option linter.unusedVariables false
variable {H : Heap} {b z m : Nat} {L : List Nd}
def QX (res : List ResV) (R : V → Heap → Prop) (x : Ex) (e1 : Env) (H1 : Heap) : Prop := (x = .nx ∨ x = .ret) ∧ ∃ vs, evRess e1 H1 res = some vs ∧ R (resOf vs) H1
@[simp] theorem QX_nx (res : List ResV) (R : V → Heap → Prop) (e1 : Env) (H1 : Heap) : QX res R .nx e1 H1 = ∃ vs, evRess e1 H1 res = some vs ∧ R (resOf vs) H1 := by simp [QX]
@[simp] theorem QX_ret (res : List ResV) (R : V → Heap → Prop) (e1 : Env) (H1 : Heap) : QX res R .ret e1 H1 = ∃ vs, evRess e1 H1 res = some vs ∧ R (resOf vs) H1 := by simp [QX]
def SF (G : Tbl) (f : Nat) (args : List V) (H : Heap) (r : V) (H' : Heap) : Prop := ∃ r1 H1, Big G (.F f args H r1 H1) ∧ r1.cl H.length = r ∧ trunc H.length H1 = H'
theorem SF_of {f nt : Nat} {body : SCode} {res : List ResV} {args : List V} {r : V} {H H' : Heap} (hg : G f = some ⟨nt, body, res⟩) (hl : args.length ≤ nt)
  (h : W G body [] (mkE (idxE 0 args)) H (QX res fun r1 H1 => r1.cl H.length = r ∧ trunc H.length H1 = H')) : SF G f args H r H' := by
 obtain ⟨x, e1, H1, hb, hx, vs, hvs, hr, ht⟩ := h
 rw [← envOf_eq] at hb
 exact ⟨_, _, .fn hg hl hb hx hvs, hr, ht⟩
theorem callSF_of {f : Nat} {args : List V} {r : V} {H H' : Heap} {base : Nat} {d : Option Nat} {os : List SOper} {K : List Kt} {e : Env} {Q : Ex → Env → Heap → Prop} (h : SF G f args H r H')
  (hr : WO G base os K (e.put d r) H' Q) : callS G f args base d os K e H Q := by
 obtain ⟨r1, H1, hb, hr1, ht⟩ := h
 refine callS_of hb ?_
 rw [hr1, ht]
 exact hr
theorem Bk.back (h : Bk H b z m L) (L' : List Nd) (r : Heap) : trunc H.length (upd H b z m L' ++ r) = upd H b z m L' := by
 have := (h.upd_shut L').back r
 rwa [upd_len] at this
@[simp] theorem nds_length (L : List Nd) : (nds L).length = L.length := by simp [nds]
theorem Bk.hb' (h : Bk H b z m L) : H[b]? = some (some (.cells [.vs (nds L) (.own z), .mp m])) := h.hb
end Go.Ev
/- Conditions, actions' names, policies that may be: contracts. -/
namespace Go.Ev
open Go Go.RowKit
variable {G : Tbl}
set_option maxRecDepth 10000
set_option maxHeartbeats 4000000
set_option linter.unusedSimpArgs false
set_option linter.unusedVariables false
def Cd.cs (c : Cd) : List V := [.int .i64 c.arg, .int .i64 c.cmp, .int .u64 (c.mask : Int), .int .u64 (c.val : Int)]
def CL (l : List Cd) : List (List V) := l.map Cd.cs
@[simp] theorem CL_length (l : List Cd) : (CL l).length = l.length := by simp [CL]
theorem CondR_ok [HasCondR G] (c : Cd) : FP G 396 [.agg c.cs] (.bool c.right) := by
 refine FP_of HasCondR.h_cond_Right (Nat.le_of_ble_eq_true rfl) ?_
 by_cases h1 : 0 ≤ c.arg
 ·by_cases h2 : c.arg < 6
  ·by_cases h3 : 0 ≤ c.cmp
   ·by_cases h4 : c.cmp ≤ 5
    ·have h2' : c.arg ≤ 5 := by omega
     simp [Cd.cs, Cd.right, h1, h2, h3, h4, h2']
    ·simp [Cd.cs, Cd.right, h1, h2, h3, h4]
   ·simp [Cd.cs, Cd.right, h1, h2, h3]
  ·have h2' : ¬ c.arg ≤ 5 := by omega
   simp [Cd.cs, Cd.right, h1, h2, h2']
 ·simp [Cd.cs, Cd.right, h1]
def kindsV : List V := [.str [101, 113], .fn 397 [], .int .i64 1, .str [110, 101], .fn 398 [], .int .i64 0, .str [108, 116], .fn 399 [], .int .i64 5, .str [108, 101], .fn 400 [], .int .i64 4, .str [103, 116], .fn 401 [], .int .i64 3, .str [103, 101], .fn 402 [], .int .i64 2]
theorem kinds_ok [HasCondN G] : FP G 403 [] (.agg kindsV) := by
 refine FP_of HasCondN.h_cond_kinds (Nat.le_of_ble_eq_true rfl) ?_
 simp [kindsV]
def notC (c : Cd) : Cd := if c.right then { c with cmp := notCmp c.cmp } else c
theorem Not_ok [HasCondR G] [HasCondN G] (c : Cd) : FP G 404 [.agg c.cs] (.agg (notC c).cs) := by
 refine FP_of HasCondN.h_cond_Not (Nat.le_of_ble_eq_true rfl) ?_
 have hr := CondR_ok (G := G) c
 simp only [Cd.cs] at hr
 simp [Cd.cs]
 refine callP_of hr ?_
 cases h : c.right with
 | false => simp [notC, h]
 | true =>
  have h' := h
  simp only [Cd.right, decide_eq_true_eq] at h'
  obtain ⟨_, _, h3, h4⟩ := h'
  simp
  refine callP_of kinds_ok ?_
  have hc : c.cmp = 0 ∨ c.cmp = 1 ∨ c.cmp = 2 ∨ c.cmp = 3 ∨ c.cmp = 4 ∨ c.cmp = 5 := by omega
  rcases hc with hc | hc | hc | hc | hc | hc <;> simp [notC, h, hc, kindsV, notCmp]
end Go.Ev
/- Arguments of the statements: conditions. -/
namespace Go.Ev
open Go Go.RowKit
set_option linter.unusedSimpArgs false
set_option linter.unusedVariables false
theorem cond_cells {cs : List V} (h : HasTy (.agg [.int .i64, .int .i64, .int .u64, .int .u64]) cs) : ∃ x : Cd, cs = x.cs ∧ x.ok := by
 unfold HasTy HasTys at h
 obtain ⟨a, b, rfl, h1, h⟩ := h
 unfold HasTys at h
 obtain ⟨c, d, rfl, h2, h⟩ := h
 unfold HasTys at h
 obtain ⟨f, g, rfl, h3, h⟩ := h
 unfold HasTys at h
 obtain ⟨k, l, rfl, h4, h⟩ := h
 unfold HasTys at h
 subst h
 obtain ⟨n1, rfl, w1⟩ := hasty_int h1
 obtain ⟨n2, rfl, w2⟩ := hasty_int h2
 obtain ⟨n3, rfl, w3⟩ := u64_cell h3
 obtain ⟨n4, rfl, w4⟩ := u64_cell h4
 exact ⟨⟨n1, n2, n3, n4⟩, rfl, w3, w4⟩
theorem cond_arg {v : V} (h : ArgIs (.agg [.int .i64, .int .i64, .int .u64, .int .u64]) v) : ∃ x : Cd, v = .agg x.cs ∧ x.ok := by
 unfold ArgIs at h
 obtain ⟨cs, rfl, h⟩ := h
 obtain ⟨x, rfl, hx⟩ := cond_cells h
 exact ⟨x, rfl, hx⟩
end Go.Ev
/- Labels and branches: contracts. -/
namespace Go.Ev
open Go Go.RowKit
variable {G : Tbl}
set_option maxRecDepth 10000
set_option maxHeartbeats 4000000
set_option linter.unusedSimpArgs false
set_option linter.unusedVariables false
theorem ahead_ok [HasCode G] (c : List In4) (x : In4) (h : c.length < 4096) : FP G 407 [FL c, FL [x]] (.tup [FL (x :: c), .int .i64 (c.length + 1 : Nat), .int .i64 0]) := by
 refine FP_of HasCode.h_code_ahead (Nat.le_of_ble_eq_true rfl) ?_
 have e1 : addI .i64 (c.length : Int) 1 = ((c.length + 1 : Nat) : Int) := by rw [addI64] <;> omega
 have e2 : (4096 < ((c.length + 1 : Nat) : Int)) = False := eq_false (by omega)
 have i2 : ((1 + c.length) * 32 ≤ 140737488355328) = True := eq_true (by omega)
 have hx : IL [x] = [x.cs] := rfl
 have hxc : ∀ c, x.cs :: IL c = IL (x :: c) := fun _ => rfl
 by_cases hl : c = []
 ·subst hl
  have e1 : addI .i64 (0 : Int) 1 = 1 := rfl
  simp [FL, e1, hx, keep_cl, trunc, chunks]
 ·have hl' : (IL c = []) = False := eq_false (by simpa [IL_eq_nil] using hl)
  simp [FL, e1, e2, i2, hl', hx, hxc, keep_cl, trunc, IL_append, chunks, -Int.natCast_add]
theorem label_ok [HasCode G] (c : List In4) (t : Nat) : FP G 408 [FL c, .int .i64 t] (.bool (decide (1 ≤ t ∧ t ≤ c.length))) := by
 refine FP_of HasCode.h_code_label (Nat.le_of_ble_eq_true rfl) ?_
 by_cases h1 : 1 ≤ t
 ·have e1 : (1 ≤ (t : Int)) = True := eq_true (by omega)
  have e2 : ((t : Int) ≤ (c.length : Int)) = (t ≤ c.length) := by simp
  simp [FL, e1, e2, h1]
 ·have e1 : (1 ≤ (t : Int)) = False := eq_false (by omega)
  simp [FL, e1, h1]
theorem Add_ok [HasIns G] [HasCode G] (c : List In4) (op : Int) (k : Nat) (ho : addOk op k) (h : c.length < 4096) : FP G 409 [FL c, IV ⟨op, 0, 0, k⟩] (.tup [FL (putF c op k), .int .i64 (putF c op k).length, .int .i64 0]) := by
 refine FP_of HasCode.h_code_Add (Nat.le_of_ble_eq_true rfl) ?_
 obtain ⟨a1, a2, a3, a4⟩ := add_right ho
 have w1 := RightI_ok (G := G) ⟨op, 0, 0, k⟩
 have w2 := Branch_ok (G := G) ⟨op, 0, 0, k⟩
 have w3 := ahead_ok (G := G) c ⟨op, 0, 0, k⟩ h
 rw [a1] at w1
 rw [a3] at w2
 simp only [IV, In4.cs, FL, IL, List.map_cons, List.map_nil] at w1 w2 w3
 simp [FL, IV, In4.cs]
 refine callP_of w1 ?_
 simp [beqF a4]
 refine callP_of w2 ?_
 simp
 refine callP_of w3 ?_
 simp [putF, IL, In4.cs]
theorem Jump_ok [HasCode G] (c : List In4) (t : Nat) (ht : 1 ≤ t ∧ t < c.length) (h : c.length < 4096) : FP G 410 [FL c, .int .i64 t] (.tup [FL (⟨5, 0, 0, c.length - t⟩ :: c), .int .i64 (c.length + 1 : Nat), .int .i64 0]) := by
 refine FP_of HasCode.h_code_Jump (Nat.le_of_ble_eq_true rfl) ?_
 have w1 := label_ok (G := G) c t
 rw [decide_eq_true (show 1 ≤ t ∧ t ≤ c.length by omega)] at w1
 have w3 := ahead_ok (G := G) c ⟨5, 0, 0, c.length - t⟩ h
 simp only [IV, In4.cs, FL, IL, List.map_cons, List.map_nil] at w1 w3
 have e1 : ((t : Int) = (c.length : Int)) = False := eq_false (by omega)
 have e1' : ((t : Int) == (c.length : Int)) = false := by simp; omega
 have e2 : subI .i64 (c.length : Int) (t : Int) = ((c.length - t : Nat) : Int) := by rw [subI64] <;> omega
 have e3 : convI .u32 ((c.length - t : Nat) : Int) = ((c.length - t : Nat) : Int) := IntWalk.u32_in _ ⟨by omega, by omega⟩
 simp [FL, IL]
 refine callP_of w1 ?_
 simp [e1, e1', e2, e3]
 refine callP_of w3 ?_
 simp [IL, In4.cs]
theorem closer_ok [HasCode G] (c : List In4) (t : Nat) (ht : 1 ≤ t ∧ t ≤ c.length) (h : c.length < 4096) : FP G 411 [FL c, .int .i64 t] (.tup [FL (nearL c t), .int .i64 (nearT c t), .int .i64 0]) := by
 refine FP_of HasCode.h_code_closer (Nat.le_of_ble_eq_true rfl) ?_
 have e2 : subI .i64 (c.length : Int) (t : Int) = ((c.length - t : Nat) : Int) := by rw [subI64] <;> omega
 by_cases hn : c.length - t ≤ 254
 ·have e3 : (((c.length - t : Nat) : Int) ≤ 254) = True := eq_true (by omega)
  simp [FL, e2, e3, nearL, nearT, hn]
 ·have e3 : (((c.length - t : Nat) : Int) ≤ 254) = False := eq_false (by omega)
  have w := Jump_ok (G := G) c t (by omega) h
  simp only [FL] at w
  simp [FL, e2, e3, nearL, nearT, hn]
  refine callP_of w ?_
  simp
theorem BranchC_ok [HasIns G] [HasCode G] (c : List In4) (op : Int) (k t f : Nat) (ho : brOp op) (ht : 1 ≤ t ∧ t ≤ c.length) (hf : 1 ≤ f ∧ f ≤ c.length) (h : c.length + 3 ≤ 4096) :
  FP G 412 [FL c, .int .i64 op, .int .u32 k, .int .i64 t, .int .i64 f] (.tup [FL (branchL c op k t f), .int .i64 (branchL c op k t f).length, .int .i64 0]) := by
 refine FP_of HasCode.h_code_Branch (Nat.le_of_ble_eq_true rfl) ?_
 have hb : isBr op = true := by rcases ho with rfl | rfl | rfl <;> decide
 have w1 := Branch_ok (G := G) ⟨op, 0, 0, k⟩
 have w2 := RightI_ok (G := G) ⟨op, 0, 0, k⟩
 have hr : rightI ⟨op, 0, 0, k⟩ = true := by
  have key : ∀ op : Int, brOp op → (shapeOf op).map (fun r => (r.2.2.1, r.2.2.2)) = some (true, true) := by rintro op (rfl | rfl | rfl) <;> decide
  have k1 := key op ho
  rw [Option.map_eq_some_iff] at k1
  obtain ⟨r, k5, k6⟩ := k1
  simp only [Prod.mk.injEq] at k6
  simp [rightI, k5, k6.1, k6.2]
 rw [hb] at w1
 rw [hr] at w2
 have g1 := near_grown c t
 have g2 := near_grown (nearL c t) f
 have l1 := near_lab ht
 have p1 := g1.len
 have hf1 : 1 ≤ f ∧ f ≤ (nearL c t).length := ⟨hf.1, by omega⟩
 have l2 := near_lab hf1
 have p2 := g2.len
 have w3 := label_ok (G := G) c t
 have w4 := label_ok (G := G) c f
 rw [decide_eq_true ht] at w3
 rw [decide_eq_true hf] at w4
 have w5 := closer_ok (G := G) c t ht (by omega)
 have w6 := closer_ok (G := G) (nearL c t) f hf1 (by omega)
 have w7 := ahead_ok (G := G) (nearL (nearL c t) f) ⟨op, ((nearL (nearL c t) f).length - nearT c t : Nat), ((nearL (nearL c t) f).length - nearT (nearL c t) f : Nat), k⟩ (by omega)
 unfold branchL
 generalize hc2 : nearL (nearL c t) f = c2 at *
 generalize nearL c t = c1 at *
 generalize nearT c t = t1 at *
 generalize nearT c1 f = f1 at *
 have e1 : subI .i64 (c2.length : Int) (t1 : Int) = ((c2.length - t1 : Nat) : Int) := by rw [subI64] <;> omega
 have e2 : subI .i64 (c2.length : Int) (f1 : Int) = ((c2.length - f1 : Nat) : Int) := by rw [subI64] <;> omega
 simp only [IV, In4.cs, FL, IL, List.map_cons, List.map_nil] at w1 w2 w3 w4 w5 w6 w7
 simp [FL, IL]
 refine callP_of w1 ?_
 simp
 refine callP_of w2 ?_
 simp
 refine callP_of w3 ?_
 simp
 refine callP_of w4 ?_
 simp
 refine callP_of w5 ?_
 simp
 refine callP_of w6 ?_
 simp [e1, e2]
 refine callP_of w7 ?_
 simp [IL, In4.cs]
theorem Low_ok [HasDataL G] (a : Int) (h : 0 ≤ a ∧ a ≤ 5) : FP G 413 [.int .i64 a] (.int .u32 ((16 + 8 * a.toNat : Nat) : Int)) := by
 have : a = 0 ∨ a = 1 ∨ a = 2 ∨ a = 3 ∨ a = 4 ∨ a = 5 := by omega
 rcases this with rfl | rfl | rfl | rfl | rfl | rfl <;> (refine FP_of HasDataL.h_data_Low (Nat.le_of_ble_eq_true rfl) ?_) <;> simp <;> decide
theorem High_ok [HasDataL G] (a : Int) (h : 0 ≤ a ∧ a ≤ 5) : FP G 414 [.int .i64 a] (.int .u32 ((20 + 8 * a.toNat : Nat) : Int)) := by
 refine FP_of HasDataL.h_data_High (Nat.le_of_ble_eq_true rfl) ?_
 have w := Low_ok (G := G) a h
 have : a = 0 ∨ a = 1 ∨ a = 2 ∨ a = 3 ∨ a = 4 ∨ a = 5 := by omega
 rcases this with rfl | rfl | rfl | rfl | rfl | rfl <;> simp <;> refine callP_of w ?_ <;> simp <;> decide
end Go.Ev
/- A maker in memory: contracts. -/
namespace Go.Ev
open Go Go.RowKit
variable {G : Tbl}
set_option maxRecDepth 10000
set_option maxHeartbeats 4000000
set_option linter.unusedSimpArgs false
set_option linter.unusedVariables false
def mkrC (c : List In4) (tk : Tk) : Blk := .cells [.vs (IL c) tk, .int .i64 0]
structure Mkr (H : Heap) (b : Nat) (c : List In4) (tk : Tk) : Prop where
 hb : H[b]? = some (some (mkrC c tk))
 htk : tk = .no ∨ tk = .full
 shut : HShut H
def mkSet (H : Heap) (b : Nat) (c : List In4) : Heap := H.set b (some (mkrC c .no))
@[simp] theorem mkSet_len (H : Heap) (b : Nat) (c : List In4) : (mkSet H b c).length = H.length := by simp [mkSet]
section
variable {H : Heap} {b : Nat} {c c' : List In4} {tk : Tk}
theorem Mkr.lb (h : Mkr H b c tk) : b < H.length := (List.getElem?_eq_some_iff.1 h.hb).1
theorem mkSet_shut (h : HShut H) (c' : List In4) : HShut (mkSet H b c') := by
 intro n hn
 simp only [mkSet_len] at hn
 have h1 := h n hn
 unfold mkSet
 rw [map_set', h1]
 simp [mkrC, Blk.cl, clL, V.cl, Tk.cl]
theorem Mkr.set (h : Mkr H b c tk) (c' : List In4) : Mkr (mkSet H b c') b c' .no := ⟨by rw [mkSet, List.getElem?_set_self h.lb], .inl rfl, mkSet_shut h.shut c'⟩
theorem mkSet_mkSet (c c' : List In4) : mkSet (mkSet H b c) b c' = mkSet H b c' := by simp [mkSet]
theorem mkSet_ne {i : Nat} (h : i ≠ b) (c' : List In4) : (mkSet H b c')[i]? = H[i]? := by rw [mkSet, List.getElem?_set_ne (Ne.symm h)]
theorem mkSet_app (h : b < H.length) (c' : List In4) (R : Heap) : mkSet (H ++ R) b c' = mkSet H b c' ++ R := by rw [mkSet, mkSet, List.set_append_left _ _ h]
theorem HShut.appL (h : HShut H) {R : Heap} (hr : ∀ m, H.length + R.length ≤ m → R.map (Option.map (Blk.cl m)) = R) : HShut (H ++ R) := by
 intro m hm
 rw [List.length_append] at hm
 rw [List.map_append, h m (by omega), hr m hm]
theorem Mkr.app (h : Mkr H b c tk) {R : Heap} (hr : ∀ m, H.length + R.length ≤ m → R.map (Option.map (Blk.cl m)) = R) : Mkr (H ++ R) b c tk :=
 ⟨by rw [List.getElem?_append_left h.lb]; exact h.hb, h.htk, h.shut.appL hr⟩
theorem Mkr.hb' (h : Mkr H b c tk) : H[b]? = some (some (.cells [.vs (IL c) tk, .int .i64 0])) := h.hb
theorem Mkr.ne (h : Mkr H b c tk) {i : Nat} {v : V} (hi : H[i]? = some (some (.cells [v]))) : i ≠ b := by
 intro e
 rw [e, h.hb] at hi
 simp [mkrC] at hi
theorem took_ok [HasMk G] (h : Mkr H b c tk) (c' : List In4) (l : Nat) : SF G 415 [.ptr b 0, FL c', .int .i64 l, .int .i64 0] H (.int .i64 l) (mkSet H b c') := by
 refine SF_of HasMk.h_lower_maker_took (Nat.le_of_ble_eq_true rfl) ?_
 have hb := h.hb'
 have hlb := h.lb
 have hs := (mkSet_shut (b := b) h.shut c').self
 rw [mkSet_len] at hs
 simp only [mkSet, mkrC] at hs
 have hg : ∀ x : Option Blk, (H.set b x)[b]? = some x := fun x => List.getElem?_set_self hlb
 simp [hb, FL, hg, mkSet, mkrC, hs]
 done
theorem addM_ok [HasIns G] [HasCode G] [HasMk G] (h : Mkr H b c tk) (op : Int) (k : Nat) (ho : addOk op k) (hl : c.length < 4096) : SF G 416 [.ptr b 0, .int .i64 op, .int .u32 k] H (.int .i64 (putF c op k).length) (mkSet H b (putF c op k)) := by
 refine SF_of HasMk.h_lower_maker_add (Nat.le_of_ble_eq_true rfl) ?_
 have w1 := Add_ok (G := G) c op k ho hl
 have w2 := took_ok (G := G) h (putF c op k) (putF c op k).length
 have hs := (mkSet_shut (b := b) h.shut (putF c op k)).self
 rw [mkSet_len] at hs
 have hb := h.hb'
 simp only [FL, IV, In4.cs] at w1 w2
 simp [hb]
 refine callP_of w1 ?_
 simp
 refine callSF_of w2 ?_
 simp [hs]
theorem branchM_ok [HasIns G] [HasCode G] [HasMk G] (h : Mkr H b c tk) (op : Int) (k t f : Nat) (ho : brOp op) (ht : 1 ≤ t ∧ t ≤ c.length) (hf : 1 ≤ f ∧ f ≤ c.length) (hl : c.length + 3 ≤ 4096) :
  SF G 417 [.ptr b 0, .int .i64 op, .int .u32 k, .int .i64 t, .int .i64 f] H (.int .i64 (branchL c op k t f).length) (mkSet H b (branchL c op k t f)) := by
 refine SF_of HasMk.h_lower_maker_branch (Nat.le_of_ble_eq_true rfl) ?_
 have w1 := BranchC_ok (G := G) c op k t f ho ht hf hl
 have w2 := took_ok (G := G) h (branchL c op k t f) (branchL c op k t f).length
 have hs := (mkSet_shut (b := b) h.shut (branchL c op k t f)).self
 rw [mkSet_len] at hs
 have hb := h.hb'
 simp only [FL] at w1 w2
 simp [hb]
 refine callP_of w1 ?_
 simp
 refine callSF_of w2 ?_
 simp [hs]
theorem part_ok [HasIns G] [HasCode G] [HasMk G] {H1 : Heap} {c1 : List In4} {g : Nat} {cap : List V} {r : V} (at_ mask : Nat) (hg : SF G g cap H r H1) (h1 : Mkr H1 b c1 .no) (hlen : H1.length = H.length)
  (ha : addOk 32 at_) (hl : c1.length + 1 < 4096) : SF G 418 [.ptr b 0, .int .u32 at_, .int .u32 mask, .fn g cap] H (.tup []) (mkSet H1 b (putF (putF c1 84 mask) 32 at_)) := by
 refine SF_of HasMk.h_lower_maker_part (Nat.le_of_ble_eq_true rfl) ?_
 have w1 := addM_ok (G := G) h1 84 mask (.inl rfl) (by omega)
 have w2 := addM_ok (G := G) (h1.set (putF c1 84 mask)) 32 at_ ha (by simp [putF]; omega)
 rw [mkSet_mkSet] at w2
 have hs := (mkSet_shut (b := b) h1.shut (putF (putF c1 84 mask) 32 at_)).self
 rw [mkSet_len, hlen] at hs
 obtain ⟨r1, H2, hb, hr, ht⟩ := hg
 simp
 refine callV_of (H1 := H2) (by simpa using hb) (fun h => by simp at h) ?_
 rw [hr, ht]
 simp
 refine callSF_of w1 ?_
 simp
 refine callSF_of w2 ?_
 simp [hs]
def i1C (n : Int) : Option (Option Blk) := some (some (.cells [.int .i64 n]))
def u1C (n : Int) : Option (Option Blk) := some (some (.cells [.int .u32 n]))
theorem testc1_ok [HasIns G] [HasCode G] [HasMk G] (h : Mkr H b c tk) {pm po pl pt pf : Nat} (op : Int) (k t f : Nat) (hm : H[pm]? = some (some (.cells [.ptr b 0]))) (hop : H[po]? = i1C op) (hlo : H[pl]? = u1C k) (hpt : H[pt]? = i1C t) (hpf : H[pf]? = i1C f)
  (ho : brOp op) (ht : 1 ≤ t ∧ t ≤ c.length) (hf : 1 ≤ f ∧ f ≤ c.length) (hl : c.length + 3 ≤ 4096) :
  SF G 419 [.ptr pm 0, .ptr po 0, .ptr pl 0, .ptr pt 0, .ptr pf 0] H (.int .i64 (branchL c op k t f).length) (mkSet H b (branchL c op k t f)) := by
 refine SF_of HasMk.h_lower_maker_test_1 (Nat.le_of_ble_eq_true rfl) ?_
 have w := branchM_ok (G := G) h op k t f ho ht hf hl
 have hs := (mkSet_shut (b := b) h.shut (branchL c op k t f)).self
 rw [mkSet_len] at hs
 simp only [i1C, u1C] at hop hlo hpt hpf
 simp [hm, hop, hlo, hpt, hpf]
 refine callSF_of w ?_
 simp [hs]
def half2 (c : List In4) (op : Int) (k t f lw : Nat) : List In4 := if op = 21 then branchL c 21 k lw f else branchL (branchL c 37 k t f) 21 k lw (branchL c 37 k t f).length
def half2H (H : Heap) (c : List In4) (op : Int) (k t f pf : Nat) : Heap := if op = 21 then H else H.set pf (i1C ((branchL c 37 k t f).length : Nat)).get!
theorem testc2_ok [HasIns G] [HasCode G] [HasMk G] (h : Mkr H b c tk) {pm po ph pt pf pw : Nat} (op : Int) (k t f lw : Nat) (hm : H[pm]? = some (some (.cells [.ptr b 0]))) (hop : H[po]? = i1C op) (hhi : H[ph]? = u1C k) (hpt : H[pt]? = i1C t) (hpf : H[pf]? = i1C f) (hpw : H[pw]? = i1C lw)
  (hne : pm ≠ pf ∧ ph ≠ pf ∧ pw ≠ pf) (ht : 1 ≤ t ∧ t ≤ c.length) (hf : 1 ≤ f ∧ f ≤ c.length) (hw : 1 ≤ lw ∧ lw ≤ c.length) (hl : c.length + 6 ≤ 4096) :
  SF G 420 [.ptr po 0, .ptr pm 0, .ptr ph 0, .ptr pt 0, .ptr pf 0, .ptr pw 0] H (.int .i64 (half2 c op k t f lw).length) (mkSet (half2H H c op k t f pf) b (half2 c op k t f lw)) := by
 refine SF_of HasMk.h_lower_maker_test_2 (Nat.le_of_ble_eq_true rfl) ?_
 have nm := h.ne hm
 have no := h.ne (by simpa [i1C] using hop)
 have nh := h.ne (by simpa [u1C] using hhi)
 have nt := h.ne (by simpa [i1C] using hpt)
 have nf := h.ne (by simpa [i1C] using hpf)
 have nw := h.ne (by simpa [i1C] using hpw)
 have lpf : pf < H.length := by simp only [i1C] at hpf; exact (List.getElem?_eq_some_iff.1 hpf).1
 simp only [i1C, u1C] at hop hhi hpt hpf hpw
 by_cases e : op = 21
 ·subst e
  have w := branchM_ok (G := G) h 21 k lw f (.inl rfl) hw hf (by omega)
  have hs := (mkSet_shut (b := b) h.shut (branchL c 21 k lw f)).self
  rw [mkSet_len] at hs
  simp [hm, hop, hhi, hpt, hpf, hpw]
  refine callSF_of w ?_
  simp [hs, half2, half2H]
 ·have w1 := branchM_ok (G := G) h 37 k t f (.inr (.inl rfl)) ht hf (by omega)
  have g := (branch_grown c 37 k t f).len
  have gp := branch_pos c 37 k t f
  simp only [half2, half2H, if_neg e, i1C, Option.get!_some]
  generalize hc1 : branchL c 37 k t f = c1 at *
  have hshut : HShut ((mkSet H b c1).set pf (some (.cells [.int .i64 (c1.length : Nat)]))) := by
   intro n hn
   rw [List.length_set] at hn
   rw [map_set', mkSet_shut h.shut c1 n hn]
   simp [Blk.cl, clL, V.cl]
  have hm1 : Mkr ((mkSet H b c1).set pf (some (.cells [.int .i64 (c1.length : Nat)]))) b c1 .no := ⟨by rw [List.getElem?_set_ne nf]; exact (h.set c1).hb, .inl rfl, hshut⟩
  have w2 := branchM_ok (G := G) hm1 21 k lw c1.length (.inl rfl) ⟨hw.1, by omega⟩ (by omega) (by omega)
  have hs := (mkSet_shut (b := b) hshut (branchL c1 21 k lw c1.length)).self
  rw [mkSet_len, List.length_set, mkSet_len] at hs
  have e' : (op != 21) = true := bneT e
  have m1 : (mkSet H b c1)[pm]? = some (some (.cells [.ptr b 0])) := by rw [mkSet_ne nm]; exact hm
  have m2 : (mkSet H b c1)[ph]? = some (some (.cells [.int .u32 k])) := by rw [mkSet_ne nh]; exact hhi
  have m3 : (mkSet H b c1)[pf]? = some (some (.cells [.int .i64 f])) := by rw [mkSet_ne nf]; exact hpf
  have m4 : (mkSet H b c1)[pw]? = some (some (.cells [.int .i64 lw])) := by rw [mkSet_ne nw]; exact hpw
  have m5 : ∀ x, ((mkSet H b c1).set pf x)[pm]? = some (some (.cells [.ptr b 0])) := fun x => by rw [List.getElem?_set_ne hne.1.symm]; exact m1
  have m6 : ∀ x, ((mkSet H b c1).set pf x)[ph]? = some (some (.cells [.int .u32 k])) := fun x => by rw [List.getElem?_set_ne hne.2.1.symm]; exact m2
  have m7 : ∀ x, ((mkSet H b c1).set pf x)[pw]? = some (some (.cells [.int .i64 lw])) := fun x => by rw [List.getElem?_set_ne hne.2.2.symm]; exact m4
  have m8 : ∀ x : Option Blk, ((mkSet H b c1).set pf x)[pf]? = some x := fun x => List.getElem?_set_self (by rw [mkSet_len]; exact lpf)
  have fin : mkSet ((mkSet H b c1).set pf (some (.cells [.int .i64 (c1.length : Nat)]))) b (branchL c1 21 k lw c1.length) = mkSet (H.set pf (some (.cells [.int .i64 (c1.length : Nat)]))) b (branchL c1 21 k lw c1.length) := by
   unfold mkSet
   rw [List.set_comm _ _ (Ne.symm nf)]
   simp
   done
  rw [fin] at hs w2
  simp [hm, hop, hhi, hpt, hpf, e, e']
  refine callSF_of w1 ?_
  simp [m3, m5, m6, m7, m8]
  refine callSF_of w2 ?_
  simp [hs]
def tR (b : Nat) (y : Cd) (t f : Nat) : Heap := [some (.cells [.ptr b 0]), some (.cells y.cs), some (.cells [.int .i64 t]), some (.cells [.int .i64 f]), some (.cells [.int .u32 (lo y.val : Nat)]), some (.cells [.int .u32 (hi y.val : Nat)]), some (.cells [.int .i64 (opCmp y.cmp)])]
theorem tR_cl {b m : Nat} (y : Cd) (t f : Nat) (hb : b < m) : (tR b y t f).map (Option.map (Blk.cl m)) = tR b y t f := by
 simp [tR, Blk.cl, clL, V.cl, Cd.cs, hb]
theorem part1_ok [HasIns G] [HasCode G] [HasMk G] (h : Mkr H b c tk) (y : Cd) (t f : Nat) (hy : y.right = true) (ht : 1 ≤ t ∧ t ≤ c.length) (hf : 1 ≤ f ∧ f ≤ c.length) (hl : c.length + 13 ≤ 4096) :
  SF G 418 [.ptr b 0, .int .u32 (16 + 8 * y.arg.toNat : Nat), .int .u32 (lo y.mask : Nat), .fn 419 [.ptr H.length 0, .ptr (H.length + 6) 0, .ptr (H.length + 4) 0, .ptr (H.length + 2) 0, .ptr (H.length + 3) 0]] (H ++ tR b y t f) (.tup []) (mkSet H b (test1 c y t f) ++ tR b y t f) := by
 have h1 := h.app (R := tR b y t f) (fun m hm => tR_cl y t f (by have := h.lb; omega))
 have g : ∀ i, (H ++ tR b y t f)[H.length + i]? = (tR b y t f)[i]? := fun i => by rw [List.getElem?_append_right (by omega)]; congr 1; omega
 have w := testc1_ok (G := G) h1 (opCmp y.cmp) (lo y.val) t f (g 0) (g 6) (g 4) (g 2) (g 3) (op_br _) ht hf (by omega)
 have := (branch_grown c (opCmp y.cmp) (lo y.val) t f).len
 have p := part_ok (G := G) (b := b) (16 + 8 * y.arg.toNat) (lo y.mask) w (h1.set _) (by simp) (addr_ok hy 16 (.inl rfl)) (by omega)
 rw [mkSet_mkSet, mkSet_app h.lb] at p
 exact p
theorem part2_ok [HasIns G] [HasCode G] [HasMk G] (h : Mkr H b c tk) (y : Cd) (t f : Nat) (hy : y.right = true) (ht : 1 ≤ t ∧ t ≤ c.length) (hf : 1 ≤ f ∧ f ≤ c.length) (hl : c.length + 13 ≤ 4096) :
  ∃ R, SF G 418 [.ptr b 0, .int .u32 (20 + 8 * y.arg.toNat : Nat), .int .u32 (hi y.mask : Nat), .fn 420 [.ptr (H.length + 6) 0, .ptr H.length 0, .ptr (H.length + 5) 0, .ptr (H.length + 2) 0, .ptr (H.length + 3) 0, .ptr (H.length + 7) 0]]
   (mkSet H b (test1 c y t f) ++ (tR b y t f ++ [some (.cells [.int .i64 (test1 c y t f).length])])) (.tup []) (mkSet H b (test0 c y t f) ++ some (.cells [.ptr b 0]) :: R) := by
 have g1 := (test1_grown c y t f).len
 have h0 := h.set (test1 c y t f)
 have h1 := h0.app (R := tR b y t f ++ [some (.cells [.int .i64 (test1 c y t f).length])]) (fun m hm => by
  have := h.lb
  simp only [mkSet_len] at hm
  rw [List.map_append, tR_cl y t f (by omega)]
  simp [Blk.cl, clL, V.cl])
 have g : ∀ i, (mkSet H b (test1 c y t f) ++ (tR b y t f ++ [some (.cells [.int .i64 (test1 c y t f).length])]))[H.length + i]? = (tR b y t f ++ [some (.cells [.int .i64 (test1 c y t f).length])])[i]? := fun i => by
  rw [List.getElem?_append_right (by simp), mkSet_len]; congr 1; omega
 have w := testc2_ok (G := G) h1 (opCmp y.cmp) (hi y.val) t f (test1 c y t f).length (g 0) (g 6) (g 5) (g 2) (g 3) (g 7) ⟨by omega, by omega, by omega⟩ ⟨ht.1, by omega⟩ ⟨hf.1, by omega⟩ (by omega) (by omega)
 have e2 : half2 (test1 c y t f) (opCmp y.cmp) (hi y.val) t f (test1 c y t f).length = branchL (test2 c y t f) 21 (hi y.val) (test1 c y t f).length (if opCmp y.cmp = 21 then f else (test2 c y t f).length) := by
  unfold half2 test2
  split <;> rfl
 have hs2 : HShut (half2H (mkSet H b (test1 c y t f) ++ (tR b y t f ++ [some (.cells [.int .i64 (test1 c y t f).length])])) (test1 c y t f) (opCmp y.cmp) (hi y.val) t f (H.length + 3)) := by
  unfold half2H
  split
  ·exact h1.shut
  ·intro n hn
   rw [List.length_set] at hn
   rw [map_set', h1.shut n hn]
   simp [i1C, Blk.cl, clL, V.cl]
 have g2 := (test2_grown c y t f).len
 have g3 := (branch_grown (test2 c y t f) 21 (hi y.val) (test1 c y t f).length (if opCmp y.cmp = 21 then f else (test2 c y t f).length)).len
 have hb2 : b < (half2H (mkSet H b (test1 c y t f) ++ (tR b y t f ++ [some (.cells [.int .i64 (test1 c y t f).length])])) (test1 c y t f) (opCmp y.cmp) (hi y.val) t f (H.length + 3)).length := by
  have := h.lb
  unfold half2H
  split <;> simp <;> omega
 have h2 : Mkr (mkSet (half2H (mkSet H b (test1 c y t f) ++ (tR b y t f ++ [some (.cells [.int .i64 (test1 c y t f).length])])) (test1 c y t f) (opCmp y.cmp) (hi y.val) t f (H.length + 3)) b (half2 (test1 c y t f) (opCmp y.cmp) (hi y.val) t f (test1 c y t f).length)) b _ .no :=
  ⟨by rw [mkSet, List.getElem?_set_self hb2], .inl rfl, mkSet_shut hs2 _⟩
 have p := part_ok (G := G) (b := b) (20 + 8 * y.arg.toNat) (hi y.mask) w h2 (by unfold half2H; split <;> simp) (addr_ok hy 20 (.inr rfl)) (by rw [e2]; omega)
 rw [mkSet_mkSet, e2] at p
 obtain ⟨R, hR⟩ : ∃ R, half2H (mkSet H b (test1 c y t f) ++ (tR b y t f ++ [some (.cells [.int .i64 (test1 c y t f).length])])) (test1 c y t f) (opCmp y.cmp) (hi y.val) t f (H.length + 3) = mkSet H b (test1 c y t f) ++ some (.cells [.ptr b 0]) :: R := by
  unfold half2H
  split
  ·exact ⟨_, rfl⟩
  ·rw [List.set_append_right _ _ (by simp), mkSet_len, show H.length + 3 - H.length = 3 by omega]
   exact ⟨_, rfl⟩
 rw [hR, mkSet_app (by simpa using h.lb), mkSet_mkSet] at p
 exact ⟨R, p⟩
theorem testM_ok [HasIns G] [HasCode G] [HasMk G] [HasCondR G] [HasCondN G] [HasDataL G] (h : Mkr H b c tk) (x : Cd) (t f : Nat) (hx : x.right = true) (hxo : x.ok) (ht : 1 ≤ t ∧ t ≤ c.length) (hf : 1 ≤ f ∧ f ≤ c.length) (hl : c.length + 13 ≤ 4096) :
  SF G 421 [.ptr b 0, .agg x.cs, .int .i64 t, .int .i64 f] H (.int .i64 (testL c x t f).length) (mkSet H b (testL c x t f)) := by
 refine SF_of HasMk.h_lower_maker_test (Nat.le_of_ble_eq_true rfl) ?_
 have hx' := hx
 simp only [Cd.right, decide_eq_true_eq] at hx'
 have hN := Not_ok (G := G) x
 rw [notC, if_pos hx] at hN
 obtain ⟨y, hy⟩ : ∃ y, y = if flipC x then ({ x with cmp := notCmp x.cmp } : Cd) else x := ⟨_, rfl⟩
 obtain ⟨t', ht'⟩ : ∃ t', t' = if flipC x then f else t := ⟨_, rfl⟩
 obtain ⟨f', hf'⟩ : ∃ f', f' = if flipC x then t else f := ⟨_, rfl⟩
 have hc : x.cmp = 0 ∨ x.cmp = 1 ∨ x.cmp = 2 ∨ x.cmp = 3 ∨ x.cmp = 4 ∨ x.cmp = 5 := by omega
 have hlo : convI .u32 (x.val : Int) = ((lo x.val : Nat) : Int) := rfl
 have hmlo : convI .u32 (x.mask : Int) = ((lo x.mask : Nat) : Int) := rfl
 have hv := shr_hi x.val hxo.2
 have hv2 : convI .u32 ((x.val / 4294967296 : Nat) : Int) = ((hi x.val : Nat) : Int) := rfl
 have hmm := shr_hi x.mask hxo.1
 have hmm2 : convI .u32 ((x.mask / 4294967296 : Nat) : Int) = ((hi x.mask : Nat) : Int) := rfl
 have wl := Low_ok (G := G) x.arg ⟨by omega, by omega⟩
 have wh := High_ok (G := G) x.arg ⟨by omega, by omega⟩
 have hF7 : (H.length + 7 ≤ H.length) = False := eq_false (by omega)
 have hF8 : (H.length + 8 ≤ H.length) = False := eq_false (by omega)
 have hF71 : (H.length + 7 ≤ H.length + 1) = False := eq_false (by omega)
 have hF81 : (H.length + 8 ≤ H.length + 1) = False := eq_false (by omega)
 have gk : ∀ (c' : List In4) (r : Heap) (k : Nat), (mkSet H b c' ++ r)[H.length + k]? = r[k]? := fun c' r k => by rw [List.getElem?_append_right (by simp), mkSet_len]; congr 1; omega
 have gk0 : ∀ (c' : List In4) (r : Heap), (mkSet H b c' ++ r)[H.length]? = r[0]? := fun c' r => gk c' r 0
 have gb : ∀ (c' : List In4) (r : Heap), (mkSet H b c' ++ r)[b]? = some (some (.cells [.vs (IL c') .no, .int .i64 0])) := fun c' r => by rw [List.getElem?_append_left (by simpa using h.lb)]; exact (h.set c').hb
 have sk : ∀ (c' : List In4) (r : Heap) (k : Nat) (x : Option Blk), (mkSet H b c' ++ r).set (H.length + k) x = mkSet H b c' ++ r.set k x := fun c' r k x => by rw [List.set_append_right _ _ (by simp), mkSet_len]; congr 1; congr 1; omega
 have gbH : ∀ (r : Heap), (H ++ r)[b]? = some (some (.cells [.vs (IL c) tk, .int .i64 0])) := fun r => by rw [List.getElem?_append_left h.lb]; exact h.hb
 have bk : ∀ (c' : List In4) (r : Heap), trunc H.length (mkSet H b c' ++ r) = mkSet H b c' := fun c' r => by have := (mkSet_shut (b := b) h.shut c').back r; rwa [mkSet_len] at this
 have hlb := h.lb
 have tb : ∀ k : Nat, (b < H.length + k) = True := fun k => eq_true (by omega)
 rcases hc with hc | hc | hc | hc | hc | hc
 ·have hfl : flipC x = false := by simp [flipC, hc]
  have hT : testL c x t f = test0 c x t f := by rw [testL, hfl]; rfl
  have p1 := part1_ok (G := G) h x t f hx ht hf hl
  obtain ⟨R, p2⟩ := part2_ok (G := G) h x t f hx ht hf hl
  have hop : opCmp x.cmp = 21 := by simp [opCmp, hc]
  rw [← hT] at p2
  simp only [tR, Cd.cs, hop] at p1 p2
  simp only [hc] at p1 p2
  simp only [List.cons_append, List.nil_append] at p2
  generalize test1 c x t f = c1 at p1 p2
  generalize testL c x t f = c2 at p2 ⊢
  simp [Cd.cs, hc, hlo, hmlo, hv, hv2, hmm, hmm2, Nat.add_assoc, hF7, hF8, hF71, hF81, -Int.natCast_ediv]
  refine callP_of wl ?_
  simp [hlo, hmlo, hv, hv2, hmm, hmm2, Nat.add_assoc, hF7, hF8, hF71, hF81, gk, gk0, gb, sk, gbH, show notCmp 1 = 0 from rfl, show notCmp 2 = 5 from rfl, show notCmp 3 = 4 from rfl, -Int.natCast_ediv, -Int.natCast_add, -Int.natCast_mul]
  refine callSF_of p1 ?_
  simp [hlo, hmlo, hv, hv2, hmm, hmm2, Nat.add_assoc, hF7, hF8, hF71, hF81, gk, gk0, gb, sk, gbH, show notCmp 1 = 0 from rfl, show notCmp 2 = 5 from rfl, show notCmp 3 = 4 from rfl, -Int.natCast_ediv, -Int.natCast_add, -Int.natCast_mul]
  refine callP_of wh ?_
  simp [hlo, hmlo, hv, hv2, hmm, hmm2, Nat.add_assoc, hF7, hF8, hF71, hF81, gk, gk0, gb, sk, gbH, show notCmp 1 = 0 from rfl, show notCmp 2 = 5 from rfl, show notCmp 3 = 4 from rfl, -Int.natCast_ediv, -Int.natCast_add, -Int.natCast_mul]
  refine callSF_of p2 ?_
  simp [hlo, hmlo, hv, hv2, hmm, hmm2, Nat.add_assoc, hF7, hF8, hF71, hF81, gk, gk0, gb, sk, gbH, show notCmp 1 = 0 from rfl, show notCmp 2 = 5 from rfl, show notCmp 3 = 4 from rfl, -Int.natCast_ediv, -Int.natCast_add, -Int.natCast_mul]
  exact bk _ _
 ·have hfl : flipC x = true := by simp [flipC, hc]
  have hnc : notCmp x.cmp = 0 := by rw [hc]; rfl
  have hT : testL c x t f = test0 c { x with cmp := notCmp x.cmp } f t := by rw [testL, if_pos hfl]
  have p1 := part1_ok (G := G) h ({ x with cmp := notCmp x.cmp } : Cd) f t (not_right hx) hf ht hl
  obtain ⟨R, p2⟩ := part2_ok (G := G) h ({ x with cmp := notCmp x.cmp } : Cd) f t (not_right hx) hf ht hl
  have hop : opCmp ({ x with cmp := notCmp x.cmp } : Cd).cmp = 21 := by simp [opCmp, hnc]
  rw [← hT] at p2
  simp only [tR, Cd.cs, hop] at p1 p2
  simp only [hnc] at p1 p2
  simp only [List.cons_append, List.nil_append] at p2
  generalize test1 c ({ x with cmp := notCmp x.cmp } : Cd) f t = c1 at p1 p2
  generalize testL c x t f = c2 at p2 ⊢
  simp [Cd.cs, hc, hlo, hmlo, hv, hv2, hmm, hmm2, Nat.add_assoc, hF7, hF8, hF71, hF81, -Int.natCast_ediv]
  refine callP_of (by simpa only [Cd.cs, hc, hnc] using hN) ?_
  simp [hlo, hmlo, hv, hv2, hmm, hmm2, Nat.add_assoc, hF7, hF8, hF71, hF81, gk, gk0, gb, sk, gbH, show notCmp 1 = 0 from rfl, show notCmp 2 = 5 from rfl, show notCmp 3 = 4 from rfl, -Int.natCast_ediv, -Int.natCast_add, -Int.natCast_mul]
  refine callP_of wl ?_
  simp [hlo, hmlo, hv, hv2, hmm, hmm2, Nat.add_assoc, hF7, hF8, hF71, hF81, gk, gk0, gb, sk, gbH, show notCmp 1 = 0 from rfl, show notCmp 2 = 5 from rfl, show notCmp 3 = 4 from rfl, -Int.natCast_ediv, -Int.natCast_add, -Int.natCast_mul]
  refine callSF_of p1 ?_
  simp [hlo, hmlo, hv, hv2, hmm, hmm2, Nat.add_assoc, hF7, hF8, hF71, hF81, gk, gk0, gb, sk, gbH, show notCmp 1 = 0 from rfl, show notCmp 2 = 5 from rfl, show notCmp 3 = 4 from rfl, -Int.natCast_ediv, -Int.natCast_add, -Int.natCast_mul]
  refine callP_of wh ?_
  simp [hlo, hmlo, hv, hv2, hmm, hmm2, Nat.add_assoc, hF7, hF8, hF71, hF81, gk, gk0, gb, sk, gbH, show notCmp 1 = 0 from rfl, show notCmp 2 = 5 from rfl, show notCmp 3 = 4 from rfl, -Int.natCast_ediv, -Int.natCast_add, -Int.natCast_mul]
  refine callSF_of p2 ?_
  simp [hlo, hmlo, hv, hv2, hmm, hmm2, Nat.add_assoc, hF7, hF8, hF71, hF81, gk, gk0, gb, sk, gbH, show notCmp 1 = 0 from rfl, show notCmp 2 = 5 from rfl, show notCmp 3 = 4 from rfl, -Int.natCast_ediv, -Int.natCast_add, -Int.natCast_mul]
  exact bk _ _
 ·have hfl : flipC x = true := by simp [flipC, hc]
  have hnc : notCmp x.cmp = 5 := by rw [hc]; rfl
  have hT : testL c x t f = test0 c { x with cmp := notCmp x.cmp } f t := by rw [testL, if_pos hfl]
  have p1 := part1_ok (G := G) h ({ x with cmp := notCmp x.cmp } : Cd) f t (not_right hx) hf ht hl
  obtain ⟨R, p2⟩ := part2_ok (G := G) h ({ x with cmp := notCmp x.cmp } : Cd) f t (not_right hx) hf ht hl
  have hop : opCmp ({ x with cmp := notCmp x.cmp } : Cd).cmp = 53 := by simp [opCmp, hnc]
  rw [← hT] at p2
  simp only [tR, Cd.cs, hop] at p1 p2
  simp only [hnc] at p1 p2
  simp only [List.cons_append, List.nil_append] at p2
  generalize test1 c ({ x with cmp := notCmp x.cmp } : Cd) f t = c1 at p1 p2
  generalize testL c x t f = c2 at p2 ⊢
  simp [Cd.cs, hc, hlo, hmlo, hv, hv2, hmm, hmm2, Nat.add_assoc, hF7, hF8, hF71, hF81, -Int.natCast_ediv]
  refine callP_of (by simpa only [Cd.cs, hc, hnc] using hN) ?_
  simp [hlo, hmlo, hv, hv2, hmm, hmm2, Nat.add_assoc, hF7, hF8, hF71, hF81, gk, gk0, gb, sk, gbH, show notCmp 1 = 0 from rfl, show notCmp 2 = 5 from rfl, show notCmp 3 = 4 from rfl, -Int.natCast_ediv, -Int.natCast_add, -Int.natCast_mul]
  refine callP_of wl ?_
  simp [hlo, hmlo, hv, hv2, hmm, hmm2, Nat.add_assoc, hF7, hF8, hF71, hF81, gk, gk0, gb, sk, gbH, show notCmp 1 = 0 from rfl, show notCmp 2 = 5 from rfl, show notCmp 3 = 4 from rfl, -Int.natCast_ediv, -Int.natCast_add, -Int.natCast_mul]
  refine callSF_of p1 ?_
  simp [hlo, hmlo, hv, hv2, hmm, hmm2, Nat.add_assoc, hF7, hF8, hF71, hF81, gk, gk0, gb, sk, gbH, show notCmp 1 = 0 from rfl, show notCmp 2 = 5 from rfl, show notCmp 3 = 4 from rfl, -Int.natCast_ediv, -Int.natCast_add, -Int.natCast_mul]
  refine callP_of wh ?_
  simp [hlo, hmlo, hv, hv2, hmm, hmm2, Nat.add_assoc, hF7, hF8, hF71, hF81, gk, gk0, gb, sk, gbH, show notCmp 1 = 0 from rfl, show notCmp 2 = 5 from rfl, show notCmp 3 = 4 from rfl, -Int.natCast_ediv, -Int.natCast_add, -Int.natCast_mul]
  refine callSF_of p2 ?_
  simp [hlo, hmlo, hv, hv2, hmm, hmm2, Nat.add_assoc, hF7, hF8, hF71, hF81, gk, gk0, gb, sk, gbH, show notCmp 1 = 0 from rfl, show notCmp 2 = 5 from rfl, show notCmp 3 = 4 from rfl, -Int.natCast_ediv, -Int.natCast_add, -Int.natCast_mul]
  exact bk _ _
 ·have hfl : flipC x = true := by simp [flipC, hc]
  have hnc : notCmp x.cmp = 4 := by rw [hc]; rfl
  have hT : testL c x t f = test0 c { x with cmp := notCmp x.cmp } f t := by rw [testL, if_pos hfl]
  have p1 := part1_ok (G := G) h ({ x with cmp := notCmp x.cmp } : Cd) f t (not_right hx) hf ht hl
  obtain ⟨R, p2⟩ := part2_ok (G := G) h ({ x with cmp := notCmp x.cmp } : Cd) f t (not_right hx) hf ht hl
  have hop : opCmp ({ x with cmp := notCmp x.cmp } : Cd).cmp = 37 := by simp [opCmp, hnc]
  rw [← hT] at p2
  simp only [tR, Cd.cs, hop] at p1 p2
  simp only [hnc] at p1 p2
  simp only [List.cons_append, List.nil_append] at p2
  generalize test1 c ({ x with cmp := notCmp x.cmp } : Cd) f t = c1 at p1 p2
  generalize testL c x t f = c2 at p2 ⊢
  simp [Cd.cs, hc, hlo, hmlo, hv, hv2, hmm, hmm2, Nat.add_assoc, hF7, hF8, hF71, hF81, -Int.natCast_ediv]
  refine callP_of (by simpa only [Cd.cs, hc, hnc] using hN) ?_
  simp [hlo, hmlo, hv, hv2, hmm, hmm2, Nat.add_assoc, hF7, hF8, hF71, hF81, gk, gk0, gb, sk, gbH, show notCmp 1 = 0 from rfl, show notCmp 2 = 5 from rfl, show notCmp 3 = 4 from rfl, -Int.natCast_ediv, -Int.natCast_add, -Int.natCast_mul]
  refine callP_of wl ?_
  simp [hlo, hmlo, hv, hv2, hmm, hmm2, Nat.add_assoc, hF7, hF8, hF71, hF81, gk, gk0, gb, sk, gbH, show notCmp 1 = 0 from rfl, show notCmp 2 = 5 from rfl, show notCmp 3 = 4 from rfl, -Int.natCast_ediv, -Int.natCast_add, -Int.natCast_mul]
  refine callSF_of p1 ?_
  simp [hlo, hmlo, hv, hv2, hmm, hmm2, Nat.add_assoc, hF7, hF8, hF71, hF81, gk, gk0, gb, sk, gbH, show notCmp 1 = 0 from rfl, show notCmp 2 = 5 from rfl, show notCmp 3 = 4 from rfl, -Int.natCast_ediv, -Int.natCast_add, -Int.natCast_mul]
  refine callP_of wh ?_
  simp [hlo, hmlo, hv, hv2, hmm, hmm2, Nat.add_assoc, hF7, hF8, hF71, hF81, gk, gk0, gb, sk, gbH, show notCmp 1 = 0 from rfl, show notCmp 2 = 5 from rfl, show notCmp 3 = 4 from rfl, -Int.natCast_ediv, -Int.natCast_add, -Int.natCast_mul]
  refine callSF_of p2 ?_
  simp [hlo, hmlo, hv, hv2, hmm, hmm2, Nat.add_assoc, hF7, hF8, hF71, hF81, gk, gk0, gb, sk, gbH, show notCmp 1 = 0 from rfl, show notCmp 2 = 5 from rfl, show notCmp 3 = 4 from rfl, -Int.natCast_ediv, -Int.natCast_add, -Int.natCast_mul]
  exact bk _ _
 ·have hfl : flipC x = false := by simp [flipC, hc]
  have hT : testL c x t f = test0 c x t f := by rw [testL, hfl]; rfl
  have p1 := part1_ok (G := G) h x t f hx ht hf hl
  obtain ⟨R, p2⟩ := part2_ok (G := G) h x t f hx ht hf hl
  have hop : opCmp x.cmp = 37 := by simp [opCmp, hc]
  rw [← hT] at p2
  simp only [tR, Cd.cs, hop] at p1 p2
  simp only [hc] at p1 p2
  simp only [List.cons_append, List.nil_append] at p2
  generalize test1 c x t f = c1 at p1 p2
  generalize testL c x t f = c2 at p2 ⊢
  simp [Cd.cs, hc, hlo, hmlo, hv, hv2, hmm, hmm2, Nat.add_assoc, hF7, hF8, hF71, hF81, -Int.natCast_ediv]
  refine callP_of wl ?_
  simp [hlo, hmlo, hv, hv2, hmm, hmm2, Nat.add_assoc, hF7, hF8, hF71, hF81, gk, gk0, gb, sk, gbH, show notCmp 1 = 0 from rfl, show notCmp 2 = 5 from rfl, show notCmp 3 = 4 from rfl, -Int.natCast_ediv, -Int.natCast_add, -Int.natCast_mul]
  refine callSF_of p1 ?_
  simp [hlo, hmlo, hv, hv2, hmm, hmm2, Nat.add_assoc, hF7, hF8, hF71, hF81, gk, gk0, gb, sk, gbH, show notCmp 1 = 0 from rfl, show notCmp 2 = 5 from rfl, show notCmp 3 = 4 from rfl, -Int.natCast_ediv, -Int.natCast_add, -Int.natCast_mul]
  refine callP_of wh ?_
  simp [hlo, hmlo, hv, hv2, hmm, hmm2, Nat.add_assoc, hF7, hF8, hF71, hF81, gk, gk0, gb, sk, gbH, show notCmp 1 = 0 from rfl, show notCmp 2 = 5 from rfl, show notCmp 3 = 4 from rfl, -Int.natCast_ediv, -Int.natCast_add, -Int.natCast_mul]
  refine callSF_of p2 ?_
  simp [hlo, hmlo, hv, hv2, hmm, hmm2, Nat.add_assoc, hF7, hF8, hF71, hF81, gk, gk0, gb, sk, gbH, show notCmp 1 = 0 from rfl, show notCmp 2 = 5 from rfl, show notCmp 3 = 4 from rfl, -Int.natCast_ediv, -Int.natCast_add, -Int.natCast_mul]
  exact bk _ _
 ·have hfl : flipC x = false := by simp [flipC, hc]
  have hT : testL c x t f = test0 c x t f := by rw [testL, hfl]; rfl
  have p1 := part1_ok (G := G) h x t f hx ht hf hl
  obtain ⟨R, p2⟩ := part2_ok (G := G) h x t f hx ht hf hl
  have hop : opCmp x.cmp = 53 := by simp [opCmp, hc]
  rw [← hT] at p2
  simp only [tR, Cd.cs, hop] at p1 p2
  simp only [hc] at p1 p2
  simp only [List.cons_append, List.nil_append] at p2
  generalize test1 c x t f = c1 at p1 p2
  generalize testL c x t f = c2 at p2 ⊢
  simp [Cd.cs, hc, hlo, hmlo, hv, hv2, hmm, hmm2, Nat.add_assoc, hF7, hF8, hF71, hF81, -Int.natCast_ediv]
  refine callP_of wl ?_
  simp [hlo, hmlo, hv, hv2, hmm, hmm2, Nat.add_assoc, hF7, hF8, hF71, hF81, gk, gk0, gb, sk, gbH, show notCmp 1 = 0 from rfl, show notCmp 2 = 5 from rfl, show notCmp 3 = 4 from rfl, -Int.natCast_ediv, -Int.natCast_add, -Int.natCast_mul]
  refine callSF_of p1 ?_
  simp [hlo, hmlo, hv, hv2, hmm, hmm2, Nat.add_assoc, hF7, hF8, hF71, hF81, gk, gk0, gb, sk, gbH, show notCmp 1 = 0 from rfl, show notCmp 2 = 5 from rfl, show notCmp 3 = 4 from rfl, -Int.natCast_ediv, -Int.natCast_add, -Int.natCast_mul]
  refine callP_of wh ?_
  simp [hlo, hmlo, hv, hv2, hmm, hmm2, Nat.add_assoc, hF7, hF8, hF71, hF81, gk, gk0, gb, sk, gbH, show notCmp 1 = 0 from rfl, show notCmp 2 = 5 from rfl, show notCmp 3 = 4 from rfl, -Int.natCast_ediv, -Int.natCast_add, -Int.natCast_mul]
  refine callSF_of p2 ?_
  simp [hlo, hmlo, hv, hv2, hmm, hmm2, Nat.add_assoc, hF7, hF8, hF71, hF81, gk, gk0, gb, sk, gbH, show notCmp 1 = 0 from rfl, show notCmp 2 = 5 from rfl, show notCmp 3 = 4 from rfl, -Int.natCast_ediv, -Int.natCast_add, -Int.natCast_mul]
  exact bk _ _
end
end Go.Ev
/- A condition's test: contract. -/
namespace Go.Ev
open Go Go.RowKit
variable {G : Tbl}
set_option maxRecDepth 10000
set_option maxHeartbeats 4000000
set_option linter.unusedSimpArgs false
set_option linter.unusedVariables false
def inB (c : List In4) (t : Int) : Bool := decide (1 ≤ t ∧ t ≤ (c.length : Int))
def testR (c : List In4) (x : Cd) (t f : Int) : List In4 × Nat × Int :=
 if x.right = false then (c, 0, 1) else if inB c t = false ∨ inB c f = false then (c, 0, 4) else (testL c x t.toNat f.toNat, (testL c x t.toNat f.toNat).length, 0)
theorem TestL_ok [HasIns G] [HasCode G] [HasMk G] [HasTest G] [HasCondR G] [HasCondN G] [HasDataL G] (c : List In4) (x : Cd) (t f : Int) (hxo : x.ok) (hl : c.length + 13 ≤ 4096) :
  FP G 422 [FL c, .agg x.cs, .int .i64 t, .int .i64 f] (.tup [FL (testR c x t f).1, .int .i64 (testR c x t f).2.1, .int .i64 (testR c x t f).2.2]) := by
 refine FP_of HasTest.h_lower_Test (Nat.le_of_ble_eq_true rfl) ?_
 have hr := CondR_ok (G := G) x
 simp only [Cd.cs] at hr
 simp [FL, Cd.cs]
 refine callP_of hr ?_
 cases hx : x.right with
 | false => simp [testR, hx, FL]
 | true =>
  by_cases h1 : t < 1
  ·have : inB c t = false := by simp [inB]; omega
   simp [testR, hx, this, h1, FL]
  ·by_cases h2 : (c.length : Int) < t
   ·have : inB c t = false := by simp [inB]; omega
    simp [testR, hx, this, h1, h2, FL]
   ·by_cases h3 : f < 1
    ·have : inB c f = false := by simp [inB]; omega
     simp [testR, hx, this, h1, h2, h3, FL]
    ·by_cases h4 : (c.length : Int) < f
     ·have : inB c f = false := by simp [inB]; omega
      simp [testR, hx, this, h1, h2, h3, h4, FL]
     ·have b1 : inB c t = true := by simp [inB]; omega
      have b2 : inB c f = true := by simp [inB]; omega
      obtain ⟨n, rfl⟩ : ∃ n : Nat, t = n := ⟨t.toNat, by omega⟩
      obtain ⟨m, rfl⟩ : ∃ m : Nat, f = m := ⟨f.toNat, by omega⟩
      have hR : testR c x n m = (testL c x n m, (testL c x n m).length, 0) := by simp [testR, hx, b1, b2]
      rw [hR]
      have hk : Mkr [some (.cells [.int .i64 x.arg, .int .i64 x.cmp, .int .u64 (x.mask : Int), .int .u64 (x.val : Int)]), some (mkrC c .no)] 1 c .no := ⟨rfl, .inl rfl, by intro n hn; simp [mkrC, Blk.cl, clL, V.cl, Tk.cl]⟩
      have w := testM_ok (G := G) hk x n m hx hxo (by omega) (by omega) hl
      simp only [Cd.cs, mkrC] at w
      have h1' : ((n : Int) < 1) = False := eq_false h1
      have h3' : ((m : Int) < 1) = False := eq_false h3
      have h2' : ((c.length : Int) < (n : Int)) = False := eq_false h2
      have h4' : ((c.length : Int) < (m : Int)) = False := eq_false h4
      simp [h1', h2', h3', h4']
      refine callSF_of w ?_
      simp [mkSet, mkrC, FL]
end Go.Ev
/- Conditions by the document: contracts. -/
namespace Go.Ev
open Go Go.RowKit
variable {G : Tbl}
set_option maxRecDepth 10000
set_option maxHeartbeats 4000000
set_option linter.unusedSimpArgs false
set_option linter.unusedVariables false
theorem CondRR_ok [HasR8 G] (c : Cd) : FP G 433 [.agg c.cs] (.bool c.right) := by
 refine FP_of HasR8.h_hurdleref08_Right (Nat.le_of_ble_eq_true rfl) ?_
 by_cases h1 : 0 ≤ c.arg
 ·by_cases h2 : c.arg ≤ 5
  ·by_cases h3 : 0 ≤ c.cmp
   ·by_cases h4 : c.cmp ≤ 5
    ·simp [Cd.cs, Cd.right, h1, h2, h3, h4]
    ·simp [Cd.cs, Cd.right, h1, h2, h3, h4]
   ·simp [Cd.cs, Cd.right, h1, h2, h3]
  ·simp [Cd.cs, Cd.right, h1, h2]
 ·simp [Cd.cs, Cd.right, h1]
theorem and_at (a b i : Nat) : (a &&& b) / 2 ^ i % 2 = if a / 2 ^ i % 2 = 1 ∧ b / 2 ^ i % 2 = 1 then 1 else 0 := by
 rw [toNat_bit, toNat_bit, toNat_bit, Nat.testBit_and]
 cases a.testBit i <;> cases b.testBit i <;> simp
theorem and_mod_succ (a b i : Nat) : (a &&& b) % 2 ^ (i + 1) = (a &&& b) % 2 ^ i + if a / 2 ^ i % 2 = 1 ∧ b / 2 ^ i % 2 = 1 then 2 ^ i else 0 := by
 rw [Nat.pow_succ, Nat.mod_mul, and_at]
 split <;> simp
theorem masked_ok [HasR8 G] (a b : Nat) (ha : a < 18446744073709551616) (hb : b < 18446744073709551616) : FP G 434 [.int .u64 a, .int .u64 b] (.int .u64 (a &&& b : Nat)) := by
 refine FP_of HasR8.h_hurdleref08_masked (Nat.le_of_ble_eq_true rfl) ?_
 obtain ⟨S, hS⟩ : ∃ S : Nat → Nat, ∀ i, S i = (a &&& b) % 2 ^ i := ⟨_, fun _ => rfl⟩
 obtain ⟨A, hA⟩ : ∃ A : Nat → Nat, ∀ i, A i = a / 2 ^ i := ⟨_, fun _ => rfl⟩
 obtain ⟨B, hB⟩ : ∃ B : Nat → Nat, ∀ i, B i = b / 2 ^ i := ⟨_, fun _ => rfl⟩
 obtain ⟨P, hP⟩ : ∃ P : Nat → Nat, ∀ i, P i = 2 ^ i % 18446744073709551616 := ⟨_, fun _ => rfl⟩
 have hab : a &&& b < 18446744073709551616 := Nat.lt_of_le_of_lt Nat.and_le_left ha
 have hS64 : S 64 = a &&& b := by rw [hS]; exact Nat.mod_eq_of_lt hab
 have hS0 : S 0 = 0 := by rw [hS]; simp [Nat.mod_one]
 have hA0 : A 0 = a := by rw [hA]; simp
 have hB0 : B 0 = b := by rw [hB]; simp
 have hP0 : P 0 = 1 := by rw [hP]
 have hAl : ∀ i, A i < 18446744073709551616 := fun i => by rw [hA]; exact Nat.lt_of_le_of_lt (Nat.div_le_self _ _) ha
 have hBl : ∀ i, B i < 18446744073709551616 := fun i => by rw [hB]; exact Nat.lt_of_le_of_lt (Nat.div_le_self _ _) hb
 have hAs : ∀ i, A (i + 1) = A i / 2 := fun i => by rw [hA, hA, Nat.pow_succ, Nat.div_div_eq_div_mul]
 have hBs : ∀ i, B (i + 1) = B i / 2 := fun i => by rw [hB, hB, Nat.pow_succ, Nat.div_div_eq_div_mul]
 have hPs : ∀ i, P (i + 1) = P i * 2 % 18446744073709551616 := fun i => by rw [hP, hP, Nat.pow_succ]; simp [Nat.mul_mod]
 have hSs : ∀ i, i < 64 → S (i + 1) = S i + if A i % 2 = 1 ∧ B i % 2 = 1 then P i else 0 := fun i hi => by
  rw [hS, hS, and_mod_succ, hA, hB, hP, Nat.mod_eq_of_lt (show 2 ^ i < 18446744073709551616 from Nat.pow_lt_pow_right (by decide) hi)]
 have hSl : ∀ i, S i < 18446744073709551616 := fun i => by rw [hS]; exact Nat.lt_of_le_of_lt (Nat.mod_le _ _) hab
 simp
 refine W_up 64 (fun i => [(0, .int .u64 (A i)), (1, .int .u64 (B i)), (5, .int .u64 (S i)), (6, .int .u64 (P i)), (7, .int .i64 i)]) (fun _ => []) (fun _ => True) ?_ ?_
 ·simp [keep_cl, trunc, hA0, hB0, hS0, hP0]
 intro i hi _
 rcases Nat.eq_or_lt_of_le hi with hi | hi
 ·subst hi
  simp [keep_cl, trunc, hS64]
 ·have r1 : remI (A i : Int) 2 = ((A i % 2 : Nat) : Int) := rem64 (b := 2)
  have r2 : remI (B i : Int) 2 = ((B i % 2 : Nat) : Int) := rem64 (b := 2)
  have q1 : quoI .u64 (A i : Int) 2 = ((A i / 2 : Nat) : Int) := quoU64' (b := 2) (hAl i)
  have q2 : quoI .u64 (B i : Int) 2 = ((B i / 2 : Nat) : Int) := quoU64' (b := 2) (hBl i)
  have m1 : mulI .u64 (P i : Int) 2 = ((P i * 2 % 18446744073709551616 : Nat) : Int) := by
   unfold mulI
   rw [IntKind.wrap, show IntKind.u64.signed = false from rfl]
   simp [IntKind.bits]
  have hsi := hSs i hi
  have e1 : (((A i % 2 : Nat) : Int) == 1) = decide (A i % 2 = 1) := by rw [Bool.eq_iff_iff]; simp; omega
  have e2 : (((B i % 2 : Nat) : Int) == 1) = decide (B i % 2 = 1) := by rw [Bool.eq_iff_iff]; simp; omega
  have li : ((i : Int) < 64) = True := eq_true (by omega)
  by_cases c1 : A i % 2 = 1
  ·by_cases c2 : B i % 2 = 1
   ·rw [if_pos ⟨c1, c2⟩] at hsi
    have a1 : addI .u64 (S i : Int) (P i : Int) = ((S (i + 1) : Nat) : Int) := by
     rw [hsi]; exact IntWalk.u64_in _ ⟨by omega, by have := hSl (i + 1); omega⟩
    simp (disch := omega) [keep_cl, trunc, r1, r2, q1, q2, m1, hAs, hBs, hPs, e1, e2, c1, c2, a1, add1', li, -Int.natCast_add, -Int.natCast_emod, -Int.natCast_ediv]
    exact hi
   ·rw [if_neg (fun h => c2 h.2)] at hsi
    simp (disch := omega) [keep_cl, trunc, r1, r2, q1, q2, m1, hAs, hBs, hPs, e1, e2, c1, c2, hsi, add1', li, -Int.natCast_add, -Int.natCast_emod, -Int.natCast_ediv]
    exact hi
  ·rw [if_neg (fun h => c1 h.1)] at hsi
   simp (disch := omega) [keep_cl, trunc, r1, r2, q1, q2, m1, hAs, hBs, hPs, e1, e2, c1, hsi, add1', li, -Int.natCast_add, -Int.natCast_emod, -Int.natCast_ediv]
   exact hi
theorem HoldsR_ok [HasR8 G] (c : Cd) (hc : c.ok) (d : Da) (hd : d.ok) : FP G 435 [.agg c.cs, DV d] (.bool (c.holds d)) := by
 refine FP_of HasR8.h_hurdleref08_Holds (Nat.le_of_ble_eq_true rfl) ?_
 have hr := CondRR_ok (G := G) c
 obtain ⟨_, _, _, hl, hw⟩ := hd
 have hdl : d.cs.length = 9 := by simp [Da.cs, hl]
 simp only [Cd.cs] at hr
 simp [DV, Cd.cs, hdl]
 refine callP_of hr ?_
 cases hx : c.right with
 | false => simp [Cd.holds, hx]
 | true =>
  have hx' := hx
  simp only [Cd.right, decide_eq_true_eq] at hx'
  obtain ⟨n, hn⟩ : ∃ n : Nat, c.arg = n := ⟨c.arg.toNat, by omega⟩
  have hn5 : n ≤ 5 := by omega
  obtain ⟨a, ha⟩ : ∃ a, d.args[n]? = some a := ⟨_, List.getElem?_eq_getElem (by omega)⟩
  have hal := hw a (List.mem_of_getElem? ha)
  have hg : d.cs[3 + n]? = some (.int .u64 (a : Int)) := by
   rw [Nat.add_comm]; simp [Da.cs, cnats, ha]
  have hA : argD d c = a &&& c.mask := by simp [argD, hn, ha]
  have w := masked_ok (G := G) a c.mask hal hc.1
  have hk1 : (d.cs.drop (3 + n)).take 1 = [.int .u64 (a : Int)] := by
   rw [List.getElem?_eq_some_iff] at hg
   obtain ⟨hlt, hg⟩ := hg
   rw [List.drop_eq_getElem_cons hlt, hg]
   rfl
  have hk2 : (3 + n + 1 ≤ d.cs.length) = True := eq_true (by omega)
  obtain ⟨v, hv⟩ : ∃ v, a &&& c.mask = v := ⟨_, rfl⟩
  rw [hv] at w hA
  have hlt : ((v : Int) < (c.val : Int)) = (v < c.val) := by simp
  have hgt : ((c.val : Int) < (v : Int)) = (c.val < v) := by simp
  simp (disch := omega) [hn, hk1, hk2, ltT]
  refine callP_of w ?_
  have hH : c.holds d = cmpB c.cmp v c.val := by simp [Cd.holds, hx, hA]
  rw [hH]
  have hcc : c.cmp = 0 ∨ c.cmp = 1 ∨ c.cmp = 2 ∨ c.cmp = 3 ∨ c.cmp = 4 ∨ c.cmp = 5 := by omega
  by_cases l1 : v < c.val
  ·have l2 : ¬ c.val < v := by omega
   have l3 : v ≠ c.val := by omega
   rcases hcc with e | e | e | e | e | e <;> simp [e, l1, l2, l3, cmpB] <;> omega
  ·by_cases l2 : c.val < v
   ·have l3 : v ≠ c.val := by omega
    rcases hcc with e | e | e | e | e | e <;> simp [e, l1, l2, l3, cmpB] <;> omega
   ·have l3 : v = c.val := by omega
    rcases hcc with e | e | e | e | e | e <;> simp [e, l3, cmpB]
end Go.Ev
/- Code of rules, of calls, of machines: plain. -/
namespace Go.Ev
open Go Go.RowKit
set_option maxRecDepth 10000
set_option maxHeartbeats 2000000
set_option linter.unusedSimpArgs false
set_option linter.unusedVariables false
def kOK (c : List In4) : Prop := ∀ y ∈ c, y.k < 4294967296
theorem near_ks {c : List In4} {t : Nat} (hl : c.length ≤ 1000100) (hk : kOK c) : kOK (nearL c t) := by
 intro y hy
 unfold nearL at hy
 split at hy
 ·exact hk y hy
 ·rcases List.mem_cons.1 hy with rfl | hy
  ·simp only; omega
  ·exact hk y hy
theorem branch_ks {c : List In4} {op : Int} {k t f : Nat} (hl : c.length ≤ 1000050) (hkk : k < 4294967296) (hk : kOK c) : kOK (branchL c op k t f) := by
 intro y hy
 rcases List.mem_cons.1 hy with rfl | hy
 ·exact hkk
 ·exact near_ks (by have := (near_grown c t).len; omega) (near_ks (by omega) hk) y hy
theorem put_ks {c : List In4} {op : Int} {k : Nat} (hkk : k < 4294967296) (hk : kOK c) : kOK (putF c op k) := by
 intro y hy
 rcases List.mem_cons.1 hy with rfl | hy
 ·exact hkk
 ·exact hk y hy
theorem test_ks {c : List In4} {x : Cd} {t f : Nat} (hk : ∀ y ∈ c, y.k < 4294967296) (hl : c.length ≤ 1000000) (hx : x.right = true) : ∀ y ∈ testL c x t f, y.k < 4294967296 := by
 have t0 : ∀ (x : Cd) (t f : Nat), x.right = true → kOK (test0 c x t f) := by
  intro x t f hx
  have hx' := hx
  simp only [Cd.right, decide_eq_true_eq] at hx'
  have g1 := (test1_grown c x t f).len
  have g2 := (test2_grown c x t f).len
  have h1 : kOK (test1 c x t f) := put_ks (by omega) (put_ks (lo_lt _) (branch_ks (by omega) (lo_lt _) hk))
  have h2 : kOK (test2 c x t f) := by
   unfold test2
   split
   ·exact h1
   ·exact branch_ks (by omega) (hi_lt _) h1
  exact put_ks (by omega) (put_ks (hi_lt _) (branch_ks (by omega) (hi_lt _) h2))
 unfold testL
 split
 ·exact t0 _ _ _ (not_right hx)
 ·exact t0 _ _ _ hx
structure Ru where
 arch : Nat
 nr : Nat
 conds : List Cd
 act : Nat
 deriving DecidableEq
structure Po where
 rules : List Ru
 dflt : Nat
 deriving DecidableEq
abbrev CLb := List In4 × Nat
structure Came (c : List In4) (s : CLb) (n : Nat) : Prop where
 grown : Grown c s.1 n
 lab : 1 ≤ s.2 ∧ s.2 ≤ s.1.length
 sound : soundF c = true → c.length + n ≤ 4096 → soundF s.1 = true
 ks : kOK c → c.length + n ≤ 4096 → kOK s.1
theorem Came.mono {c : List In4} {s : CLb} {n m : Nat} (h : Came c s n) (hm : n ≤ m) : Came c s m := ⟨h.grown.mono hm, h.lab, fun a b => h.sound a (by omega), fun a b => h.ks a (by omega)⟩
theorem Came.self {c : List In4} {l : Nat} (h : 1 ≤ l ∧ l ≤ c.length) : Came c (c, l) 0 := ⟨Grown.refl c, h, fun a _ => a, fun a _ => a⟩
theorem Came.trans {c : List In4} {s t : CLb} {n m : Nat} (h : Came c s n) (k : Came s.1 t m) : Came c t (n + m) :=
 ⟨h.grown.trans k.grown, k.lab, fun a b => k.sound (h.sound a (by omega)) (by have := h.grown.len; omega), fun a b => k.ks (h.ks a (by omega)) (by have := h.grown.len; omega)⟩
def labs (c : List In4) (l : List (Nat × Nat)) : Prop := ∀ e ∈ l, 1 ≤ e.2 ∧ e.2 ≤ c.length
theorem labs.grown {a b : List In4} {n : Nat} {l : List (Nat × Nat)} (h : labs a l) (g : Grown a b n) : labs b l := fun e he => ⟨(h e he).1, by have := g.len; have := (h e he).2; omega⟩
end Go.Ev
/- Which instructions are a window: window.Right, hurdleref17.Right; and hurdleref03.Same. -/
namespace Go.Ev
open Go Go.RowKit
variable {G : Tbl}
set_option maxRecDepth 10000
set_option maxHeartbeats 2000000
set_option linter.unusedSimpArgs false
set_option linter.unusedVariables false
@[simp] theorem cs_take4 (x : In4) : x.cs.take 4 = x.cs := rfl
theorem IL_drop (f : List In4) (n : Nat) : (IL f).drop n = IL (f.drop n) := by simp [IL]
theorem aeq4 (x y : In4) : eqks [.int, .int, .int, .int] x.cs y.cs = some (decide (x = y)) := by
 obtain ⟨a, b, c, d⟩ := x
 obtain ⟨a', b', c', d'⟩ := y
 simp only [In4.cs, eqks, eqk, if_true, Bool.and_true, Option.some.injEq, In4.mk.injEq]
 rw [Bool.eq_iff_iff]
 simp only [Bool.and_eq_true, beq_iff_eq, decide_eq_true_eq]
 omega
theorem Same03_ok [HasR3 G] (f g : List In4) (hf : f.length ≤ 1000000) : FP G 201 [FL f, FL g] (.bool (decide (f = g))) := by
 refine FP_of HasR3.h_hurdleref03_Same (Nat.le_of_ble_eq_true rfl) ?_
 by_cases hl : f.length = g.length
 ·have hz : ((f.length : Int) != (g.length : Int)) = false := by simp [hl]
  simp [FL, hz]
  refine W_up f.length (fun i => [(0, FL f), (1, FL g), (5, .int .i64 i)]) (fun _ => []) (fun i => f.take i = g.take i) ?_ ?_
  ·simp [keep_cl, trunc, FL]
  intro i hi hp
  by_cases hlt : i < f.length
  ·obtain ⟨x, hfx⟩ : ∃ x, x = f[i] := ⟨_, rfl⟩
   have hlt2 : i < g.length := by omega
   obtain ⟨y, hfy⟩ : ∃ y, y = g[i] := ⟨_, rfl⟩
   have hgg := FL_get hlt
   have hgg2 := FL_get hlt2
   rw [← hfx] at hgg
   rw [← hfy] at hgg2
   have hfx := hfx.symm
   have hfy := hfy.symm
   have ha := aeq4 x y
   by_cases hxy : x = y
   ·rw [decide_eq_true hxy] at ha
    have hp' : f.take (i + 1) = g.take (i + 1) := by
     rw [List.take_add_one, List.take_add_one, hp, List.getElem?_eq_getElem hlt, List.getElem?_eq_getElem hlt2, hfx, hfy, hxy]
    simp (disch := omega) [ltT, FL, hgg, hgg2, hfx, hfy, ha, hlt, add1', keep_cl, trunc, hp', -Int.natCast_add]
   ·rw [decide_eq_false hxy] at ha
    have hne : ¬ f = g := by
     rintro rfl
     exact hxy (hfx.symm.trans hfy)
    simp (disch := omega) [ltT, FL, hgg, hgg2, hfx, hfy, ha, hne, -Int.natCast_add]
  ·have hne : i = f.length := by omega
   subst hne
   rw [List.take_length, hl, List.take_length] at hp
   simp [FL, hp]
 ·have hz : ((f.length : Int) != (g.length : Int)) = true := by simp; omega
  have : ¬ f = g := fun h => hl (by rw [h])
  simp [FL, hz, this]
end Go.Ev
/- Layer 13: the law LowerTests. -/
namespace Go.Ev
open Go Go.RowKit
variable {G : Tbl}
set_option maxRecDepth 10000
set_option maxHeartbeats 8000000
set_option linter.unusedSimpArgs false
set_option linter.unusedVariables false
theorem LowerTests_ok [HasIns G] [HasCode G] [HasMk G] [HasTest G] [HasCondR G] [HasCondN G] [HasDataL G] [HasR8 G] [HasR3 G] [HasR2 G] [HasR5 G] [hR1 : HasR1 G] [HasR1n G] [HasR4 G] [HasR6s G] [HasR6 G] [HasL13 G]
  (hkn : FP G 443 [] (.bool true)) (c : List In4) (x : Cd) (t f : Int) (s : St) (d : Da) (hk : ∀ y ∈ c, y.k < 4294967296) (hxo : x.ok) (hso : s.ok) (hd : d.ok) :
  FP G 447 [FL c, .agg x.cs, .int .i64 t, .int .i64 f, SV s, DV d] (.bool true) := by
 refine FP_of HasL13.h_hurdlelaw13_LowerTests (Nat.le_of_ble_eq_true rfl) ?_
 have hsl : s.cs.length = 18 := by simp [St.cs, hso.2.2.1]
 have hdl : d.cs.length = 9 := by simp [Da.cs, hd.2.2.2.1]
 have dnf : (clL 0 d.cs).map V.nf1 = d.cs := by rw [clL_eq_map]; simp [Da.cs, cnats, V.cl, V.nf1, Function.comp_def]
 have snf : (clL 0 s.cs).map V.nf1 = s.cs := by rw [clL_eq_map]; simp [St.cs, cnats, V.cl, V.nf1, Function.comp_def]
 have hst : s.cs.take 18 = s.cs := List.take_of_length_le (by omega)
 have hdt : d.cs.take 9 = d.cs := List.take_of_length_le (by omega)
 by_cases hl : c.length ≤ 500
 ·have hl' : (500 < (c.length : Int)) = False := eq_false (by omega)
  have w1 := SoundR_ok (G := G) c (by unfold maxLen; omega) hk
  have w2 := TestL_ok (G := G) c x t f hxo (by omega)
  have w3 := CondRR_ok (G := G) x
  have w8 := HoldsR_ok (G := G) x hxo d hd
  simp only [FL, Cd.cs, DV] at w1 w2 w3 w8
  simp [FL, SV, DV, Cd.cs, hl', hsl, hdl, hst, hdt]
  refine callP_of w1 ?_
  cases hs : soundF c with
  | false =>
   simp
   refine callP_of hkn ?_
   simp
  | true =>
   simp
   refine callP_of w2 ?_
   simp
   refine callP_of w3 ?_
   cases hx : x.right with
   | false =>
    have w4 := Same03_ok (G := G) c c (by omega)
    simp only [FL] at w4
    simp [testR, hx]
    refine callP_of w4 ?_
    simp
    refine callP_of hkn ?_
    simp
   | true =>
    have w4 := Same03_ok (G := G) c c (by omega)
    simp only [FL] at w4
    have bad : inB c t = false ∨ inB c f = false → testR c x t f = (c, 0, 4) := fun h => by simp [testR, hx, h]
    simp
    by_cases h1 : t < 1
    ·rw [bad (.inl (by simp [inB]; omega))]
     simp [h1]
     refine callP_of w4 ?_
     simp
     refine callP_of hkn ?_
     simp
    ·by_cases h2 : (c.length : Int) < t
     ·rw [bad (.inl (by simp [inB]; omega))]
      simp [h1, h2]
      refine callP_of w4 ?_
      simp
      refine callP_of hkn ?_
      simp
     ·by_cases h3 : f < 1
      ·rw [bad (.inr (by simp [inB]; omega))]
       simp [h1, h2, h3]
       refine callP_of w4 ?_
       simp
       refine callP_of hkn ?_
       simp
      ·by_cases h4 : (c.length : Int) < f
       ·rw [bad (.inr (by simp [inB]; omega))]
        simp [h1, h2, h3, h4]
        refine callP_of w4 ?_
        simp
        refine callP_of hkn ?_
        simp
       ·have b1 : inB c t = true := by simp [inB]; omega
        have b2 : inB c f = true := by simp [inB]; omega
        obtain ⟨n, rfl⟩ : ∃ n : Nat, t = n := ⟨t.toNat, by omega⟩
        obtain ⟨m, rfl⟩ : ∃ m : Nat, f = m := ⟨f.toNat, by omega⟩
        have hR : testR c x n m = (testL c x n m, (testL c x n m).length, 0) := by simp [testR, hx, b1, b2]
        rw [hR]
        have hn : 1 ≤ n ∧ n ≤ c.length := by omega
        have hm : 1 ≤ m ∧ m ≤ c.length := by omega
        have hgo := test_goes (c := c) (x := x) (d := d) hd hx hxo hn hm s hso
        have hsd := test_sound (c := c) (x := x) hs hx hn hm (by omega)
        have hks := test_ks (c := c) (x := x) (t := n) (f := m) hk (by omega) hx
        have hg := test_grown c x n m
        have hgl := hg.len
        have hdr : (testL c x n m).drop ((testL c x n m).length - c.length) = c := by have := hg.sfx (l := c.length) (Nat.le_refl _); rwa [sfx_all] at this
        have w5 := SoundR_ok (G := G) (testL c x n m) (by unfold maxLen; omega) hks
        have w7 := From_ok (G := G) (testL c x n m) d hks hsd hd _ 0 s (Nat.le_refl _) (by omega) hso
        rw [hsd] at w5
        rw [List.drop_zero] at w7
        obtain ⟨y, hy⟩ : ∃ y, y = testL c x n m := ⟨_, rfl⟩
        rw [← hy] at hgo hdr hgl w5 w7 ⊢
        simp only [FL, SV, DV] at w5 w7
        have h1' : ((n : Int) < 1) = False := eq_false h1
        have h3' : ((m : Int) < 1) = False := eq_false h3
        have h2' : ((c.length : Int) < (n : Int)) = False := eq_false h2
        have h4' : ((c.length : Int) < (m : Int)) = False := eq_false h4
        have a1 : addI .i64 (c.length : Int) 16 = ((c.length + 16 : Nat) : Int) := addL (n := 16) (by omega)
        have c1 : (((c.length + 16 : Nat) : Int) < (y.length : Int)) = False := eq_false (by omega)
        have c2 : ((y.length : Int) < (c.length : Int)) = False := eq_false (by omega)
        have s1 : subI .i64 (y.length : Int) (c.length : Int) = ((y.length - c.length : Nat) : Int) := by rw [subI64] <;> omega
        have sl : (IL y).drop (y.length - c.length) = IL c := by rw [IL_drop, hdr]
        have l5 : (y.length - c.length ≤ y.length) = True := eq_true (by omega)
        simp [h1', h2', h3', h4', a1, c1, c2, -Int.natCast_add]
        refine callP_of w5 ?_
        have l6 : y.length - (y.length - c.length) = c.length := by omega
        have l7 : (IL c).take c.length = IL c := List.take_of_length_le (by simp)
        simp [s1, sl, l5, l6, l7]
        refine callP_of w4 ?_
        simp [hdl, hdt, dnf, snf]
        refine callP_of w8 ?_
        have fin : ∀ k : Nat, 1 ≤ k ∧ k ≤ c.length → ∃ z, c[c.length - k]? = some z ∧ (IL c)[c.length - k]? = some z.cs ∧ subI .i64 (c.length : Int) (k : Int) = ((c.length - k : Nat) : Int) ∧ c.length - k < c.length ∧
          (z.op = 6 → ∀ s', (run d (sfx c k) s').1 = z.k) := by
         intro k hk
         have hlt : c.length - k < c.length := by omega
         refine ⟨c[c.length - k], List.getElem?_eq_getElem hlt, by rw [IL_get, List.getElem?_eq_getElem hlt]; rfl, by rw [subI64] <;> omega, hlt, fun hz s' => ?_⟩
         have : sfx c k = c[c.length - k] :: c.drop (c.length - k + 1) := by rw [sfx, List.drop_eq_getElem_cons hlt]
         rw [this, run_cons, if_pos hz]
        obtain ⟨s', _, hgo⟩ := hgo
        cases hh : x.holds d with
        | true =>
         rw [hh] at hgo
         obtain ⟨z, z1, z2, z3, z4, z5⟩ := fin n hn
         have z6 : ((IL c)[c.length - n]'(by simpa using z4)) = z.cs := by rw [List.getElem?_eq_getElem (by simpa using z4)] at z2; exact Option.some.inj z2
         have q1 : z.cs.take 1 = [.int .i64 z.op] := rfl
         have q2 : (z.cs.drop 3).take 1 = [.int .u32 z.k] := rfl
         by_cases ho : z.op = 6
         ·have hv := z5 ho s'
          rw [if_pos rfl, hv] at hgo
          rw [hgo] at w7
          simp (disch := omega) [z2, z3, z6, get_in, ltT, hsl, hst, hdl, hdt, dnf, snf, q1, q2, ho]
          refine callP_of w7 ?_
          simp (disch := omega) [z2, z3, z6, get_in, ltT, hsl, hst, hdl, hdt, dnf, snf, q1, q2, ho]
          refine callP_of hkn ?_
          simp
         ·have ho' : (z.op != 6) = true := bneT ho
          simp (disch := omega) [z2, z3, z6, get_in, ltT, hsl, hst, hdl, hdt, dnf, snf, q1, q2, ho, ho']
          refine callP_of hkn ?_
          simp
        | false =>
         rw [hh] at hgo
         obtain ⟨z, z1, z2, z3, z4, z5⟩ := fin m hm
         have z6 : ((IL c)[c.length - m]'(by simpa using z4)) = z.cs := by rw [List.getElem?_eq_getElem (by simpa using z4)] at z2; exact Option.some.inj z2
         have q1 : z.cs.take 1 = [.int .i64 z.op] := rfl
         have q2 : (z.cs.drop 3).take 1 = [.int .u32 z.k] := rfl
         by_cases ho : z.op = 6
         ·have hv := z5 ho s'
          rw [if_neg (by simp), hv] at hgo
          rw [hgo] at w7
          simp (disch := omega) [z2, z3, z6, get_in, ltT, hsl, hst, hdl, hdt, dnf, snf, q1, q2, ho]
          refine callP_of w7 ?_
          simp (disch := omega) [z2, z3, z6, get_in, ltT, hsl, hst, hdl, hdt, dnf, snf, q1, q2, ho]
          refine callP_of hkn ?_
          simp
         ·have ho' : (z.op != 6) = true := bneT ho
          simp (disch := omega) [z2, z3, z6, get_in, ltT, hsl, hst, hdl, hdt, dnf, snf, q1, q2, ho, ho']
          refine callP_of hkn ?_
          simp
 ·have hl' : (500 < (c.length : Int)) = True := eq_true (by omega)
  simp [FL, SV, DV, Cd.cs, hl', hsl, hdl, hst, hdt]
  refine callP_of hkn ?_
  simp
end Go.Ev
