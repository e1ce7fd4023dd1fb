/- A book in memory: its values, and their numbers. -/
import Derived.Test.YtnkcdbffakcekaaDoorInsAW
import Derived.Test.YtnkcdbffakcekaaDoorEvRefCW
set_option linter.unusedVariables false
set_option linter.unusedSimpArgs false
namespace Go.Ev
open Go Go.RowKit
variable {G : Tbl}
set_option maxRecDepth 10000
set_option maxHeartbeats 4000000
set_option linter.unusedSimpArgs false
set_option linter.unusedVariables false
def entsF (i : Nat) : List Nd → List (V × V)
 | [] => []
 | a :: L => (.agg a.cs, .int .i64 (i : Int)) :: entsF (i + 1) L
def ents (L : List Nd) : List (V × V) := entsF 0 L
def nds (L : List Nd) : List (List V) := L.map Nd.cs
def bookC (L : List Nd) (z m : Nat) : Blk := .cells [.vs (nds L) (.own z), .mp m]
structure Bk (H : Heap) (b z m : Nat) (L : List Nd) : Prop where
 hb : H[b]? = some (some (bookC L z m))
 hz : H[z]? = some (some (.zone L.length))
 hm : H[m]? = some (some (.map (ents L)))
 shut : HShut H
 ok : ∀ a ∈ L, a.ok
 small : L.length ≤ 1000000
def upd (H : Heap) (b z m : Nat) (L : List Nd) : Heap := ((H.set b (some (bookC L z m))).set z (some (.zone L.length))).set m (some (.map (ents L)))
theorem upd_len (H : Heap) (b z m : Nat) (L : List Nd) : (upd H b z m L).length = H.length := by simp [upd]
section
variable {H : Heap} {b z m : Nat} {L L' : List Nd}
theorem Bk.bm (h : Bk H b z m L) : b ≠ m := fun e => by have h1 := h.hb; rw [e, h.hm] at h1; simp [bookC] at h1
theorem Bk.lb (h : Bk H b z m L) : b < H.length := (List.getElem?_eq_some_iff.1 h.hb).1
theorem Bk.lz (h : Bk H b z m L) : z < H.length := (List.getElem?_eq_some_iff.1 h.hz).1
theorem Bk.lm (h : Bk H b z m L) : m < H.length := (List.getElem?_eq_some_iff.1 h.hm).1
theorem set_same {α : Type} {l : List α} {i : Nat} {a : α} (h : l[i]? = some a) : l.set i a = l := by
 apply List.ext_getElem?
 intro j
 rw [List.getElem?_set]
 by_cases e : i = j
 ·subst e
  rw [if_pos rfl, if_pos (List.getElem?_eq_some_iff.1 h).1, h]
 ·rw [if_neg e]
theorem ents_cl (n : Nat) : ∀ (L : List Nd) (i : Nat), (entsF i L).map (fun p => (p.1.cl n, p.2.cl n)) = entsF i L
 | [], i => rfl
 | a :: L, i => by
  have ih := ents_cl n L (i + 1)
  have hc : clL n a.cs = a.cs := by rw [clL_eq_map]; simp [Nd.cs, cnats, Function.comp_def, V.cl]
  simp only [entsF, List.map_cons, V.cl, hc, ih]
theorem map_set' {α β : Type} (f : α → β) : ∀ (l : List α) (i : Nat) (a : α), (l.set i a).map f = (l.map f).set i (f a) := fun l i a => List.map_set
theorem Bk.upd_shut (h : Bk H b z m L) (L' : List Nd) : HShut (upd H b z m L') := by
 intro n hn
 rw [upd_len] at hn
 have h1 := h.shut n hn
 have hz := h.lz
 have hm := h.lm
 unfold upd
 rw [map_set', map_set', map_set', h1]
 have c1 : Option.map (Blk.cl n) (some (bookC L' z m)) = some (bookC L' z m) := by
  simp [bookC, Blk.cl, clL, V.cl, Tk.cl, show z < n from by omega, show m < n from by omega]
 have c2 : Option.map (Blk.cl n) (some (Blk.zone L'.length)) = some (.zone L'.length) := rfl
 have c3 : Option.map (Blk.cl n) (some (Blk.map (ents L'))) = some (.map (ents L')) := by
  simp only [Option.map_some, Blk.cl, ents, ents_cl]
 rw [c1, c2, c3]
theorem Bk.app (h : Bk H b z m L) {r : Heap} (hr : ∀ n, r.map (Option.map (Blk.cl n)) = r) : Bk (H ++ r) b z m L :=
 ⟨by rw [List.getElem?_append_left h.lb]; exact h.hb, by rw [List.getElem?_append_left h.lz]; exact h.hz, by rw [List.getElem?_append_left h.lm]; exact h.hm, h.shut.app hr, h.ok, h.small⟩
end
end Go.Ev
/- The smaller functions of a book. -/
namespace Go.Ev
open Go Go.RowKit
variable {G : Tbl}
set_option maxRecDepth 10000
set_option maxHeartbeats 4000000
set_option linter.unusedSimpArgs false
set_option linter.unusedVariables false
variable {H : Heap} {b z m : Nat} {L : List Nd}
def QX (res : List ResV) (R : V → Heap → Prop) (x : Ex) (e1 : Env) (H1 : Heap) : Prop := (x = .nx ∨ x = .ret) ∧ ∃ vs, evRess e1 H1 res = some vs ∧ R (resOf vs) H1
@[simp] theorem QX_nx (res : List ResV) (R : V → Heap → Prop) (e1 : Env) (H1 : Heap) : QX res R .nx e1 H1 = ∃ vs, evRess e1 H1 res = some vs ∧ R (resOf vs) H1 := by simp [QX]
@[simp] theorem QX_ret (res : List ResV) (R : V → Heap → Prop) (e1 : Env) (H1 : Heap) : QX res R .ret e1 H1 = ∃ vs, evRess e1 H1 res = some vs ∧ R (resOf vs) H1 := by simp [QX]
def SF (G : Tbl) (f : Nat) (args : List V) (H : Heap) (r : V) (H' : Heap) : Prop := ∃ r1 H1, Big G (.F f args H r1 H1) ∧ r1.cl H.length = r ∧ trunc H.length H1 = H'
theorem SF_of {f nt : Nat} {body : SCode} {res : List ResV} {args : List V} {r : V} {H H' : Heap} (hg : G f = some ⟨nt, body, res⟩) (hl : args.length ≤ nt)
  (h : W G body [] (mkE (idxE 0 args)) H (QX res fun r1 H1 => r1.cl H.length = r ∧ trunc H.length H1 = H')) : SF G f args H r H' := by
 obtain ⟨x, e1, H1, hb, hx, vs, hvs, hr, ht⟩ := h
 rw [← envOf_eq] at hb
 exact ⟨_, _, .fn hg hl hb hx hvs, hr, ht⟩
theorem callSF_of {f : Nat} {args : List V} {r : V} {H H' : Heap} {base : Nat} {d : Option Nat} {os : List SOper} {K : List Kt} {e : Env} {Q : Ex → Env → Heap → Prop} (h : SF G f args H r H')
  (hr : WO G base os K (e.put d r) H' Q) : callS G f args base d os K e H Q := by
 obtain ⟨r1, H1, hb, hr1, ht⟩ := h
 refine callS_of hb ?_
 rw [hr1, ht]
 exact hr
theorem Bk.back (h : Bk H b z m L) (L' : List Nd) (r : Heap) : trunc H.length (upd H b z m L' ++ r) = upd H b z m L' := by
 have := (h.upd_shut L').back r
 rwa [upd_len] at this
@[simp] theorem nds_length (L : List Nd) : (nds L).length = L.length := by simp [nds]
theorem Bk.hb' (h : Bk H b z m L) : H[b]? = some (some (.cells [.vs (nds L) (.own z), .mp m])) := h.hb
end Go.Ev
/- Conditions, actions' names, policies that may be: contracts. -/
namespace Go.Ev
open Go Go.RowKit
variable {G : Tbl}
set_option maxRecDepth 10000
set_option maxHeartbeats 4000000
set_option linter.unusedSimpArgs false
set_option linter.unusedVariables false
def Cd.cs (c : Cd) : List V := [.int .i64 c.arg, .int .i64 c.cmp, .int .u64 (c.mask : Int), .int .u64 (c.val : Int)]
def CL (l : List Cd) : List (List V) := l.map Cd.cs
@[simp] theorem CL_length (l : List Cd) : (CL l).length = l.length := by simp [CL]
theorem CL_get {l : List Cd} {i : Nat} {x : Cd} (h : l[i]? = some x) : (CL l)[i]? = some x.cs := by simp [CL, h]
theorem CondR_ok [HasCondR G] (c : Cd) : FP G 396 [.agg c.cs] (.bool c.right) := by
 refine FP_of HasCondR.h_cond_Right (Nat.le_of_ble_eq_true rfl) ?_
 by_cases h1 : 0 ≤ c.arg
 ·by_cases h2 : c.arg < 6
  ·by_cases h3 : 0 ≤ c.cmp
   ·by_cases h4 : c.cmp ≤ 5
    ·have h2' : c.arg ≤ 5 := by omega
     simp [Cd.cs, Cd.right, h1, h2, h3, h4, h2']
    ·simp [Cd.cs, Cd.right, h1, h2, h3, h4]
   ·simp [Cd.cs, Cd.right, h1, h2, h3]
  ·have h2' : ¬ c.arg ≤ 5 := by omega
   simp [Cd.cs, Cd.right, h1, h2, h2']
 ·simp [Cd.cs, Cd.right, h1]
def kindsV : List V := [.str [101, 113], .fn 397 [], .int .i64 1, .str [110, 101], .fn 398 [], .int .i64 0, .str [108, 116], .fn 399 [], .int .i64 5, .str [108, 101], .fn 400 [], .int .i64 4, .str [103, 116], .fn 401 [], .int .i64 3, .str [103, 101], .fn 402 [], .int .i64 2]
theorem kinds_ok [HasCondN G] : FP G 403 [] (.agg kindsV) := by
 refine FP_of HasCondN.h_cond_kinds (Nat.le_of_ble_eq_true rfl) ?_
 simp [kindsV]
def notC (c : Cd) : Cd := if c.right then { c with cmp := notCmp c.cmp } else c
theorem Not_ok [HasCondR G] [HasCondN G] (c : Cd) : FP G 404 [.agg c.cs] (.agg (notC c).cs) := by
 refine FP_of HasCondN.h_cond_Not (Nat.le_of_ble_eq_true rfl) ?_
 have hr := CondR_ok (G := G) c
 simp only [Cd.cs] at hr
 simp [Cd.cs]
 refine callP_of hr ?_
 cases h : c.right with
 | false => simp [notC, h]
 | true =>
  have h' := h
  simp only [Cd.right, decide_eq_true_eq] at h'
  obtain ⟨_, _, h3, h4⟩ := h'
  simp
  refine callP_of kinds_ok ?_
  have hc : c.cmp = 0 ∨ c.cmp = 1 ∨ c.cmp = 2 ∨ c.cmp = 3 ∨ c.cmp = 4 ∨ c.cmp = 5 := by omega
  rcases hc with hc | hc | hc | hc | hc | hc <;> simp [notC, h, hc, kindsV, notCmp]
def dig (d : Nat) : UInt8 := UInt8.ofNat (if d < 10 then 48 + d else 87 + d)
def textA (n : Nat) : Nat → List UInt8 × Bool
 | 0 => ([48, 120], false)
 | k + 1 => if (textA n k).2 || decide (0 < n / 2 ^ (60 - 4 * k) % 16) || decide (k = 15) then ((textA n k).1 ++ [dig (n / 2 ^ (60 - 4 * k) % 16)], true) else ((textA n k).1, false)
def textN (n : Nat) : List UInt8 := (textA n 16).1
theorem textA_len (n : Nat) : ∀ k, (textA n k).1.length ≤ 2 + k
 | 0 => by simp [textA]
 | k + 1 => by
  have := textA_len n k
  unfold textA
  split <;> simp <;> omega
theorem dig_at (d : Nat) (h : d < 16) : ([48, 49, 50, 51, 52, 53, 54, 55, 56, 57, 97, 98, 99, 100, 101, 102] : List UInt8)[d]? = some (dig d) := by
 have : ∀ d < 16, ([48, 49, 50, 51, 52, 53, 54, 55, 56, 57, 97, 98, 99, 100, 101, 102] : List UInt8)[d]? = some (dig d) := by decide
 exact this d h
theorem shU {n e : Nat} (h : e ≤ 64) : shrI .u64 (n : Int) (e : Int) = ((n / 2 ^ e : Nat) : Int) := by
 unfold shrI
 have : min (e : Int).toNat IntKind.u64.bits = e := by
  have : IntKind.u64.bits = 64 := rfl
  omega
 rw [this, show ((2 : Int) ^ e) = ((2 ^ e : Nat) : Int) by simp, Int.fdiv_eq_ediv_of_nonneg _ (Int.natCast_nonneg _)]
 simp
theorem and15 {x : Nat} (h : x < 18446744073709551616) : andI .u64 (x : Int) 15 = ((x % 16 : Nat) : Int) := by
 have h1 : (BitVec.ofInt 64 (x : Int) &&& BitVec.ofInt 64 15).toNat = x % 16 := by
  rw [show BitVec.ofInt 64 (x : Int) = BitVec.ofNat 64 x by apply BitVec.eq_of_toNat_eq; simp, show BitVec.ofInt 64 15 = BitVec.ofNat 64 15 from rfl]
  simp only [BitVec.toNat_and, BitVec.toNat_ofNat]
  rw [show 15 % 2 ^ 64 = 2 ^ 4 - 1 from rfl, Nat.and_two_pow_sub_one_eq_mod, Nat.mod_eq_of_lt (show x < 2 ^ 64 from h)]
 have h2 : andI .u64 (x : Int) 15 = IntKind.u64.wrap (((BitVec.ofInt 64 (x : Int) &&& BitVec.ofInt 64 15).toNat : Nat) : Int) := rfl
 rw [h2, h1]
 have : x % 16 < 16 := Nat.mod_lt _ (by decide)
 rw [IntKind.wrap, show IntKind.u64.signed = false from rfl]
 simp [IntKind.bits]
 omega
theorem bytesOf_of : ∀ s : List UInt8, bytesOf (ofBytes s) = some s
 | [] => rfl
 | b :: s => by
  have ih := bytesOf_of s
  simp only [ofBytes] at ih
  simp [ofBytes, bytesOf, ih]
theorem Text_ok [HasWText G] (n : Nat) (hn : n < 18446744073709551616) : FP G 392 [.int .u64 n] (.str (textN n)) := by
 refine FP_of HasWText.h_word_Text (Nat.le_of_ble_eq_true rfl) ?_
 obtain ⟨T, hT⟩ : ∃ T : Nat → List UInt8 × Bool, ∀ k, T k = textA n k := ⟨_, fun _ => rfl⟩
 have hTl : ∀ k, (T k).1.length ≤ 2 + k := fun k => by rw [hT]; exact textA_len n k
 simp
 refine W_up 16 (fun k => [(0, .int .u64 n), (3, .vs (ofBytes (T k).1) (.own 1)), (4, .bool (T k).2), (5, .int .i64 (60 - 4 * (k : Int)))]) (fun k => [some (.zone 1), some (.zone (T k).1.length)]) (fun _ => True) ?_ ?_
 ·simp [keep_cl, trunc, hT, textA, ofBytes, chunks]
 intro k hk _
 rcases Nat.eq_or_lt_of_le hk with hk | hk
 ·subst hk
  simp [keep_cl, trunc, bytesOf_of, hT, textN]
  done
 ·obtain ⟨e, he⟩ : ∃ e, e = 60 - 4 * k := ⟨_, rfl⟩
  obtain ⟨d, hd⟩ : ∃ d, d = n / 2 ^ e % 16 := ⟨_, rfl⟩
  have he2 : (60 - 4 * (k : Int)) = (e : Int) := by omega
  have a1 := shU (n := n) (e := e) (by omega)
  have hq : n / 2 ^ e < 18446744073709551616 := Nat.lt_of_le_of_lt (Nat.div_le_self _ _) hn
  have a2 := and15 hq
  have hd16 : d < 16 := by omega
  have a3 := dig_at d hd16
  rw [← hd] at a2
  have hl := hTl k
  have hT1 : T (k + 1) = if (T k).2 || decide (0 < d) || decide (k = 15) then ((T k).1 ++ [dig d], true) else ((T k).1, false) := by rw [hT, hT, textA, ← he, ← hd]
  rw [he2]
  simp (disch := omega) [keep_cl, trunc, a1, a2, a3, ltF, ltT, ltTn, eqT, eqF, subI64, -Int.natCast_emod, -Int.natCast_ediv, -Int.natCast_pow]
  have e60 : (60 : Int) - 4 * ((k + 1 : Nat) : Int) = (e : Int) - 4 := by omega
  have s4 : subI .i64 (e : Int) 4 = (e : Int) - 4 := subI64 (by omega) (by omega)
  have hlen : (ofBytes (T k).1).length = (T k).1.length := by simp [ofBytes]
  have hnx : ∀ b, (T k).2 = b → (b || decide (0 < d) || decide (k = 15)) = true → T (k + 1) = ((T k).1 ++ [dig d], true) := fun b hb hc => by rw [hT1, if_pos (by rw [hb]; exact hc)]
  have hno : (T k).2 = false → ¬ 0 < d → ¬ k = 15 → T (k + 1) = ((T k).1, false) := fun hb h1 h2 => by rw [hT1, if_neg (by simp [hb, h1, h2])]
  have hob : ofBytes ((T k).1 ++ [dig d]) = ofBytes (T k).1 ++ [[.int .u8 ((dig d).toNat : Nat)]] := by simp [ofBytes]
  have hfe : ∀ f ∈ ofBytes (T k).1, f.length = 1 := by intro f hf; simp only [ofBytes, List.mem_map] at hf; obtain ⟨_, _, rfl⟩ := hf; rfl
  have hfe' := eq_true hfe
  have hle : ((T k).1.length ≤ 140737488355327) = True := eq_true (by omega)
  have a4 : ([48, 49, 50, 51, 52, 53, 54, 55, 56, 57, 97, 98, 99, 100, 101, 102] : List UInt8)[d]'(by simp; omega) = dig d := by
   have := a3; rw [List.getElem?_eq_getElem (by simp; omega)] at this; exact Option.some.inj this
  cases hb : (T k).2 with
  | true =>
   simp (disch := omega) [keep_cl, trunc, a4, hle, hfe', ltF, ltT, s4, hnx _ hb rfl, hob, hlen, e60, -Int.natCast_add]
   exact hk
  | false =>
   by_cases hd0 : 0 < d
   ·have hd0' := eq_true hd0
    have hn0 : ¬ (0 = d) := by omega
    simp (disch := omega) [keep_cl, trunc, a4, hle, hfe', ltF, ltT, s4, hnx _ hb (by simp [hd0]), hob, hlen, e60, hd0', -Int.natCast_add]
    exact hk
   ·have hd00 : d = 0 := by omega
    subst hd00
    by_cases hk15 : k = 15
    ·have : e = 0 := by omega
     subst this
     simp (disch := omega) [keep_cl, trunc, a4, hle, hfe', ltF, ltT, s4, hnx _ hb (by simp [hk15]), hob, hlen, e60, show subI .i64 0 4 = -4 from rfl, -Int.natCast_add]
     exact hk
    ·have hne : ((e : Int) = 0) = False := eq_false (by omega)
     have hne' : ((e : Int) == 0) = false := by simp; omega
     simp (disch := omega) [keep_cl, trunc, a4, hle, hfe', ltF, ltT, s4, hno hb hd0 hk15, hob, hlen, e60, hne, hne', -Int.natCast_add]
     exact hk
end Go.Ev
/- Arguments of the statements: conditions. -/
namespace Go.Ev
open Go Go.RowKit
set_option linter.unusedSimpArgs false
set_option linter.unusedVariables false
theorem cond_cells {cs : List V} (h : HasTy (.agg [.int .i64, .int .i64, .int .u64, .int .u64]) cs) : ∃ x : Cd, cs = x.cs ∧ x.ok := by
 unfold HasTy HasTys at h
 obtain ⟨a, b, rfl, h1, h⟩ := h
 unfold HasTys at h
 obtain ⟨c, d, rfl, h2, h⟩ := h
 unfold HasTys at h
 obtain ⟨f, g, rfl, h3, h⟩ := h
 unfold HasTys at h
 obtain ⟨k, l, rfl, h4, h⟩ := h
 unfold HasTys at h
 subst h
 obtain ⟨n1, rfl, w1⟩ := hasty_int h1
 obtain ⟨n2, rfl, w2⟩ := hasty_int h2
 obtain ⟨n3, rfl, w3⟩ := u64_cell h3
 obtain ⟨n4, rfl, w4⟩ := u64_cell h4
 exact ⟨⟨n1, n2, n3, n4⟩, rfl, w3, w4⟩
end Go.Ev
/- Labels and branches: contracts. -/
namespace Go.Ev
open Go Go.RowKit
variable {G : Tbl}
set_option maxRecDepth 10000
set_option maxHeartbeats 4000000
set_option linter.unusedSimpArgs false
set_option linter.unusedVariables false
theorem ahead_ok [HasCode G] (c : List In4) (x : In4) (h : c.length < 4096) : FP G 407 [FL c, FL [x]] (.tup [FL (x :: c), .int .i64 (c.length + 1 : Nat), .int .i64 0]) := by
 refine FP_of HasCode.h_code_ahead (Nat.le_of_ble_eq_true rfl) ?_
 have e1 : addI .i64 (c.length : Int) 1 = ((c.length + 1 : Nat) : Int) := by rw [addI64] <;> omega
 have e2 : (4096 < ((c.length + 1 : Nat) : Int)) = False := eq_false (by omega)
 have i2 : ((1 + c.length) * 32 ≤ 140737488355328) = True := eq_true (by omega)
 have hx : IL [x] = [x.cs] := rfl
 have hxc : ∀ c, x.cs :: IL c = IL (x :: c) := fun _ => rfl
 by_cases hl : c = []
 ·subst hl
  have e1 : addI .i64 (0 : Int) 1 = 1 := rfl
  simp [FL, e1, hx, keep_cl, trunc, chunks]
 ·have hl' : (IL c = []) = False := eq_false (by simpa [IL_eq_nil] using hl)
  simp [FL, e1, e2, i2, hl', hx, hxc, keep_cl, trunc, IL_append, chunks, -Int.natCast_add]
theorem label_ok [HasCode G] (c : List In4) (t : Nat) : FP G 408 [FL c, .int .i64 t] (.bool (decide (1 ≤ t ∧ t ≤ c.length))) := by
 refine FP_of HasCode.h_code_label (Nat.le_of_ble_eq_true rfl) ?_
 by_cases h1 : 1 ≤ t
 ·have e1 : (1 ≤ (t : Int)) = True := eq_true (by omega)
  have e2 : ((t : Int) ≤ (c.length : Int)) = (t ≤ c.length) := by simp
  simp [FL, e1, e2, h1]
 ·have e1 : (1 ≤ (t : Int)) = False := eq_false (by omega)
  simp [FL, e1, h1]
theorem Add_ok [HasIns G] [HasCode G] (c : List In4) (op : Int) (k : Nat) (ho : addOk op k) (h : c.length < 4096) : FP G 409 [FL c, IV ⟨op, 0, 0, k⟩] (.tup [FL (putF c op k), .int .i64 (putF c op k).length, .int .i64 0]) := by
 refine FP_of HasCode.h_code_Add (Nat.le_of_ble_eq_true rfl) ?_
 obtain ⟨a1, a2, a3, a4⟩ := add_right ho
 have w1 := RightI_ok (G := G) ⟨op, 0, 0, k⟩
 have w2 := Branch_ok (G := G) ⟨op, 0, 0, k⟩
 have w3 := ahead_ok (G := G) c ⟨op, 0, 0, k⟩ h
 rw [a1] at w1
 rw [a3] at w2
 simp only [IV, In4.cs, FL, IL, List.map_cons, List.map_nil] at w1 w2 w3
 simp [FL, IV, In4.cs]
 refine callP_of w1 ?_
 simp [beqF a4]
 refine callP_of w2 ?_
 simp
 refine callP_of w3 ?_
 simp [putF, IL, In4.cs]
theorem Jump_ok [HasCode G] (c : List In4) (t : Nat) (ht : 1 ≤ t ∧ t < c.length) (h : c.length < 4096) : FP G 410 [FL c, .int .i64 t] (.tup [FL (⟨5, 0, 0, c.length - t⟩ :: c), .int .i64 (c.length + 1 : Nat), .int .i64 0]) := by
 refine FP_of HasCode.h_code_Jump (Nat.le_of_ble_eq_true rfl) ?_
 have w1 := label_ok (G := G) c t
 rw [decide_eq_true (show 1 ≤ t ∧ t ≤ c.length by omega)] at w1
 have w3 := ahead_ok (G := G) c ⟨5, 0, 0, c.length - t⟩ h
 simp only [IV, In4.cs, FL, IL, List.map_cons, List.map_nil] at w1 w3
 have e1 : ((t : Int) = (c.length : Int)) = False := eq_false (by omega)
 have e1' : ((t : Int) == (c.length : Int)) = false := by simp; omega
 have e2 : subI .i64 (c.length : Int) (t : Int) = ((c.length - t : Nat) : Int) := by rw [subI64] <;> omega
 have e3 : convI .u32 ((c.length - t : Nat) : Int) = ((c.length - t : Nat) : Int) := IntWalk.u32_in _ ⟨by omega, by omega⟩
 simp [FL, IL]
 refine callP_of w1 ?_
 simp [e1, e1', e2, e3]
 refine callP_of w3 ?_
 simp [IL, In4.cs]
theorem closer_ok [HasCode G] (c : List In4) (t : Nat) (ht : 1 ≤ t ∧ t ≤ c.length) (h : c.length < 4096) : FP G 411 [FL c, .int .i64 t] (.tup [FL (nearL c t), .int .i64 (nearT c t), .int .i64 0]) := by
 refine FP_of HasCode.h_code_closer (Nat.le_of_ble_eq_true rfl) ?_
 have e2 : subI .i64 (c.length : Int) (t : Int) = ((c.length - t : Nat) : Int) := by rw [subI64] <;> omega
 by_cases hn : c.length - t ≤ 254
 ·have e3 : (((c.length - t : Nat) : Int) ≤ 254) = True := eq_true (by omega)
  simp [FL, e2, e3, nearL, nearT, hn]
 ·have e3 : (((c.length - t : Nat) : Int) ≤ 254) = False := eq_false (by omega)
  have w := Jump_ok (G := G) c t (by omega) h
  simp only [FL] at w
  simp [FL, e2, e3, nearL, nearT, hn]
  refine callP_of w ?_
  simp
theorem BranchC_ok [HasIns G] [HasCode G] (c : List In4) (op : Int) (k t f : Nat) (ho : brOp op) (ht : 1 ≤ t ∧ t ≤ c.length) (hf : 1 ≤ f ∧ f ≤ c.length) (h : c.length + 3 ≤ 4096) :
  FP G 412 [FL c, .int .i64 op, .int .u32 k, .int .i64 t, .int .i64 f] (.tup [FL (branchL c op k t f), .int .i64 (branchL c op k t f).length, .int .i64 0]) := by
 refine FP_of HasCode.h_code_Branch (Nat.le_of_ble_eq_true rfl) ?_
 have hb : isBr op = true := by rcases ho with rfl | rfl | rfl <;> decide
 have w1 := Branch_ok (G := G) ⟨op, 0, 0, k⟩
 have w2 := RightI_ok (G := G) ⟨op, 0, 0, k⟩
 have hr : rightI ⟨op, 0, 0, k⟩ = true := by
  have key : ∀ op : Int, brOp op → (shapeOf op).map (fun r => (r.2.2.1, r.2.2.2)) = some (true, true) := by rintro op (rfl | rfl | rfl) <;> decide
  have k1 := key op ho
  rw [Option.map_eq_some_iff] at k1
  obtain ⟨r, k5, k6⟩ := k1
  simp only [Prod.mk.injEq] at k6
  simp [rightI, k5, k6.1, k6.2]
 rw [hb] at w1
 rw [hr] at w2
 have g1 := near_grown c t
 have g2 := near_grown (nearL c t) f
 have l1 := near_lab ht
 have p1 := g1.len
 have hf1 : 1 ≤ f ∧ f ≤ (nearL c t).length := ⟨hf.1, by omega⟩
 have l2 := near_lab hf1
 have p2 := g2.len
 have w3 := label_ok (G := G) c t
 have w4 := label_ok (G := G) c f
 rw [decide_eq_true ht] at w3
 rw [decide_eq_true hf] at w4
 have w5 := closer_ok (G := G) c t ht (by omega)
 have w6 := closer_ok (G := G) (nearL c t) f hf1 (by omega)
 have w7 := ahead_ok (G := G) (nearL (nearL c t) f) ⟨op, ((nearL (nearL c t) f).length - nearT c t : Nat), ((nearL (nearL c t) f).length - nearT (nearL c t) f : Nat), k⟩ (by omega)
 unfold branchL
 generalize hc2 : nearL (nearL c t) f = c2 at *
 generalize nearL c t = c1 at *
 generalize nearT c t = t1 at *
 generalize nearT c1 f = f1 at *
 have e1 : subI .i64 (c2.length : Int) (t1 : Int) = ((c2.length - t1 : Nat) : Int) := by rw [subI64] <;> omega
 have e2 : subI .i64 (c2.length : Int) (f1 : Int) = ((c2.length - f1 : Nat) : Int) := by rw [subI64] <;> omega
 simp only [IV, In4.cs, FL, IL, List.map_cons, List.map_nil] at w1 w2 w3 w4 w5 w6 w7
 simp [FL, IL]
 refine callP_of w1 ?_
 simp
 refine callP_of w2 ?_
 simp
 refine callP_of w3 ?_
 simp
 refine callP_of w4 ?_
 simp
 refine callP_of w5 ?_
 simp
 refine callP_of w6 ?_
 simp [e1, e2]
 refine callP_of w7 ?_
 simp [IL, In4.cs]
theorem Low_ok [HasDataL G] (a : Int) (h : 0 ≤ a ∧ a ≤ 5) : FP G 413 [.int .i64 a] (.int .u32 ((16 + 8 * a.toNat : Nat) : Int)) := by
 have : a = 0 ∨ a = 1 ∨ a = 2 ∨ a = 3 ∨ a = 4 ∨ a = 5 := by omega
 rcases this with rfl | rfl | rfl | rfl | rfl | rfl <;> (refine FP_of HasDataL.h_data_Low (Nat.le_of_ble_eq_true rfl) ?_) <;> simp <;> decide
theorem High_ok [HasDataL G] (a : Int) (h : 0 ≤ a ∧ a ≤ 5) : FP G 414 [.int .i64 a] (.int .u32 ((20 + 8 * a.toNat : Nat) : Int)) := by
 refine FP_of HasDataL.h_data_High (Nat.le_of_ble_eq_true rfl) ?_
 have w := Low_ok (G := G) a h
 have : a = 0 ∨ a = 1 ∨ a = 2 ∨ a = 3 ∨ a = 4 ∨ a = 5 := by omega
 rcases this with rfl | rfl | rfl | rfl | rfl | rfl <;> simp <;> refine callP_of w ?_ <;> simp <;> decide
end Go.Ev
/- A maker in memory: contracts. -/
namespace Go.Ev
open Go Go.RowKit
variable {G : Tbl}
set_option maxRecDepth 10000
set_option maxHeartbeats 4000000
set_option linter.unusedSimpArgs false
set_option linter.unusedVariables false
def mkrC (c : List In4) (tk : Tk) : Blk := .cells [.vs (IL c) tk, .int .i64 0]
structure Mkr (H : Heap) (b : Nat) (c : List In4) (tk : Tk) : Prop where
 hb : H[b]? = some (some (mkrC c tk))
 htk : tk = .no ∨ tk = .full
 shut : HShut H
def mkSet (H : Heap) (b : Nat) (c : List In4) : Heap := H.set b (some (mkrC c .no))
@[simp] theorem mkSet_len (H : Heap) (b : Nat) (c : List In4) : (mkSet H b c).length = H.length := by simp [mkSet]
section
variable {H : Heap} {b : Nat} {c c' : List In4} {tk : Tk}
theorem Mkr.lb (h : Mkr H b c tk) : b < H.length := (List.getElem?_eq_some_iff.1 h.hb).1
theorem mkSet_shut (h : HShut H) (c' : List In4) : HShut (mkSet H b c') := by
 intro n hn
 simp only [mkSet_len] at hn
 have h1 := h n hn
 unfold mkSet
 rw [map_set', h1]
 simp [mkrC, Blk.cl, clL, V.cl, Tk.cl]
theorem Mkr.set (h : Mkr H b c tk) (c' : List In4) : Mkr (mkSet H b c') b c' .no := ⟨by rw [mkSet, List.getElem?_set_self h.lb], .inl rfl, mkSet_shut h.shut c'⟩
theorem mkSet_mkSet (c c' : List In4) : mkSet (mkSet H b c) b c' = mkSet H b c' := by simp [mkSet]
theorem mkSet_ne {i : Nat} (h : i ≠ b) (c' : List In4) : (mkSet H b c')[i]? = H[i]? := by rw [mkSet, List.getElem?_set_ne (Ne.symm h)]
theorem mkSet_app (h : b < H.length) (c' : List In4) (R : Heap) : mkSet (H ++ R) b c' = mkSet H b c' ++ R := by rw [mkSet, mkSet, List.set_append_left _ _ h]
theorem HShut.appL (h : HShut H) {R : Heap} (hr : ∀ m, H.length + R.length ≤ m → R.map (Option.map (Blk.cl m)) = R) : HShut (H ++ R) := by
 intro m hm
 rw [List.length_append] at hm
 rw [List.map_append, h m (by omega), hr m hm]
theorem Mkr.app (h : Mkr H b c tk) {R : Heap} (hr : ∀ m, H.length + R.length ≤ m → R.map (Option.map (Blk.cl m)) = R) : Mkr (H ++ R) b c tk :=
 ⟨by rw [List.getElem?_append_left h.lb]; exact h.hb, h.htk, h.shut.appL hr⟩
theorem Mkr.hb' (h : Mkr H b c tk) : H[b]? = some (some (.cells [.vs (IL c) tk, .int .i64 0])) := h.hb
theorem Mkr.ne (h : Mkr H b c tk) {i : Nat} {v : V} (hi : H[i]? = some (some (.cells [v]))) : i ≠ b := by
 intro e
 rw [e, h.hb] at hi
 simp [mkrC] at hi
theorem took_ok [HasMk G] (h : Mkr H b c tk) (c' : List In4) (l : Nat) : SF G 415 [.ptr b 0, FL c', .int .i64 l, .int .i64 0] H (.int .i64 l) (mkSet H b c') := by
 refine SF_of HasMk.h_lower_maker_took (Nat.le_of_ble_eq_true rfl) ?_
 have hb := h.hb'
 have hlb := h.lb
 have hs := (mkSet_shut (b := b) h.shut c').self
 rw [mkSet_len] at hs
 simp only [mkSet, mkrC] at hs
 have hg : ∀ x : Option Blk, (H.set b x)[b]? = some x := fun x => List.getElem?_set_self hlb
 simp [hb, FL, hg, mkSet, mkrC, hs]
 done
theorem addM_ok [HasIns G] [HasCode G] [HasMk G] (h : Mkr H b c tk) (op : Int) (k : Nat) (ho : addOk op k) (hl : c.length < 4096) : SF G 416 [.ptr b 0, .int .i64 op, .int .u32 k] H (.int .i64 (putF c op k).length) (mkSet H b (putF c op k)) := by
 refine SF_of HasMk.h_lower_maker_add (Nat.le_of_ble_eq_true rfl) ?_
 have w1 := Add_ok (G := G) c op k ho hl
 have w2 := took_ok (G := G) h (putF c op k) (putF c op k).length
 have hs := (mkSet_shut (b := b) h.shut (putF c op k)).self
 rw [mkSet_len] at hs
 have hb := h.hb'
 simp only [FL, IV, In4.cs] at w1 w2
 simp [hb]
 refine callP_of w1 ?_
 simp
 refine callSF_of w2 ?_
 simp [hs]
theorem branchM_ok [HasIns G] [HasCode G] [HasMk G] (h : Mkr H b c tk) (op : Int) (k t f : Nat) (ho : brOp op) (ht : 1 ≤ t ∧ t ≤ c.length) (hf : 1 ≤ f ∧ f ≤ c.length) (hl : c.length + 3 ≤ 4096) :
  SF G 417 [.ptr b 0, .int .i64 op, .int .u32 k, .int .i64 t, .int .i64 f] H (.int .i64 (branchL c op k t f).length) (mkSet H b (branchL c op k t f)) := by
 refine SF_of HasMk.h_lower_maker_branch (Nat.le_of_ble_eq_true rfl) ?_
 have w1 := BranchC_ok (G := G) c op k t f ho ht hf hl
 have w2 := took_ok (G := G) h (branchL c op k t f) (branchL c op k t f).length
 have hs := (mkSet_shut (b := b) h.shut (branchL c op k t f)).self
 rw [mkSet_len] at hs
 have hb := h.hb'
 simp only [FL] at w1 w2
 simp [hb]
 refine callP_of w1 ?_
 simp
 refine callSF_of w2 ?_
 simp [hs]
theorem part_ok [HasIns G] [HasCode G] [HasMk G] {H1 : Heap} {c1 : List In4} {g : Nat} {cap : List V} {r : V} (at_ mask : Nat) (hg : SF G g cap H r H1) (h1 : Mkr H1 b c1 .no) (hlen : H1.length = H.length)
  (ha : addOk 32 at_) (hl : c1.length + 1 < 4096) : SF G 418 [.ptr b 0, .int .u32 at_, .int .u32 mask, .fn g cap] H (.tup []) (mkSet H1 b (putF (putF c1 84 mask) 32 at_)) := by
 refine SF_of HasMk.h_lower_maker_part (Nat.le_of_ble_eq_true rfl) ?_
 have w1 := addM_ok (G := G) h1 84 mask (.inl rfl) (by omega)
 have w2 := addM_ok (G := G) (h1.set (putF c1 84 mask)) 32 at_ ha (by simp [putF]; omega)
 rw [mkSet_mkSet] at w2
 have hs := (mkSet_shut (b := b) h1.shut (putF (putF c1 84 mask) 32 at_)).self
 rw [mkSet_len, hlen] at hs
 obtain ⟨r1, H2, hb, hr, ht⟩ := hg
 simp
 refine callV_of (H1 := H2) (by simpa using hb) (fun h => by simp at h) ?_
 rw [hr, ht]
 simp
 refine callSF_of w1 ?_
 simp
 refine callSF_of w2 ?_
 simp [hs]
def i1C (n : Int) : Option (Option Blk) := some (some (.cells [.int .i64 n]))
def u1C (n : Int) : Option (Option Blk) := some (some (.cells [.int .u32 n]))
theorem testc1_ok [HasIns G] [HasCode G] [HasMk G] (h : Mkr H b c tk) {pm po pl pt pf : Nat} (op : Int) (k t f : Nat) (hm : H[pm]? = some (some (.cells [.ptr b 0]))) (hop : H[po]? = i1C op) (hlo : H[pl]? = u1C k) (hpt : H[pt]? = i1C t) (hpf : H[pf]? = i1C f)
  (ho : brOp op) (ht : 1 ≤ t ∧ t ≤ c.length) (hf : 1 ≤ f ∧ f ≤ c.length) (hl : c.length + 3 ≤ 4096) :
  SF G 419 [.ptr pm 0, .ptr po 0, .ptr pl 0, .ptr pt 0, .ptr pf 0] H (.int .i64 (branchL c op k t f).length) (mkSet H b (branchL c op k t f)) := by
 refine SF_of HasMk.h_lower_maker_test_1 (Nat.le_of_ble_eq_true rfl) ?_
 have w := branchM_ok (G := G) h op k t f ho ht hf hl
 have hs := (mkSet_shut (b := b) h.shut (branchL c op k t f)).self
 rw [mkSet_len] at hs
 simp only [i1C, u1C] at hop hlo hpt hpf
 simp [hm, hop, hlo, hpt, hpf]
 refine callSF_of w ?_
 simp [hs]
def half2 (c : List In4) (op : Int) (k t f lw : Nat) : List In4 := if op = 21 then branchL c 21 k lw f else branchL (branchL c 37 k t f) 21 k lw (branchL c 37 k t f).length
def half2H (H : Heap) (c : List In4) (op : Int) (k t f pf : Nat) : Heap := if op = 21 then H else H.set pf (i1C ((branchL c 37 k t f).length : Nat)).get!
theorem testc2_ok [HasIns G] [HasCode G] [HasMk G] (h : Mkr H b c tk) {pm po ph pt pf pw : Nat} (op : Int) (k t f lw : Nat) (hm : H[pm]? = some (some (.cells [.ptr b 0]))) (hop : H[po]? = i1C op) (hhi : H[ph]? = u1C k) (hpt : H[pt]? = i1C t) (hpf : H[pf]? = i1C f) (hpw : H[pw]? = i1C lw)
  (hne : pm ≠ pf ∧ ph ≠ pf ∧ pw ≠ pf) (ht : 1 ≤ t ∧ t ≤ c.length) (hf : 1 ≤ f ∧ f ≤ c.length) (hw : 1 ≤ lw ∧ lw ≤ c.length) (hl : c.length + 6 ≤ 4096) :
  SF G 420 [.ptr po 0, .ptr pm 0, .ptr ph 0, .ptr pt 0, .ptr pf 0, .ptr pw 0] H (.int .i64 (half2 c op k t f lw).length) (mkSet (half2H H c op k t f pf) b (half2 c op k t f lw)) := by
 refine SF_of HasMk.h_lower_maker_test_2 (Nat.le_of_ble_eq_true rfl) ?_
 have nm := h.ne hm
 have no := h.ne (by simpa [i1C] using hop)
 have nh := h.ne (by simpa [u1C] using hhi)
 have nt := h.ne (by simpa [i1C] using hpt)
 have nf := h.ne (by simpa [i1C] using hpf)
 have nw := h.ne (by simpa [i1C] using hpw)
 have lpf : pf < H.length := by simp only [i1C] at hpf; exact (List.getElem?_eq_some_iff.1 hpf).1
 simp only [i1C, u1C] at hop hhi hpt hpf hpw
 by_cases e : op = 21
 ·subst e
  have w := branchM_ok (G := G) h 21 k lw f (.inl rfl) hw hf (by omega)
  have hs := (mkSet_shut (b := b) h.shut (branchL c 21 k lw f)).self
  rw [mkSet_len] at hs
  simp [hm, hop, hhi, hpt, hpf, hpw]
  refine callSF_of w ?_
  simp [hs, half2, half2H]
 ·have w1 := branchM_ok (G := G) h 37 k t f (.inr (.inl rfl)) ht hf (by omega)
  have g := (branch_grown c 37 k t f).len
  have gp := branch_pos c 37 k t f
  simp only [half2, half2H, if_neg e, i1C, Option.get!_some]
  generalize hc1 : branchL c 37 k t f = c1 at *
  have hshut : HShut ((mkSet H b c1).set pf (some (.cells [.int .i64 (c1.length : Nat)]))) := by
   intro n hn
   rw [List.length_set] at hn
   rw [map_set', mkSet_shut h.shut c1 n hn]
   simp [Blk.cl, clL, V.cl]
  have hm1 : Mkr ((mkSet H b c1).set pf (some (.cells [.int .i64 (c1.length : Nat)]))) b c1 .no := ⟨by rw [List.getElem?_set_ne nf]; exact (h.set c1).hb, .inl rfl, hshut⟩
  have w2 := branchM_ok (G := G) hm1 21 k lw c1.length (.inl rfl) ⟨hw.1, by omega⟩ (by omega) (by omega)
  have hs := (mkSet_shut (b := b) hshut (branchL c1 21 k lw c1.length)).self
  rw [mkSet_len, List.length_set, mkSet_len] at hs
  have e' : (op != 21) = true := bneT e
  have m1 : (mkSet H b c1)[pm]? = some (some (.cells [.ptr b 0])) := by rw [mkSet_ne nm]; exact hm
  have m2 : (mkSet H b c1)[ph]? = some (some (.cells [.int .u32 k])) := by rw [mkSet_ne nh]; exact hhi
  have m3 : (mkSet H b c1)[pf]? = some (some (.cells [.int .i64 f])) := by rw [mkSet_ne nf]; exact hpf
  have m4 : (mkSet H b c1)[pw]? = some (some (.cells [.int .i64 lw])) := by rw [mkSet_ne nw]; exact hpw
  have m5 : ∀ x, ((mkSet H b c1).set pf x)[pm]? = some (some (.cells [.ptr b 0])) := fun x => by rw [List.getElem?_set_ne hne.1.symm]; exact m1
  have m6 : ∀ x, ((mkSet H b c1).set pf x)[ph]? = some (some (.cells [.int .u32 k])) := fun x => by rw [List.getElem?_set_ne hne.2.1.symm]; exact m2
  have m7 : ∀ x, ((mkSet H b c1).set pf x)[pw]? = some (some (.cells [.int .i64 lw])) := fun x => by rw [List.getElem?_set_ne hne.2.2.symm]; exact m4
  have m8 : ∀ x : Option Blk, ((mkSet H b c1).set pf x)[pf]? = some x := fun x => List.getElem?_set_self (by rw [mkSet_len]; exact lpf)
  have fin : mkSet ((mkSet H b c1).set pf (some (.cells [.int .i64 (c1.length : Nat)]))) b (branchL c1 21 k lw c1.length) = mkSet (H.set pf (some (.cells [.int .i64 (c1.length : Nat)]))) b (branchL c1 21 k lw c1.length) := by
   unfold mkSet
   rw [List.set_comm _ _ (Ne.symm nf)]
   simp
   done
  rw [fin] at hs w2
  simp [hm, hop, hhi, hpt, hpf, e, e']
  refine callSF_of w1 ?_
  simp [m3, m5, m6, m7, m8]
  refine callSF_of w2 ?_
  simp [hs]
def tR (b : Nat) (y : Cd) (t f : Nat) : Heap := [some (.cells [.ptr b 0]), some (.cells y.cs), some (.cells [.int .i64 t]), some (.cells [.int .i64 f]), some (.cells [.int .u32 (lo y.val : Nat)]), some (.cells [.int .u32 (hi y.val : Nat)]), some (.cells [.int .i64 (opCmp y.cmp)])]
theorem tR_cl {b m : Nat} (y : Cd) (t f : Nat) (hb : b < m) : (tR b y t f).map (Option.map (Blk.cl m)) = tR b y t f := by
 simp [tR, Blk.cl, clL, V.cl, Cd.cs, hb]
theorem part1_ok [HasIns G] [HasCode G] [HasMk G] (h : Mkr H b c tk) (y : Cd) (t f : Nat) (hy : y.right = true) (ht : 1 ≤ t ∧ t ≤ c.length) (hf : 1 ≤ f ∧ f ≤ c.length) (hl : c.length + 13 ≤ 4096) :
  SF G 418 [.ptr b 0, .int .u32 (16 + 8 * y.arg.toNat : Nat), .int .u32 (lo y.mask : Nat), .fn 419 [.ptr H.length 0, .ptr (H.length + 6) 0, .ptr (H.length + 4) 0, .ptr (H.length + 2) 0, .ptr (H.length + 3) 0]] (H ++ tR b y t f) (.tup []) (mkSet H b (test1 c y t f) ++ tR b y t f) := by
 have h1 := h.app (R := tR b y t f) (fun m hm => tR_cl y t f (by have := h.lb; omega))
 have g : ∀ i, (H ++ tR b y t f)[H.length + i]? = (tR b y t f)[i]? := fun i => by rw [List.getElem?_append_right (by omega)]; congr 1; omega
 have w := testc1_ok (G := G) h1 (opCmp y.cmp) (lo y.val) t f (g 0) (g 6) (g 4) (g 2) (g 3) (op_br _) ht hf (by omega)
 have := (branch_grown c (opCmp y.cmp) (lo y.val) t f).len
 have p := part_ok (G := G) (b := b) (16 + 8 * y.arg.toNat) (lo y.mask) w (h1.set _) (by simp) (addr_ok hy 16 (.inl rfl)) (by omega)
 rw [mkSet_mkSet, mkSet_app h.lb] at p
 exact p
theorem part2_ok [HasIns G] [HasCode G] [HasMk G] (h : Mkr H b c tk) (y : Cd) (t f : Nat) (hy : y.right = true) (ht : 1 ≤ t ∧ t ≤ c.length) (hf : 1 ≤ f ∧ f ≤ c.length) (hl : c.length + 13 ≤ 4096) :
  ∃ R, SF G 418 [.ptr b 0, .int .u32 (20 + 8 * y.arg.toNat : Nat), .int .u32 (hi y.mask : Nat), .fn 420 [.ptr (H.length + 6) 0, .ptr H.length 0, .ptr (H.length + 5) 0, .ptr (H.length + 2) 0, .ptr (H.length + 3) 0, .ptr (H.length + 7) 0]]
   (mkSet H b (test1 c y t f) ++ (tR b y t f ++ [some (.cells [.int .i64 (test1 c y t f).length])])) (.tup []) (mkSet H b (test0 c y t f) ++ some (.cells [.ptr b 0]) :: R) := by
 have g1 := (test1_grown c y t f).len
 have h0 := h.set (test1 c y t f)
 have h1 := h0.app (R := tR b y t f ++ [some (.cells [.int .i64 (test1 c y t f).length])]) (fun m hm => by
  have := h.lb
  simp only [mkSet_len] at hm
  rw [List.map_append, tR_cl y t f (by omega)]
  simp [Blk.cl, clL, V.cl])
 have g : ∀ i, (mkSet H b (test1 c y t f) ++ (tR b y t f ++ [some (.cells [.int .i64 (test1 c y t f).length])]))[H.length + i]? = (tR b y t f ++ [some (.cells [.int .i64 (test1 c y t f).length])])[i]? := fun i => by
  rw [List.getElem?_append_right (by simp), mkSet_len]; congr 1; omega
 have w := testc2_ok (G := G) h1 (opCmp y.cmp) (hi y.val) t f (test1 c y t f).length (g 0) (g 6) (g 5) (g 2) (g 3) (g 7) ⟨by omega, by omega, by omega⟩ ⟨ht.1, by omega⟩ ⟨hf.1, by omega⟩ (by omega) (by omega)
 have e2 : half2 (test1 c y t f) (opCmp y.cmp) (hi y.val) t f (test1 c y t f).length = branchL (test2 c y t f) 21 (hi y.val) (test1 c y t f).length (if opCmp y.cmp = 21 then f else (test2 c y t f).length) := by
  unfold half2 test2
  split <;> rfl
 have hs2 : HShut (half2H (mkSet H b (test1 c y t f) ++ (tR b y t f ++ [some (.cells [.int .i64 (test1 c y t f).length])])) (test1 c y t f) (opCmp y.cmp) (hi y.val) t f (H.length + 3)) := by
  unfold half2H
  split
  ·exact h1.shut
  ·intro n hn
   rw [List.length_set] at hn
   rw [map_set', h1.shut n hn]
   simp [i1C, Blk.cl, clL, V.cl]
 have g2 := (test2_grown c y t f).len
 have g3 := (branch_grown (test2 c y t f) 21 (hi y.val) (test1 c y t f).length (if opCmp y.cmp = 21 then f else (test2 c y t f).length)).len
 have hb2 : b < (half2H (mkSet H b (test1 c y t f) ++ (tR b y t f ++ [some (.cells [.int .i64 (test1 c y t f).length])])) (test1 c y t f) (opCmp y.cmp) (hi y.val) t f (H.length + 3)).length := by
  have := h.lb
  unfold half2H
  split <;> simp <;> omega
 have h2 : Mkr (mkSet (half2H (mkSet H b (test1 c y t f) ++ (tR b y t f ++ [some (.cells [.int .i64 (test1 c y t f).length])])) (test1 c y t f) (opCmp y.cmp) (hi y.val) t f (H.length + 3)) b (half2 (test1 c y t f) (opCmp y.cmp) (hi y.val) t f (test1 c y t f).length)) b _ .no :=
  ⟨by rw [mkSet, List.getElem?_set_self hb2], .inl rfl, mkSet_shut hs2 _⟩
 have p := part_ok (G := G) (b := b) (20 + 8 * y.arg.toNat) (hi y.mask) w h2 (by unfold half2H; split <;> simp) (addr_ok hy 20 (.inr rfl)) (by rw [e2]; omega)
 rw [mkSet_mkSet, e2] at p
 obtain ⟨R, hR⟩ : ∃ R, half2H (mkSet H b (test1 c y t f) ++ (tR b y t f ++ [some (.cells [.int .i64 (test1 c y t f).length])])) (test1 c y t f) (opCmp y.cmp) (hi y.val) t f (H.length + 3) = mkSet H b (test1 c y t f) ++ some (.cells [.ptr b 0]) :: R := by
  unfold half2H
  split
  ·exact ⟨_, rfl⟩
  ·rw [List.set_append_right _ _ (by simp), mkSet_len, show H.length + 3 - H.length = 3 by omega]
   exact ⟨_, rfl⟩
 rw [hR, mkSet_app (by simpa using h.lb), mkSet_mkSet] at p
 exact ⟨R, p⟩
theorem testM_ok [HasIns G] [HasCode G] [HasMk G] [HasCondR G] [HasCondN G] [HasDataL G] (h : Mkr H b c tk) (x : Cd) (t f : Nat) (hx : x.right = true) (hxo : x.ok) (ht : 1 ≤ t ∧ t ≤ c.length) (hf : 1 ≤ f ∧ f ≤ c.length) (hl : c.length + 13 ≤ 4096) :
  SF G 421 [.ptr b 0, .agg x.cs, .int .i64 t, .int .i64 f] H (.int .i64 (testL c x t f).length) (mkSet H b (testL c x t f)) := by
 refine SF_of HasMk.h_lower_maker_test (Nat.le_of_ble_eq_true rfl) ?_
 have hx' := hx
 simp only [Cd.right, decide_eq_true_eq] at hx'
 have hN := Not_ok (G := G) x
 rw [notC, if_pos hx] at hN
 obtain ⟨y, hy⟩ : ∃ y, y = if flipC x then ({ x with cmp := notCmp x.cmp } : Cd) else x := ⟨_, rfl⟩
 obtain ⟨t', ht'⟩ : ∃ t', t' = if flipC x then f else t := ⟨_, rfl⟩
 obtain ⟨f', hf'⟩ : ∃ f', f' = if flipC x then t else f := ⟨_, rfl⟩
 have hc : x.cmp = 0 ∨ x.cmp = 1 ∨ x.cmp = 2 ∨ x.cmp = 3 ∨ x.cmp = 4 ∨ x.cmp = 5 := by omega
 have hlo : convI .u32 (x.val : Int) = ((lo x.val : Nat) : Int) := rfl
 have hmlo : convI .u32 (x.mask : Int) = ((lo x.mask : Nat) : Int) := rfl
 have hv := shr_hi x.val hxo.2
 have hv2 : convI .u32 ((x.val / 4294967296 : Nat) : Int) = ((hi x.val : Nat) : Int) := rfl
 have hmm := shr_hi x.mask hxo.1
 have hmm2 : convI .u32 ((x.mask / 4294967296 : Nat) : Int) = ((hi x.mask : Nat) : Int) := rfl
 have wl := Low_ok (G := G) x.arg ⟨by omega, by omega⟩
 have wh := High_ok (G := G) x.arg ⟨by omega, by omega⟩
 have hF7 : (H.length + 7 ≤ H.length) = False := eq_false (by omega)
 have hF8 : (H.length + 8 ≤ H.length) = False := eq_false (by omega)
 have hF71 : (H.length + 7 ≤ H.length + 1) = False := eq_false (by omega)
 have hF81 : (H.length + 8 ≤ H.length + 1) = False := eq_false (by omega)
 have gk : ∀ (c' : List In4) (r : Heap) (k : Nat), (mkSet H b c' ++ r)[H.length + k]? = r[k]? := fun c' r k => by rw [List.getElem?_append_right (by simp), mkSet_len]; congr 1; omega
 have gk0 : ∀ (c' : List In4) (r : Heap), (mkSet H b c' ++ r)[H.length]? = r[0]? := fun c' r => gk c' r 0
 have gb : ∀ (c' : List In4) (r : Heap), (mkSet H b c' ++ r)[b]? = some (some (.cells [.vs (IL c') .no, .int .i64 0])) := fun c' r => by rw [List.getElem?_append_left (by simpa using h.lb)]; exact (h.set c').hb
 have sk : ∀ (c' : List In4) (r : Heap) (k : Nat) (x : Option Blk), (mkSet H b c' ++ r).set (H.length + k) x = mkSet H b c' ++ r.set k x := fun c' r k x => by rw [List.set_append_right _ _ (by simp), mkSet_len]; congr 1; congr 1; omega
 have gbH : ∀ (r : Heap), (H ++ r)[b]? = some (some (.cells [.vs (IL c) tk, .int .i64 0])) := fun r => by rw [List.getElem?_append_left h.lb]; exact h.hb
 have bk : ∀ (c' : List In4) (r : Heap), trunc H.length (mkSet H b c' ++ r) = mkSet H b c' := fun c' r => by have := (mkSet_shut (b := b) h.shut c').back r; rwa [mkSet_len] at this
 have hlb := h.lb
 have tb : ∀ k : Nat, (b < H.length + k) = True := fun k => eq_true (by omega)
 rcases hc with hc | hc | hc | hc | hc | hc
 ·have hfl : flipC x = false := by simp [flipC, hc]
  have hT : testL c x t f = test0 c x t f := by rw [testL, hfl]; rfl
  have p1 := part1_ok (G := G) h x t f hx ht hf hl
  obtain ⟨R, p2⟩ := part2_ok (G := G) h x t f hx ht hf hl
  have hop : opCmp x.cmp = 21 := by simp [opCmp, hc]
  rw [← hT] at p2
  simp only [tR, Cd.cs, hop] at p1 p2
  simp only [hc] at p1 p2
  simp only [List.cons_append, List.nil_append] at p2
  generalize test1 c x t f = c1 at p1 p2
  generalize testL c x t f = c2 at p2 ⊢
  simp [Cd.cs, hc, hlo, hmlo, hv, hv2, hmm, hmm2, Nat.add_assoc, hF7, hF8, hF71, hF81, -Int.natCast_ediv]
  refine callP_of wl ?_
  simp [hlo, hmlo, hv, hv2, hmm, hmm2, Nat.add_assoc, hF7, hF8, hF71, hF81, gk, gk0, gb, sk, gbH, show notCmp 1 = 0 from rfl, show notCmp 2 = 5 from rfl, show notCmp 3 = 4 from rfl, -Int.natCast_ediv, -Int.natCast_add, -Int.natCast_mul]
  refine callSF_of p1 ?_
  simp [hlo, hmlo, hv, hv2, hmm, hmm2, Nat.add_assoc, hF7, hF8, hF71, hF81, gk, gk0, gb, sk, gbH, show notCmp 1 = 0 from rfl, show notCmp 2 = 5 from rfl, show notCmp 3 = 4 from rfl, -Int.natCast_ediv, -Int.natCast_add, -Int.natCast_mul]
  refine callP_of wh ?_
  simp [hlo, hmlo, hv, hv2, hmm, hmm2, Nat.add_assoc, hF7, hF8, hF71, hF81, gk, gk0, gb, sk, gbH, show notCmp 1 = 0 from rfl, show notCmp 2 = 5 from rfl, show notCmp 3 = 4 from rfl, -Int.natCast_ediv, -Int.natCast_add, -Int.natCast_mul]
  refine callSF_of p2 ?_
  simp [hlo, hmlo, hv, hv2, hmm, hmm2, Nat.add_assoc, hF7, hF8, hF71, hF81, gk, gk0, gb, sk, gbH, show notCmp 1 = 0 from rfl, show notCmp 2 = 5 from rfl, show notCmp 3 = 4 from rfl, -Int.natCast_ediv, -Int.natCast_add, -Int.natCast_mul]
  exact bk _ _
 ·have hfl : flipC x = true := by simp [flipC, hc]
  have hnc : notCmp x.cmp = 0 := by rw [hc]; rfl
  have hT : testL c x t f = test0 c { x with cmp := notCmp x.cmp } f t := by rw [testL, if_pos hfl]
  have p1 := part1_ok (G := G) h ({ x with cmp := notCmp x.cmp } : Cd) f t (not_right hx) hf ht hl
  obtain ⟨R, p2⟩ := part2_ok (G := G) h ({ x with cmp := notCmp x.cmp } : Cd) f t (not_right hx) hf ht hl
  have hop : opCmp ({ x with cmp := notCmp x.cmp } : Cd).cmp = 21 := by simp [opCmp, hnc]
  rw [← hT] at p2
  simp only [tR, Cd.cs, hop] at p1 p2
  simp only [hnc] at p1 p2
  simp only [List.cons_append, List.nil_append] at p2
  generalize test1 c ({ x with cmp := notCmp x.cmp } : Cd) f t = c1 at p1 p2
  generalize testL c x t f = c2 at p2 ⊢
  simp [Cd.cs, hc, hlo, hmlo, hv, hv2, hmm, hmm2, Nat.add_assoc, hF7, hF8, hF71, hF81, -Int.natCast_ediv]
  refine callP_of (by simpa only [Cd.cs, hc, hnc] using hN) ?_
  simp [hlo, hmlo, hv, hv2, hmm, hmm2, Nat.add_assoc, hF7, hF8, hF71, hF81, gk, gk0, gb, sk, gbH, show notCmp 1 = 0 from rfl, show notCmp 2 = 5 from rfl, show notCmp 3 = 4 from rfl, -Int.natCast_ediv, -Int.natCast_add, -Int.natCast_mul]
  refine callP_of wl ?_
  simp [hlo, hmlo, hv, hv2, hmm, hmm2, Nat.add_assoc, hF7, hF8, hF71, hF81, gk, gk0, gb, sk, gbH, show notCmp 1 = 0 from rfl, show notCmp 2 = 5 from rfl, show notCmp 3 = 4 from rfl, -Int.natCast_ediv, -Int.natCast_add, -Int.natCast_mul]
  refine callSF_of p1 ?_
  simp [hlo, hmlo, hv, hv2, hmm, hmm2, Nat.add_assoc, hF7, hF8, hF71, hF81, gk, gk0, gb, sk, gbH, show notCmp 1 = 0 from rfl, show notCmp 2 = 5 from rfl, show notCmp 3 = 4 from rfl, -Int.natCast_ediv, -Int.natCast_add, -Int.natCast_mul]
  refine callP_of wh ?_
  simp [hlo, hmlo, hv, hv2, hmm, hmm2, Nat.add_assoc, hF7, hF8, hF71, hF81, gk, gk0, gb, sk, gbH, show notCmp 1 = 0 from rfl, show notCmp 2 = 5 from rfl, show notCmp 3 = 4 from rfl, -Int.natCast_ediv, -Int.natCast_add, -Int.natCast_mul]
  refine callSF_of p2 ?_
  simp [hlo, hmlo, hv, hv2, hmm, hmm2, Nat.add_assoc, hF7, hF8, hF71, hF81, gk, gk0, gb, sk, gbH, show notCmp 1 = 0 from rfl, show notCmp 2 = 5 from rfl, show notCmp 3 = 4 from rfl, -Int.natCast_ediv, -Int.natCast_add, -Int.natCast_mul]
  exact bk _ _
 ·have hfl : flipC x = true := by simp [flipC, hc]
  have hnc : notCmp x.cmp = 5 := by rw [hc]; rfl
  have hT : testL c x t f = test0 c { x with cmp := notCmp x.cmp } f t := by rw [testL, if_pos hfl]
  have p1 := part1_ok (G := G) h ({ x with cmp := notCmp x.cmp } : Cd) f t (not_right hx) hf ht hl
  obtain ⟨R, p2⟩ := part2_ok (G := G) h ({ x with cmp := notCmp x.cmp } : Cd) f t (not_right hx) hf ht hl
  have hop : opCmp ({ x with cmp := notCmp x.cmp } : Cd).cmp = 53 := by simp [opCmp, hnc]
  rw [← hT] at p2
  simp only [tR, Cd.cs, hop] at p1 p2
  simp only [hnc] at p1 p2
  simp only [List.cons_append, List.nil_append] at p2
  generalize test1 c ({ x with cmp := notCmp x.cmp } : Cd) f t = c1 at p1 p2
  generalize testL c x t f = c2 at p2 ⊢
  simp [Cd.cs, hc, hlo, hmlo, hv, hv2, hmm, hmm2, Nat.add_assoc, hF7, hF8, hF71, hF81, -Int.natCast_ediv]
  refine callP_of (by simpa only [Cd.cs, hc, hnc] using hN) ?_
  simp [hlo, hmlo, hv, hv2, hmm, hmm2, Nat.add_assoc, hF7, hF8, hF71, hF81, gk, gk0, gb, sk, gbH, show notCmp 1 = 0 from rfl, show notCmp 2 = 5 from rfl, show notCmp 3 = 4 from rfl, -Int.natCast_ediv, -Int.natCast_add, -Int.natCast_mul]
  refine callP_of wl ?_
  simp [hlo, hmlo, hv, hv2, hmm, hmm2, Nat.add_assoc, hF7, hF8, hF71, hF81, gk, gk0, gb, sk, gbH, show notCmp 1 = 0 from rfl, show notCmp 2 = 5 from rfl, show notCmp 3 = 4 from rfl, -Int.natCast_ediv, -Int.natCast_add, -Int.natCast_mul]
  refine callSF_of p1 ?_
  simp [hlo, hmlo, hv, hv2, hmm, hmm2, Nat.add_assoc, hF7, hF8, hF71, hF81, gk, gk0, gb, sk, gbH, show notCmp 1 = 0 from rfl, show notCmp 2 = 5 from rfl, show notCmp 3 = 4 from rfl, -Int.natCast_ediv, -Int.natCast_add, -Int.natCast_mul]
  refine callP_of wh ?_
  simp [hlo, hmlo, hv, hv2, hmm, hmm2, Nat.add_assoc, hF7, hF8, hF71, hF81, gk, gk0, gb, sk, gbH, show notCmp 1 = 0 from rfl, show notCmp 2 = 5 from rfl, show notCmp 3 = 4 from rfl, -Int.natCast_ediv, -Int.natCast_add, -Int.natCast_mul]
  refine callSF_of p2 ?_
  simp [hlo, hmlo, hv, hv2, hmm, hmm2, Nat.add_assoc, hF7, hF8, hF71, hF81, gk, gk0, gb, sk, gbH, show notCmp 1 = 0 from rfl, show notCmp 2 = 5 from rfl, show notCmp 3 = 4 from rfl, -Int.natCast_ediv, -Int.natCast_add, -Int.natCast_mul]
  exact bk _ _
 ·have hfl : flipC x = true := by simp [flipC, hc]
  have hnc : notCmp x.cmp = 4 := by rw [hc]; rfl
  have hT : testL c x t f = test0 c { x with cmp := notCmp x.cmp } f t := by rw [testL, if_pos hfl]
  have p1 := part1_ok (G := G) h ({ x with cmp := notCmp x.cmp } : Cd) f t (not_right hx) hf ht hl
  obtain ⟨R, p2⟩ := part2_ok (G := G) h ({ x with cmp := notCmp x.cmp } : Cd) f t (not_right hx) hf ht hl
  have hop : opCmp ({ x with cmp := notCmp x.cmp } : Cd).cmp = 37 := by simp [opCmp, hnc]
  rw [← hT] at p2
  simp only [tR, Cd.cs, hop] at p1 p2
  simp only [hnc] at p1 p2
  simp only [List.cons_append, List.nil_append] at p2
  generalize test1 c ({ x with cmp := notCmp x.cmp } : Cd) f t = c1 at p1 p2
  generalize testL c x t f = c2 at p2 ⊢
  simp [Cd.cs, hc, hlo, hmlo, hv, hv2, hmm, hmm2, Nat.add_assoc, hF7, hF8, hF71, hF81, -Int.natCast_ediv]
  refine callP_of (by simpa only [Cd.cs, hc, hnc] using hN) ?_
  simp [hlo, hmlo, hv, hv2, hmm, hmm2, Nat.add_assoc, hF7, hF8, hF71, hF81, gk, gk0, gb, sk, gbH, show notCmp 1 = 0 from rfl, show notCmp 2 = 5 from rfl, show notCmp 3 = 4 from rfl, -Int.natCast_ediv, -Int.natCast_add, -Int.natCast_mul]
  refine callP_of wl ?_
  simp [hlo, hmlo, hv, hv2, hmm, hmm2, Nat.add_assoc, hF7, hF8, hF71, hF81, gk, gk0, gb, sk, gbH, show notCmp 1 = 0 from rfl, show notCmp 2 = 5 from rfl, show notCmp 3 = 4 from rfl, -Int.natCast_ediv, -Int.natCast_add, -Int.natCast_mul]
  refine callSF_of p1 ?_
  simp [hlo, hmlo, hv, hv2, hmm, hmm2, Nat.add_assoc, hF7, hF8, hF71, hF81, gk, gk0, gb, sk, gbH, show notCmp 1 = 0 from rfl, show notCmp 2 = 5 from rfl, show notCmp 3 = 4 from rfl, -Int.natCast_ediv, -Int.natCast_add, -Int.natCast_mul]
  refine callP_of wh ?_
  simp [hlo, hmlo, hv, hv2, hmm, hmm2, Nat.add_assoc, hF7, hF8, hF71, hF81, gk, gk0, gb, sk, gbH, show notCmp 1 = 0 from rfl, show notCmp 2 = 5 from rfl, show notCmp 3 = 4 from rfl, -Int.natCast_ediv, -Int.natCast_add, -Int.natCast_mul]
  refine callSF_of p2 ?_
  simp [hlo, hmlo, hv, hv2, hmm, hmm2, Nat.add_assoc, hF7, hF8, hF71, hF81, gk, gk0, gb, sk, gbH, show notCmp 1 = 0 from rfl, show notCmp 2 = 5 from rfl, show notCmp 3 = 4 from rfl, -Int.natCast_ediv, -Int.natCast_add, -Int.natCast_mul]
  exact bk _ _
 ·have hfl : flipC x = false := by simp [flipC, hc]
  have hT : testL c x t f = test0 c x t f := by rw [testL, hfl]; rfl
  have p1 := part1_ok (G := G) h x t f hx ht hf hl
  obtain ⟨R, p2⟩ := part2_ok (G := G) h x t f hx ht hf hl
  have hop : opCmp x.cmp = 37 := by simp [opCmp, hc]
  rw [← hT] at p2
  simp only [tR, Cd.cs, hop] at p1 p2
  simp only [hc] at p1 p2
  simp only [List.cons_append, List.nil_append] at p2
  generalize test1 c x t f = c1 at p1 p2
  generalize testL c x t f = c2 at p2 ⊢
  simp [Cd.cs, hc, hlo, hmlo, hv, hv2, hmm, hmm2, Nat.add_assoc, hF7, hF8, hF71, hF81, -Int.natCast_ediv]
  refine callP_of wl ?_
  simp [hlo, hmlo, hv, hv2, hmm, hmm2, Nat.add_assoc, hF7, hF8, hF71, hF81, gk, gk0, gb, sk, gbH, show notCmp 1 = 0 from rfl, show notCmp 2 = 5 from rfl, show notCmp 3 = 4 from rfl, -Int.natCast_ediv, -Int.natCast_add, -Int.natCast_mul]
  refine callSF_of p1 ?_
  simp [hlo, hmlo, hv, hv2, hmm, hmm2, Nat.add_assoc, hF7, hF8, hF71, hF81, gk, gk0, gb, sk, gbH, show notCmp 1 = 0 from rfl, show notCmp 2 = 5 from rfl, show notCmp 3 = 4 from rfl, -Int.natCast_ediv, -Int.natCast_add, -Int.natCast_mul]
  refine callP_of wh ?_
  simp [hlo, hmlo, hv, hv2, hmm, hmm2, Nat.add_assoc, hF7, hF8, hF71, hF81, gk, gk0, gb, sk, gbH, show notCmp 1 = 0 from rfl, show notCmp 2 = 5 from rfl, show notCmp 3 = 4 from rfl, -Int.natCast_ediv, -Int.natCast_add, -Int.natCast_mul]
  refine callSF_of p2 ?_
  simp [hlo, hmlo, hv, hv2, hmm, hmm2, Nat.add_assoc, hF7, hF8, hF71, hF81, gk, gk0, gb, sk, gbH, show notCmp 1 = 0 from rfl, show notCmp 2 = 5 from rfl, show notCmp 3 = 4 from rfl, -Int.natCast_ediv, -Int.natCast_add, -Int.natCast_mul]
  exact bk _ _
 ·have hfl : flipC x = false := by simp [flipC, hc]
  have hT : testL c x t f = test0 c x t f := by rw [testL, hfl]; rfl
  have p1 := part1_ok (G := G) h x t f hx ht hf hl
  obtain ⟨R, p2⟩ := part2_ok (G := G) h x t f hx ht hf hl
  have hop : opCmp x.cmp = 53 := by simp [opCmp, hc]
  rw [← hT] at p2
  simp only [tR, Cd.cs, hop] at p1 p2
  simp only [hc] at p1 p2
  simp only [List.cons_append, List.nil_append] at p2
  generalize test1 c x t f = c1 at p1 p2
  generalize testL c x t f = c2 at p2 ⊢
  simp [Cd.cs, hc, hlo, hmlo, hv, hv2, hmm, hmm2, Nat.add_assoc, hF7, hF8, hF71, hF81, -Int.natCast_ediv]
  refine callP_of wl ?_
  simp [hlo, hmlo, hv, hv2, hmm, hmm2, Nat.add_assoc, hF7, hF8, hF71, hF81, gk, gk0, gb, sk, gbH, show notCmp 1 = 0 from rfl, show notCmp 2 = 5 from rfl, show notCmp 3 = 4 from rfl, -Int.natCast_ediv, -Int.natCast_add, -Int.natCast_mul]
  refine callSF_of p1 ?_
  simp [hlo, hmlo, hv, hv2, hmm, hmm2, Nat.add_assoc, hF7, hF8, hF71, hF81, gk, gk0, gb, sk, gbH, show notCmp 1 = 0 from rfl, show notCmp 2 = 5 from rfl, show notCmp 3 = 4 from rfl, -Int.natCast_ediv, -Int.natCast_add, -Int.natCast_mul]
  refine callP_of wh ?_
  simp [hlo, hmlo, hv, hv2, hmm, hmm2, Nat.add_assoc, hF7, hF8, hF71, hF81, gk, gk0, gb, sk, gbH, show notCmp 1 = 0 from rfl, show notCmp 2 = 5 from rfl, show notCmp 3 = 4 from rfl, -Int.natCast_ediv, -Int.natCast_add, -Int.natCast_mul]
  refine callSF_of p2 ?_
  simp [hlo, hmlo, hv, hv2, hmm, hmm2, Nat.add_assoc, hF7, hF8, hF71, hF81, gk, gk0, gb, sk, gbH, show notCmp 1 = 0 from rfl, show notCmp 2 = 5 from rfl, show notCmp 3 = 4 from rfl, -Int.natCast_ediv, -Int.natCast_add, -Int.natCast_mul]
  exact bk _ _
end
end Go.Ev
/- Conditions by the document: contracts. -/
namespace Go.Ev
open Go Go.RowKit
variable {G : Tbl}
set_option maxRecDepth 10000
set_option maxHeartbeats 4000000
set_option linter.unusedSimpArgs false
set_option linter.unusedVariables false
theorem CondRR_ok [HasR8 G] (c : Cd) : FP G 433 [.agg c.cs] (.bool c.right) := by
 refine FP_of HasR8.h_hurdleref08_Right (Nat.le_of_ble_eq_true rfl) ?_
 by_cases h1 : 0 ≤ c.arg
 ·by_cases h2 : c.arg ≤ 5
  ·by_cases h3 : 0 ≤ c.cmp
   ·by_cases h4 : c.cmp ≤ 5
    ·simp [Cd.cs, Cd.right, h1, h2, h3, h4]
    ·simp [Cd.cs, Cd.right, h1, h2, h3, h4]
   ·simp [Cd.cs, Cd.right, h1, h2, h3]
  ·simp [Cd.cs, Cd.right, h1, h2]
 ·simp [Cd.cs, Cd.right, h1]
theorem and_at (a b i : Nat) : (a &&& b) / 2 ^ i % 2 = if a / 2 ^ i % 2 = 1 ∧ b / 2 ^ i % 2 = 1 then 1 else 0 := by
 rw [toNat_bit, toNat_bit, toNat_bit, Nat.testBit_and]
 cases a.testBit i <;> cases b.testBit i <;> simp
theorem and_mod_succ (a b i : Nat) : (a &&& b) % 2 ^ (i + 1) = (a &&& b) % 2 ^ i + if a / 2 ^ i % 2 = 1 ∧ b / 2 ^ i % 2 = 1 then 2 ^ i else 0 := by
 rw [Nat.pow_succ, Nat.mod_mul, and_at]
 split <;> simp
theorem masked_ok [HasR8 G] (a b : Nat) (ha : a < 18446744073709551616) (hb : b < 18446744073709551616) : FP G 434 [.int .u64 a, .int .u64 b] (.int .u64 (a &&& b : Nat)) := by
 refine FP_of HasR8.h_hurdleref08_masked (Nat.le_of_ble_eq_true rfl) ?_
 obtain ⟨S, hS⟩ : ∃ S : Nat → Nat, ∀ i, S i = (a &&& b) % 2 ^ i := ⟨_, fun _ => rfl⟩
 obtain ⟨A, hA⟩ : ∃ A : Nat → Nat, ∀ i, A i = a / 2 ^ i := ⟨_, fun _ => rfl⟩
 obtain ⟨B, hB⟩ : ∃ B : Nat → Nat, ∀ i, B i = b / 2 ^ i := ⟨_, fun _ => rfl⟩
 obtain ⟨P, hP⟩ : ∃ P : Nat → Nat, ∀ i, P i = 2 ^ i % 18446744073709551616 := ⟨_, fun _ => rfl⟩
 have hab : a &&& b < 18446744073709551616 := Nat.lt_of_le_of_lt Nat.and_le_left ha
 have hS64 : S 64 = a &&& b := by rw [hS]; exact Nat.mod_eq_of_lt hab
 have hS0 : S 0 = 0 := by rw [hS]; simp [Nat.mod_one]
 have hA0 : A 0 = a := by rw [hA]; simp
 have hB0 : B 0 = b := by rw [hB]; simp
 have hP0 : P 0 = 1 := by rw [hP]
 have hAl : ∀ i, A i < 18446744073709551616 := fun i => by rw [hA]; exact Nat.lt_of_le_of_lt (Nat.div_le_self _ _) ha
 have hBl : ∀ i, B i < 18446744073709551616 := fun i => by rw [hB]; exact Nat.lt_of_le_of_lt (Nat.div_le_self _ _) hb
 have hAs : ∀ i, A (i + 1) = A i / 2 := fun i => by rw [hA, hA, Nat.pow_succ, Nat.div_div_eq_div_mul]
 have hBs : ∀ i, B (i + 1) = B i / 2 := fun i => by rw [hB, hB, Nat.pow_succ, Nat.div_div_eq_div_mul]
 have hPs : ∀ i, P (i + 1) = P i * 2 % 18446744073709551616 := fun i => by rw [hP, hP, Nat.pow_succ]; simp [Nat.mul_mod]
 have hSs : ∀ i, i < 64 → S (i + 1) = S i + if A i % 2 = 1 ∧ B i % 2 = 1 then P i else 0 := fun i hi => by
  rw [hS, hS, and_mod_succ, hA, hB, hP, Nat.mod_eq_of_lt (show 2 ^ i < 18446744073709551616 from Nat.pow_lt_pow_right (by decide) hi)]
 have hSl : ∀ i, S i < 18446744073709551616 := fun i => by rw [hS]; exact Nat.lt_of_le_of_lt (Nat.mod_le _ _) hab
 simp
 refine W_up 64 (fun i => [(0, .int .u64 (A i)), (1, .int .u64 (B i)), (5, .int .u64 (S i)), (6, .int .u64 (P i)), (7, .int .i64 i)]) (fun _ => []) (fun _ => True) ?_ ?_
 ·simp [keep_cl, trunc, hA0, hB0, hS0, hP0]
 intro i hi _
 rcases Nat.eq_or_lt_of_le hi with hi | hi
 ·subst hi
  simp [keep_cl, trunc, hS64]
 ·have r1 : remI (A i : Int) 2 = ((A i % 2 : Nat) : Int) := rem64 (b := 2)
  have r2 : remI (B i : Int) 2 = ((B i % 2 : Nat) : Int) := rem64 (b := 2)
  have q1 : quoI .u64 (A i : Int) 2 = ((A i / 2 : Nat) : Int) := quoU64' (b := 2) (hAl i)
  have q2 : quoI .u64 (B i : Int) 2 = ((B i / 2 : Nat) : Int) := quoU64' (b := 2) (hBl i)
  have m1 : mulI .u64 (P i : Int) 2 = ((P i * 2 % 18446744073709551616 : Nat) : Int) := by
   unfold mulI
   rw [IntKind.wrap, show IntKind.u64.signed = false from rfl]
   simp [IntKind.bits]
  have hsi := hSs i hi
  have e1 : (((A i % 2 : Nat) : Int) == 1) = decide (A i % 2 = 1) := by rw [Bool.eq_iff_iff]; simp; omega
  have e2 : (((B i % 2 : Nat) : Int) == 1) = decide (B i % 2 = 1) := by rw [Bool.eq_iff_iff]; simp; omega
  have li : ((i : Int) < 64) = True := eq_true (by omega)
  by_cases c1 : A i % 2 = 1
  ·by_cases c2 : B i % 2 = 1
   ·rw [if_pos ⟨c1, c2⟩] at hsi
    have a1 : addI .u64 (S i : Int) (P i : Int) = ((S (i + 1) : Nat) : Int) := by
     rw [hsi]; exact IntWalk.u64_in _ ⟨by omega, by have := hSl (i + 1); omega⟩
    simp (disch := omega) [keep_cl, trunc, r1, r2, q1, q2, m1, hAs, hBs, hPs, e1, e2, c1, c2, a1, add1', li, -Int.natCast_add, -Int.natCast_emod, -Int.natCast_ediv]
    exact hi
   ·rw [if_neg (fun h => c2 h.2)] at hsi
    simp (disch := omega) [keep_cl, trunc, r1, r2, q1, q2, m1, hAs, hBs, hPs, e1, e2, c1, c2, hsi, add1', li, -Int.natCast_add, -Int.natCast_emod, -Int.natCast_ediv]
    exact hi
  ·rw [if_neg (fun h => c1 h.1)] at hsi
   simp (disch := omega) [keep_cl, trunc, r1, r2, q1, q2, m1, hAs, hBs, hPs, e1, e2, c1, hsi, add1', li, -Int.natCast_add, -Int.natCast_emod, -Int.natCast_ediv]
   exact hi
theorem HoldsR_ok [HasR8 G] (c : Cd) (hc : c.ok) (d : Da) (hd : d.ok) : FP G 435 [.agg c.cs, DV d] (.bool (c.holds d)) := by
 refine FP_of HasR8.h_hurdleref08_Holds (Nat.le_of_ble_eq_true rfl) ?_
 have hr := CondRR_ok (G := G) c
 obtain ⟨_, _, _, hl, hw⟩ := hd
 have hdl : d.cs.length = 9 := by simp [Da.cs, hl]
 simp only [Cd.cs] at hr
 simp [DV, Cd.cs, hdl]
 refine callP_of hr ?_
 cases hx : c.right with
 | false => simp [Cd.holds, hx]
 | true =>
  have hx' := hx
  simp only [Cd.right, decide_eq_true_eq] at hx'
  obtain ⟨n, hn⟩ : ∃ n : Nat, c.arg = n := ⟨c.arg.toNat, by omega⟩
  have hn5 : n ≤ 5 := by omega
  obtain ⟨a, ha⟩ : ∃ a, d.args[n]? = some a := ⟨_, List.getElem?_eq_getElem (by omega)⟩
  have hal := hw a (List.mem_of_getElem? ha)
  have hg : d.cs[3 + n]? = some (.int .u64 (a : Int)) := by
   rw [Nat.add_comm]; simp [Da.cs, cnats, ha]
  have hA : argD d c = a &&& c.mask := by simp [argD, hn, ha]
  have w := masked_ok (G := G) a c.mask hal hc.1
  have hk1 : (d.cs.drop (3 + n)).take 1 = [.int .u64 (a : Int)] := by
   rw [List.getElem?_eq_some_iff] at hg
   obtain ⟨hlt, hg⟩ := hg
   rw [List.drop_eq_getElem_cons hlt, hg]
   rfl
  have hk2 : (3 + n + 1 ≤ d.cs.length) = True := eq_true (by omega)
  obtain ⟨v, hv⟩ : ∃ v, a &&& c.mask = v := ⟨_, rfl⟩
  rw [hv] at w hA
  have hlt : ((v : Int) < (c.val : Int)) = (v < c.val) := by simp
  have hgt : ((c.val : Int) < (v : Int)) = (c.val < v) := by simp
  simp (disch := omega) [hn, hk1, hk2, ltT]
  refine callP_of w ?_
  have hH : c.holds d = cmpB c.cmp v c.val := by simp [Cd.holds, hx, hA]
  rw [hH]
  have hcc : c.cmp = 0 ∨ c.cmp = 1 ∨ c.cmp = 2 ∨ c.cmp = 3 ∨ c.cmp = 4 ∨ c.cmp = 5 := by omega
  by_cases l1 : v < c.val
  ·have l2 : ¬ c.val < v := by omega
   have l3 : v ≠ c.val := by omega
   rcases hcc with e | e | e | e | e | e <;> simp [e, l1, l2, l3, cmpB] <;> omega
  ·by_cases l2 : c.val < v
   ·have l3 : v ≠ c.val := by omega
    rcases hcc with e | e | e | e | e | e <;> simp [e, l1, l2, l3, cmpB] <;> omega
   ·have l3 : v = c.val := by omega
    rcases hcc with e | e | e | e | e | e <;> simp [e, l3, cmpB]
end Go.Ev
/- Code of rules, of calls, of machines: plain. -/
namespace Go.Ev
open Go Go.RowKit
set_option maxRecDepth 10000
set_option maxHeartbeats 2000000
set_option linter.unusedSimpArgs false
set_option linter.unusedVariables false
def kOK (c : List In4) : Prop := ∀ y ∈ c, y.k < 4294967296
theorem near_ks {c : List In4} {t : Nat} (hl : c.length ≤ 1000100) (hk : kOK c) : kOK (nearL c t) := by
 intro y hy
 unfold nearL at hy
 split at hy
 ·exact hk y hy
 ·rcases List.mem_cons.1 hy with rfl | hy
  ·simp only; omega
  ·exact hk y hy
theorem branch_ks {c : List In4} {op : Int} {k t f : Nat} (hl : c.length ≤ 1000050) (hkk : k < 4294967296) (hk : kOK c) : kOK (branchL c op k t f) := by
 intro y hy
 rcases List.mem_cons.1 hy with rfl | hy
 ·exact hkk
 ·exact near_ks (by have := (near_grown c t).len; omega) (near_ks (by omega) hk) y hy
theorem put_ks {c : List In4} {op : Int} {k : Nat} (hkk : k < 4294967296) (hk : kOK c) : kOK (putF c op k) := by
 intro y hy
 rcases List.mem_cons.1 hy with rfl | hy
 ·exact hkk
 ·exact hk y hy
theorem test_ks {c : List In4} {x : Cd} {t f : Nat} (hk : ∀ y ∈ c, y.k < 4294967296) (hl : c.length ≤ 1000000) (hx : x.right = true) : ∀ y ∈ testL c x t f, y.k < 4294967296 := by
 have t0 : ∀ (x : Cd) (t f : Nat), x.right = true → kOK (test0 c x t f) := by
  intro x t f hx
  have hx' := hx
  simp only [Cd.right, decide_eq_true_eq] at hx'
  have g1 := (test1_grown c x t f).len
  have g2 := (test2_grown c x t f).len
  have h1 : kOK (test1 c x t f) := put_ks (by omega) (put_ks (lo_lt _) (branch_ks (by omega) (lo_lt _) hk))
  have h2 : kOK (test2 c x t f) := by
   unfold test2
   split
   ·exact h1
   ·exact branch_ks (by omega) (hi_lt _) h1
  exact put_ks (by omega) (put_ks (hi_lt _) (branch_ks (by omega) (hi_lt _) h2))
 unfold testL
 split
 ·exact t0 _ _ _ (not_right hx)
 ·exact t0 _ _ _ hx
structure Ru where
 arch : Nat
 nr : Nat
 conds : List Cd
 act : Nat
 deriving DecidableEq
structure Po where
 rules : List Ru
 dflt : Nat
 deriving DecidableEq
def Ru.fine (r : Ru) : Prop := (∀ x ∈ r.conds, x.right = true ∧ x.ok) ∧ r.arch < 4294967296 ∧ r.nr < 4294967296 ∧ r.act < 4294967296
abbrev CLb := List In4 × Nat
def condsL (o : Nat) : List Cd → CLb → CLb
 | [], s => s
 | x :: xs, s => (testL (condsL o xs s).1 x (condsL o xs s).2 o, (testL (condsL o xs s).1 x (condsL o xs s).2 o).length)
def ruleL (r : Ru) (s : CLb) : CLb := condsL s.2 r.conds (putF s.1 6 r.act, s.1.length + 1)
def rulesL : List Ru → CLb → CLb
 | [], s => s
 | r :: l, s => ruleL r (rulesL l s)
def costR : List Ru → Nat
 | [] => 0
 | r :: l => 1 + 13 * r.conds.length + costR l
def Cd.alls (d : Da) (l : List Cd) : Bool := l.all fun x => x.holds d
def judgeR (d : Da) (v0 : Nat) : List Ru → Nat
 | [] => v0
 | r :: l => if Cd.alls d r.conds then r.act else judgeR d v0 l
structure Came (c : List In4) (s : CLb) (n : Nat) : Prop where
 grown : Grown c s.1 n
 lab : 1 ≤ s.2 ∧ s.2 ≤ s.1.length
 sound : soundF c = true → c.length + n ≤ 4096 → soundF s.1 = true
 ks : kOK c → c.length + n ≤ 4096 → kOK s.1
theorem Came.mono {c : List In4} {s : CLb} {n m : Nat} (h : Came c s n) (hm : n ≤ m) : Came c s m := ⟨h.grown.mono hm, h.lab, fun a b => h.sound a (by omega), fun a b => h.ks a (by omega)⟩
theorem Came.self {c : List In4} {l : Nat} (h : 1 ≤ l ∧ l ≤ c.length) : Came c (c, l) 0 := ⟨Grown.refl c, h, fun a _ => a, fun a _ => a⟩
theorem Came.trans {c : List In4} {s t : CLb} {n m : Nat} (h : Came c s n) (k : Came s.1 t m) : Came c t (n + m) :=
 ⟨h.grown.trans k.grown, k.lab, fun a b => k.sound (h.sound a (by omega)) (by have := h.grown.len; omega), fun a b => k.ks (h.ks a (by omega)) (by have := h.grown.len; omega)⟩
theorem putF_came {c : List In4} {op : Int} {k : Nat} (h : addOk op k) (hk : k < 4294967296) : Came c (putF c op k, c.length + 1) 1 :=
 ⟨add_grown _ _ _, by simp [putF], fun a b => add_sound h a (by omega), fun a _ => put_ks hk a⟩
theorem branch_came {c : List In4} {op : Int} {k t f : Nat} (h : brOp op) (hk : k < 4294967296) (ht : 1 ≤ t ∧ t ≤ c.length) (hf : 1 ≤ f ∧ f ≤ c.length) : Came c (branchL c op k t f, (branchL c op k t f).length) 3 :=
 ⟨branch_grown _ _ _ _ _, by have := branch_pos c op k t f; simp only; omega, fun a b => branch_sound h a ht hf (by omega), fun a b => branch_ks (by omega) hk a⟩
theorem test_came {c : List In4} {x : Cd} {t f : Nat} (hx : x.right = true) (ht : 1 ≤ t ∧ t ≤ c.length) (hf : 1 ≤ f ∧ f ≤ c.length) : Came c (testL c x t f, (testL c x t f).length) 13 :=
 ⟨test_grown _ _ _ _, by have := (test_grown c x t f).len; simp only; omega, fun a b => test_sound a hx ht hf (by omega), fun a b => test_ks a (by omega) hx⟩
theorem conds_came {o : Nat} : ∀ {l : List Cd} {s : CLb}, (∀ x ∈ l, x.right = true ∧ x.ok) → (1 ≤ o ∧ o ≤ s.1.length) → (1 ≤ s.2 ∧ s.2 ≤ s.1.length) → Came s.1 (condsL o l s) (13 * l.length)
 | [], s, _, _, h => Came.self h
 | x :: l, s, hx, ho, hs => by
  have ih := conds_came (l := l) (fun y hy => hx y (by simp [hy])) ho hs
  have gl := ih.grown.len
  exact (ih.trans (test_came (hx x (by simp)).1 ih.lab ⟨ho.1, by omega⟩)).mono (by simp only [List.length_cons]; omega)
theorem conds_ind {o : Nat} {d : Da} (hd : d.ok) {v0 v1 : Nat} : ∀ {l : List Cd} {s : CLb}, (∀ x ∈ l, x.right = true ∧ x.ok) → (1 ≤ o ∧ o ≤ s.1.length) → (1 ≤ s.2 ∧ s.2 ≤ s.1.length) → Ind d s.1 o v0 → Ind d s.1 s.2 v1 →
  Ind d (condsL o l s).1 (condsL o l s).2 (if Cd.alls d l then v1 else v0)
 | [], s, _, _, _, _, h => by simpa [condsL, Cd.alls] using h
 | x :: l, s, hx, ho, hs, h0, h1 => by
  have cm := conds_came (l := l) (fun y hy => hx y (by simp [hy])) ho hs
  have ih := conds_ind hd (l := l) (fun y hy => hx y (by simp [hy])) ho hs h0 h1
  have gl := cm.grown.len
  have := test_ind (x := x) hd (hx x (by simp)).1 (hx x (by simp)).2 cm.lab ⟨ho.1, by omega⟩ ih (h0.grown cm.grown ho.2)
  have e : Cd.alls d (x :: l) = (x.holds d && Cd.alls d l) := by simp [Cd.alls]
  rw [e]
  simp only [condsL]
  cases hh : x.holds d
  ·rw [hh] at this; simpa using this
  ·rw [hh] at this; simpa using this
theorem ret_ind (d : Da) (c : List In4) (k : Nat) : Ind d (putF c 6 k) (c.length + 1) k := by
 intro s hs
 rw [show c.length + 1 = (putF c 6 k).length from rfl, sfx_all, ret_run]
theorem rules_came : ∀ {l : List Ru} {s : CLb}, (∀ r ∈ l, r.fine) → (1 ≤ s.2 ∧ s.2 ≤ s.1.length) → Came s.1 (rulesL l s) (costR l)
 | [], s, _, h => Came.self h
 | r :: l, s, hr, hs => by
  have ih := rules_came (l := l) (fun y hy => hr y (by simp [hy])) hs
  have gl := ih.grown.len
  have p := putF_came (c := (rulesL l s).1) (op := 6) (k := r.act) (.inr (.inl rfl)) (hr r (by simp)).2.2.2
  have pl := p.grown.len
  have q := conds_came (o := (rulesL l s).2) (l := r.conds) (s := (putF (rulesL l s).1 6 r.act, (rulesL l s).1.length + 1)) (hr r (by simp)).1 ⟨ih.lab.1, by have := ih.lab.2; omega⟩ p.lab
  exact ((ih.trans p).trans q).mono (by simp only [costR]; omega)
theorem rules_ind {d : Da} (hd : d.ok) {v0 : Nat} : ∀ {l : List Ru} {s : CLb}, (∀ r ∈ l, r.fine) → (1 ≤ s.2 ∧ s.2 ≤ s.1.length) → Ind d s.1 s.2 v0 → Ind d (rulesL l s).1 (rulesL l s).2 (judgeR d v0 l)
 | [], s, _, _, h => h
 | r :: l, s, hr, hs, h => by
  have cm := rules_came (l := l) (fun y hy => hr y (by simp [hy])) hs
  have ih := rules_ind hd (l := l) (fun y hy => hr y (by simp [hy])) hs h
  have p := putF_came (c := (rulesL l s).1) (op := 6) (k := r.act) (.inr (.inl rfl)) (hr r (by simp)).2.2.2
  have pl := p.grown.len
  exact conds_ind hd (o := (rulesL l s).2) (l := r.conds) (s := (putF (rulesL l s).1 6 r.act, (rulesL l s).1.length + 1)) (hr r (by simp)).1 ⟨cm.lab.1, by have := cm.lab.2; omega⟩ p.lab (ih.grown p.grown cm.lab.2) (ret_ind d _ _)
def treeL : Nat → List In4 → List (Nat × Nat) → Nat → CLb
 | 0, c, _, _ => (c, 0)
 | n + 1, c, l, o =>
  if l.length = 1 then (branchL c 21 (l.getD 0 (0, 0)).1 (l.getD 0 (0, 0)).2 o, (branchL c 21 (l.getD 0 (0, 0)).1 (l.getD 0 (0, 0)).2 o).length)
  else
   (branchL (treeL n (treeL n c (l.take (l.length / 2)) o).1 (l.drop (l.length / 2)) o).1 53 (l.getD (l.length / 2) (0, 0)).1 (treeL n (treeL n c (l.take (l.length / 2)) o).1 (l.drop (l.length / 2)) o).2 (treeL n c (l.take (l.length / 2)) o).2,
    (branchL (treeL n (treeL n c (l.take (l.length / 2)) o).1 (l.drop (l.length / 2)) o).1 53 (l.getD (l.length / 2) (0, 0)).1 (treeL n (treeL n c (l.take (l.length / 2)) o).1 (l.drop (l.length / 2)) o).2 (treeL n c (l.take (l.length / 2)) o).2).length)
def labs (c : List In4) (l : List (Nat × Nat)) : Prop := ∀ e ∈ l, 1 ≤ e.2 ∧ e.2 ≤ c.length
theorem labs.grown {a b : List In4} {n : Nat} {l : List (Nat × Nat)} (h : labs a l) (g : Grown a b n) : labs b l := fun e he => ⟨(h e he).1, by have := g.len; have := (h e he).2; omega⟩
theorem tree_came {o : Nat} : ∀ (n : Nat) {c : List In4} {l : List (Nat × Nat)}, l ≠ [] → l.length ≤ n → labs c l → (∀ e ∈ l, e.1 < 4294967296) → (1 ≤ o ∧ o ≤ c.length) → Came c (treeL n c l o) (6 * l.length - 3)
 | 0, c, l, hne, hn, _, _, _ => absurd (List.length_eq_zero_iff.1 (by omega)) hne
 | n + 1, c, l, hne, hn, hl, hk, ho => by
  have hpos : 0 < l.length := List.length_pos_iff.2 hne
  unfold treeL
  split
  ·rename_i h1
   have hg : l.getD 0 (0, 0) ∈ l := by rw [List.getD, List.getElem?_eq_getElem (by omega)]; exact List.getElem_mem _
   exact (branch_came (.inl rfl) (hk _ hg) (hl _ hg) ho).mono (by omega)
  ·rename_i h1
   have l1 : (l.take (l.length / 2)).length = l.length / 2 := by rw [List.length_take]; omega
   have l2 : (l.drop (l.length / 2)).length = l.length - l.length / 2 := by rw [List.length_drop]
   have n1 : l.take (l.length / 2) ≠ [] := by intro e; rw [e] at l1; simp at l1; omega
   have n2 : l.drop (l.length / 2) ≠ [] := by intro e; rw [e] at l2; simp at l2; omega
   have i1 := tree_came n (c := c) (l := l.take (l.length / 2)) n1 (by omega) (fun e he => hl e (List.mem_of_mem_take he)) (fun e he => hk e (List.mem_of_mem_take he)) ho
   have g1 := i1.grown.len
   have i2 := tree_came n (c := (treeL n c (l.take (l.length / 2)) o).1) (l := l.drop (l.length / 2)) n2 (by omega) ((show labs c _ from fun e he => hl e (List.mem_of_mem_drop he)).grown i1.grown) (fun e he => hk e (List.mem_of_mem_drop he)) ⟨ho.1, by omega⟩
   have g2 := i2.grown.len
   have hg : l.getD (l.length / 2) (0, 0) ∈ l := by rw [List.getD, List.getElem?_eq_getElem (by omega)]; exact List.getElem_mem _
   have b := branch_came (c := (treeL n (treeL n c (l.take (l.length / 2)) o).1 (l.drop (l.length / 2)) o).1) (op := 53) (k := (l.getD (l.length / 2) (0, 0)).1) (.inr (.inr rfl)) (hk _ hg) i2.lab ⟨i1.lab.1, by have := i1.lab.2; omega⟩
   exact ((i1.trans i2).trans b).mono (by rw [l1, l2]; omega)
def lookN (v0 : Nat) (vs : Nat → Nat) (a : Nat) (l : List (Nat × Nat)) : Nat := if a ∈ l.map (·.1) then vs a else v0
theorem tree_dep {o : Nat} {d : Da} {a v0 : Nat} {vs : Nat → Nat} : ∀ (n : Nat) {c : List In4} {l : List (Nat × Nat)}, l ≠ [] → l.length ≤ n → labs c l → (∀ e ∈ l, e.1 < 4294967296) → (1 ≤ o ∧ o ≤ c.length) → (l.map (·.1)).Pairwise (· < ·) →
  Ind d c o v0 → (∀ e ∈ l, Ind d c e.2 (vs e.1)) → Dep d (treeL n c l o).1 (treeL n c l o).2 a (lookN v0 vs a l)
 | 0, c, l, hne, hn, _, _, _, _, _, _ => absurd (List.length_eq_zero_iff.1 (by omega)) hne
 | n + 1, c, l, hne, hn, hl, hk, ho, hp, h0, hv => by
  have hpos : 0 < l.length := List.length_pos_iff.2 hne
  unfold treeL
  split
  ·rename_i h1
   obtain ⟨e, rfl⟩ := List.length_eq_one_iff.1 h1
   have he : [e].getD 0 (0, 0) = e := rfl
   rw [he]
   intro s hs ha
   simp only
   rw [sfx_all, branch_run (.inl rfl) (hl e (by simp)) ho]
   simp only [takeN, if_true, ha, lookN, List.map_cons, List.map_nil, List.mem_singleton]
   by_cases q : a = e.1
   ·subst q; simp; exact hv e (by simp) s hs
   ·simp [q]; exact h0 s hs
  ·rename_i h1
   have l1 : (l.take (l.length / 2)).length = l.length / 2 := by rw [List.length_take]; omega
   have l2 : (l.drop (l.length / 2)).length = l.length - l.length / 2 := by rw [List.length_drop]
   have n1 : l.take (l.length / 2) ≠ [] := by intro e; rw [e] at l1; simp at l1; omega
   have n2 : l.drop (l.length / 2) ≠ [] := by intro e; rw [e] at l2; simp at l2; omega
   have lb1 : labs c (l.take (l.length / 2)) := fun e he => hl e (List.mem_of_mem_take he)
   have lb2 : labs c (l.drop (l.length / 2)) := fun e he => hl e (List.mem_of_mem_drop he)
   have k1 : ∀ e ∈ l.take (l.length / 2), e.1 < 4294967296 := fun e he => hk e (List.mem_of_mem_take he)
   have k2 : ∀ e ∈ l.drop (l.length / 2), e.1 < 4294967296 := fun e he => hk e (List.mem_of_mem_drop he)
   have c1 := tree_came n (c := c) (l := l.take (l.length / 2)) n1 (by omega) lb1 k1 ho
   have g1 := c1.grown.len
   have c2 := tree_came n (c := (treeL n c (l.take (l.length / 2)) o).1) (l := l.drop (l.length / 2)) n2 (by omega) (lb2.grown c1.grown) k2 ⟨ho.1, by omega⟩
   have g2 := c2.grown.len
   obtain ⟨k, hkq⟩ : ∃ k, k = l[l.length / 2]'(by omega) := ⟨_, rfl⟩
   have hkd : l.getD (l.length / 2) (0, 0) = k := by rw [List.getD, List.getElem?_eq_getElem (by omega), hkq]; rfl
   have hsp : l.map (·.1) = (l.take (l.length / 2)).map (·.1) ++ (l.drop (l.length / 2)).map (·.1) := by rw [← List.map_append, List.take_append_drop]
   have hdc : l.drop (l.length / 2) = k :: l.drop (l.length / 2 + 1) := by rw [List.drop_eq_getElem_cons (by omega), hkq]
   have hp' := hp
   rw [hsp, List.pairwise_append] at hp'
   obtain ⟨p1, p2, p3⟩ := hp'
   have i1 := tree_dep (a := a) n (c := c) (l := l.take (l.length / 2)) n1 (by omega) lb1 k1 ho p1 h0 (fun e he => hv e (List.mem_of_mem_take he))
   have i2 := tree_dep (a := a) n (c := (treeL n c (l.take (l.length / 2)) o).1) (l := l.drop (l.length / 2)) n2 (by omega) (lb2.grown c1.grown) k2 ⟨ho.1, by omega⟩ p2 (h0.grown c1.grown ho.2)
    (fun e he => (hv e (List.mem_of_mem_drop he)).grown c1.grown (lb2 e he).2)
   have i1' := i1.grown c2.grown c1.lab.2
   rw [hkd]
   intro s hs ha
   simp only
   rw [sfx_all, branch_run (.inr (.inr rfl)) c2.lab ⟨c1.lab.1, by have := c1.lab.2; omega⟩]
   simp only [takeN, show ((53 : Int) = 21) = False by simp, show ((53 : Int) = 37) = False by simp, if_false, ha]
   have hkm : k.1 ∈ (l.drop (l.length / 2)).map (·.1) := by rw [hdc]; simp
   by_cases q : k.1 ≤ a
   ·simp only [q, decide_true, if_true]
    rw [i2 s hs ha]
    have hna : a ∉ (l.take (l.length / 2)).map (·.1) := fun hm => by have := p3 a hm k.1 hkm; omega
    unfold lookN
    rw [hsp]
    simp only [List.mem_append, hna, false_or]
   ·simp only [q, decide_false, Bool.false_eq_true, if_false]
    rw [i1' s hs ha]
    have hna : a ∉ (l.drop (l.length / 2)).map (·.1) := fun hm => by
     rw [hdc, List.map_cons, List.pairwise_cons] at p2
     rw [hdc, List.map_cons] at hm
     rcases List.mem_cons.1 hm with e | hm
     ·omega
     ·have := p2.1 a hm; omega
    unfold lookN
    rw [hsp]
    simp only [List.mem_append, hna, or_false]
end Go.Ev
/- A policy's code: plain. -/
namespace Go.Ev
open Go Go.RowKit
set_option maxRecDepth 10000
set_option maxHeartbeats 2000000
set_option linter.unusedSimpArgs false
set_option linter.unusedVariables false
def addNew (l : List Nat) (a : Nat) : List Nat := if a ∈ l then l else l ++ [a]
def firsts (l : List Nat) : List Nat := l.foldl addNew []
theorem firsts_snoc (l : List Nat) (a : Nat) : firsts (l ++ [a]) = addNew (firsts l) a := by simp [firsts, List.foldl_append]
theorem foldNew_mem (a : Nat) : ∀ (l acc : List Nat), a ∈ l.foldl addNew acc ↔ a ∈ acc ∨ a ∈ l
 | [], acc => by simp
 | b :: l, acc => by
  rw [List.foldl_cons, foldNew_mem a l]
  unfold addNew
  split
  ·rename_i h
   rw [List.mem_cons]
   constructor
   ·rintro (h1 | h1)
    ·exact .inl h1
    ·exact .inr (.inr h1)
   ·rintro (h1 | rfl | h1)
    ·exact .inl h1
    ·exact .inl h
    ·exact .inr h1
  ·simp [or_assoc]
theorem firsts_mem (l : List Nat) (a : Nat) : a ∈ firsts l ↔ a ∈ l := by rw [firsts, foldNew_mem]; simp
theorem foldNew_nodup : ∀ (l acc : List Nat), acc.Nodup → (l.foldl addNew acc).Nodup
 | [], acc, h => h
 | b :: l, acc, h => by
  rw [List.foldl_cons]
  refine foldNew_nodup l _ ?_
  unfold addNew
  split
  ·exact h
  ·rename_i hn
   rw [List.nodup_append]
   exact ⟨h, by simp, fun x hx y hy e => hn (by rw [List.mem_singleton] at hy; rw [← hy, ← e]; exact hx)⟩
theorem firsts_nodup (l : List Nat) : (firsts l).Nodup := foldNew_nodup l [] (by simp)
theorem foldNew_len : ∀ (l acc : List Nat), (l.foldl addNew acc).length ≤ acc.length + l.length
 | [], acc => by simp
 | b :: l, acc => by
  rw [List.foldl_cons]
  have := foldNew_len l (addNew acc b)
  have h2 : (addNew acc b).length ≤ acc.length + 1 := by unfold addNew; split <;> simp
  simp only [List.length_cons]; omega
def insS (x : Nat) (l : List Nat) : List Nat := l.takeWhile (fun y => decide (y ≤ x)) ++ x :: l.dropWhile (fun y => decide (y ≤ x))
def sortS (l : List Nat) : List Nat := l.foldl (fun out x => insS x out) []
theorem insS_perm (x : Nat) (l : List Nat) : (insS x l).Perm (x :: l) := by
 unfold insS
 refine List.perm_middle.trans ?_
 rw [List.takeWhile_append_dropWhile]
theorem foldS_perm : ∀ (l out : List Nat), (l.foldl (fun out x => insS x out) out).Perm (out ++ l)
 | [], out => by simp
 | x :: l, out => by
  rw [List.foldl_cons]
  refine (foldS_perm l _).trans ?_
  refine ((insS_perm x out).append_right l).trans ?_
  rw [List.cons_append]
  exact List.perm_middle.symm
theorem sortS_perm (l : List Nat) : (sortS l).Perm l := by have := foldS_perm l []; simpa [sortS] using this
theorem drop_gt (x : Nat) : ∀ {l : List Nat}, l.Pairwise (· ≤ ·) → ∀ y ∈ l.dropWhile (fun y => decide (y ≤ x)), x ≤ y
 | [], _, y, hy => by simp at hy
 | b :: l, h, y, hy => by
  rw [List.dropWhile_cons] at hy
  split at hy
  ·exact drop_gt x (List.pairwise_cons.1 h).2 y hy
  ·rename_i hb
   simp only [decide_eq_true_eq] at hb
   rcases List.mem_cons.1 hy with rfl | hy
   ·omega
   ·have := (List.pairwise_cons.1 h).1 y hy; omega
theorem take_le (x : Nat) : ∀ {l : List Nat}, ∀ y ∈ l.takeWhile (fun y => decide (y ≤ x)), y ≤ x
 | [], y, hy => by simp at hy
 | b :: l, y, hy => by
  rw [List.takeWhile_cons] at hy
  split at hy
  ·rename_i hb
   simp only [decide_eq_true_eq] at hb
   rcases List.mem_cons.1 hy with rfl | hy
   ·exact hb
   ·exact take_le x y hy
  ·simp at hy
theorem insS_sorted (x : Nat) {l : List Nat} (h : l.Pairwise (· ≤ ·)) : (insS x l).Pairwise (· ≤ ·) := by
 have h' := h
 rw [← List.takeWhile_append_dropWhile (p := fun y => decide (y ≤ x)) (l := l), List.pairwise_append] at h'
 obtain ⟨h1, h2, h3⟩ := h'
 unfold insS
 rw [List.pairwise_append, List.pairwise_cons]
 refine ⟨h1, ⟨drop_gt x h, h2⟩, fun a ha b hb => ?_⟩
 rcases List.mem_cons.1 hb with rfl | hb
 ·exact take_le _ a ha
 ·exact h3 a ha b hb
theorem foldS_sorted : ∀ (l out : List Nat), out.Pairwise (· ≤ ·) → (l.foldl (fun out x => insS x out) out).Pairwise (· ≤ ·)
 | [], out, h => h
 | x :: l, out, h => foldS_sorted l _ (insS_sorted x h)
theorem sortS_strict {l : List Nat} (h : l.Nodup) : (sortS l).Pairwise (· < ·) := by
 have h1 := foldS_sorted l [] List.Pairwise.nil
 have h2 : (sortS l).Nodup := (sortS_perm l).nodup_iff.2 h
 refine List.Pairwise.imp₂ ?_ h1 h2
 intro a b h3 h4
 exact Nat.lt_of_le_of_ne h3 h4
def nrsOf (rs : List Ru) (a : Nat) : List Nat := firsts ((rs.filter fun r => decide (r.arch = a)).map (·.nr))
def archsOf (rs : List Ru) : List Nat := firsts (rs.map (·.arch))
def rulesAt (rs : List Ru) (a n : Nat) : List Ru := rs.filter fun r => decide (r.arch = a ∧ r.nr = n)
def entsL (R : Nat → List Ru) (o : Nat) : List Nat → List In4 → List In4 × List (Nat × Nat)
 | [], c => (c, [])
 | n :: l, c => ((entsL R o l (rulesL (R n) (c, o)).1).1, (n, (rulesL (R n) (c, o)).2) :: (entsL R o l (rulesL (R n) (c, o)).1).2)
def archC (rs : List Ru) (o a : Nat) (c : List In4) : List In4 :=
 putF (treeL (entsL (rulesAt rs a) o (sortS (nrsOf rs a)) c).2.length (entsL (rulesAt rs a) o (sortS (nrsOf rs a)) c).1 (entsL (rulesAt rs a) o (sortS (nrsOf rs a)) c).2 o).1 32 0
def rootsL (rs : List Ru) (o : Nat) : List Nat → List In4 → List In4 × List (Nat × Nat)
 | [], c => (c, [])
 | a :: l, c => ((rootsL rs o l (archC rs o a c)).1, (a, (archC rs o a c).length) :: (rootsL rs o l (archC rs o a c)).2)
def chainL : List (Nat × Nat) → CLb → CLb
 | [], s => s
 | x :: l, s => chainL l (branchL s.1 21 x.1 x.2 s.2, (branchL s.1 21 x.1 x.2 s.2).length)
def lowerL (p : Po) : List In4 :=
 if (rootsL p.rules 1 (archsOf p.rules) (putF [] 6 p.dflt)).2 = [] then (chainL (rootsL p.rules 1 (archsOf p.rules) (putF [] 6 p.dflt)).2 ((rootsL p.rules 1 (archsOf p.rules) (putF [] 6 p.dflt)).1, 1)).1
 else putF (chainL (rootsL p.rules 1 (archsOf p.rules) (putF [] 6 p.dflt)).2 ((rootsL p.rules 1 (archsOf p.rules) (putF [] 6 p.dflt)).1, 1)).1 32 4
def wsum (w : Ru → Nat) : List Ru → Nat
 | [] => 0
 | r :: l => w r + wsum w l
def costW (r : Ru) : Nat := 1 + 13 * r.conds.length
theorem costR_w : ∀ l : List Ru, costR l = wsum costW l
 | [] => rfl
 | r :: l => by rw [costR, wsum, costR_w l, costW]
def sumF {α : Type} (g : α → Nat) : List α → Nat
 | [] => 0
 | x :: l => g x + sumF g l
theorem sumF_one (g : Nat → Nat) (k c : Nat) : ∀ {l : List Nat}, l.Nodup → sumF (fun n => (if k = n then c else 0) + g n) l ≤ c + sumF g l
 | [], _ => by simp [sumF]
 | x :: l, h => by
  rw [List.nodup_cons] at h
  simp only [sumF]
  by_cases e : k = x
  ·subst e
   have hz : ∀ {l : List Nat}, k ∉ l → sumF (fun n => (if k = n then c else 0) + g n) l = sumF g l := by
    intro l
    induction l with
    | nil => intro _; rfl
    | cons y l ih =>
     intro hn
     simp only [List.mem_cons, not_or] at hn
     simp only [sumF, if_neg hn.1, ih hn.2, Nat.zero_add]
   rw [hz h.1, if_pos rfl]; omega
  ·have ih := sumF_one g k c h.2
   rw [if_neg e]; omega
theorem sumF_le {α : Type} {f g : α → Nat} : ∀ {l : List α}, (∀ x ∈ l, f x ≤ g x) → sumF f l ≤ sumF g l
 | [], _ => Nat.le_refl _
 | x :: l, h => by
  have := sumF_le (l := l) fun y hy => h y (by simp [hy])
  have := h x (by simp)
  simp only [sumF]; omega
theorem sumF_congr {α : Type} {f g : α → Nat} : ∀ {l : List α}, (∀ x ∈ l, f x = g x) → sumF f l = sumF g l
 | [], _ => rfl
 | x :: l, h => by simp only [sumF, h x (by simp), sumF_congr (l := l) fun y hy => h y (by simp [hy])]
theorem parts_le (w : Ru → Nat) (key : Ru → Nat) {l : List Nat} (hl : l.Nodup) : ∀ rs : List Ru, sumF (fun n => wsum w (rs.filter fun r => decide (key r = n))) l ≤ wsum w rs
 | [] => by
  have : ∀ l : List Nat, sumF (fun n => wsum w ([].filter fun r => decide (key r = n))) l = 0 := by
   intro l; induction l with
   | nil => rfl
   | cons x l ih => simp only [sumF, ih]; rfl
  rw [this]; exact Nat.zero_le _
 | r :: rs => by
  have ih := parts_le w key hl rs
  have e : ∀ n, wsum w ((r :: rs).filter fun r => decide (key r = n)) = (if key r = n then w r else 0) + wsum w (rs.filter fun r => decide (key r = n)) := by
   intro n
   rw [List.filter_cons]
   by_cases h : key r = n <;> simp [h, wsum]
  rw [sumF_congr fun n _ => e n]
  have := sumF_one (fun n => wsum w (rs.filter fun r => decide (key r = n))) (key r) (w r) hl
  simp only [wsum]; omega
theorem rulesAt_eq (rs : List Ru) (a n : Nat) : rulesAt rs a n = (rs.filter fun r => decide (r.arch = a)).filter fun r => decide (r.nr = n) := by
 rw [List.filter_filter]
 unfold rulesAt
 congr 1
 funext r
 rw [Bool.eq_iff_iff]; simp [and_comm]
theorem nrsOf_len (rs : List Ru) (a : Nat) : (nrsOf rs a).length ≤ wsum (fun _ => 1) (rs.filter fun r => decide (r.arch = a)) := by
 have h : ∀ l : List Ru, wsum (fun _ => 1) l = l.length := by
  intro l; induction l with
  | nil => rfl
  | cons x l ih => simp only [wsum, ih, List.length_cons]; omega
 rw [h]
 have := foldNew_len ((rs.filter fun r => decide (r.arch = a)).map (·.nr)) []
 simpa [nrsOf, firsts] using this
section
variable {rs : List Ru} {o : Nat}
def costE (R : Nat → List Ru) (l : List Nat) : Nat := sumF (fun n => costR (R n)) l
theorem ents_came {R : Nat → List Ru} : ∀ {l : List Nat} {c : List In4}, (∀ n ∈ l, ∀ r ∈ R n, r.fine) → (1 ≤ o ∧ o ≤ c.length) → Came c ((entsL R o l c).1, o) (costE R l) ∧ labs (entsL R o l c).1 (entsL R o l c).2 ∧ (entsL R o l c).2.map (·.1) = l
 | [], c, _, h => ⟨Came.self h, by intro e he; simp [entsL] at he, rfl⟩
 | n :: l, c, hr, ho => by
  have c1 := rules_came (l := R n) (s := (c, o)) (hr n (by simp)) ho
  have g1 := c1.grown.len
  obtain ⟨i1, i2, i3⟩ := ents_came (l := l) (c := (rulesL (R n) (c, o)).1) (fun m hm => hr m (by simp [hm])) ⟨ho.1, by have := ho.2; simp only at g1; omega⟩
  have g2 := i1.grown.len
  refine ⟨⟨(c1.grown.trans i1.grown).mono (by simp [costE, sumF]), i1.lab, fun a b => i1.sound (c1.sound a (by simp only [costE, sumF] at b; simp only; omega)) (by simp only [costE, sumF] at b ⊢; simp only at g1; omega),
   fun a b => i1.ks (c1.ks a (by simp only [costE, sumF] at b; simp only; omega)) (by simp only [costE, sumF] at b ⊢; simp only at g1; omega)⟩, ?_, by simp only [entsL, List.map_cons, i3]⟩
  intro e he
  simp only [entsL, List.mem_cons] at he ⊢
  rcases he with rfl | he
  ·exact ⟨c1.lab.1, by have := c1.lab.2; simp only at g2 ⊢; omega⟩
  ·exact i2 e he
theorem ents_ind {R : Nat → List Ru} {d : Da} (hd : d.ok) {v0 : Nat} : ∀ {l : List Nat} {c : List In4}, (∀ n ∈ l, ∀ r ∈ R n, r.fine) → (1 ≤ o ∧ o ≤ c.length) → Ind d c o v0 → ∀ e ∈ (entsL R o l c).2, Ind d (entsL R o l c).1 e.2 (judgeR d v0 (R e.1))
 | [], c, _, _, _, e, he => by simp [entsL] at he
 | n :: l, c, hr, ho, h0, e, he => by
  have c1 := rules_came (l := R n) (s := (c, o)) (hr n (by simp)) ho
  have g1 := c1.grown.len
  have ho1 : 1 ≤ o ∧ o ≤ (rulesL (R n) (c, o)).1.length := ⟨ho.1, by have := ho.2; simp only at g1; omega⟩
  obtain ⟨i1, i2, i3⟩ := ents_came (R := R) (l := l) (c := (rulesL (R n) (c, o)).1) (fun m hm => hr m (by simp [hm])) ho1
  have ih := ents_ind hd (R := R) (l := l) (c := (rulesL (R n) (c, o)).1) (fun m hm => hr m (by simp [hm])) ho1 (h0.grown c1.grown ho.2)
  simp only [entsL, List.mem_cons] at he ⊢
  rcases he with rfl | he
  ·exact (rules_ind hd (l := R n) (s := (c, o)) (hr n (by simp)) ho h0).grown i1.grown c1.lab.2
  ·exact ih e he
theorem ents_len {R : Nat → List Ru} {l : List Nat} {c : List In4} (h : (entsL R o l c).2.map (·.1) = l) : (entsL R o l c).2.length = l.length := by rw [← List.length_map (f := (·.1)), h]
def costA (rs : List Ru) (a : Nat) : Nat := costE (rulesAt rs a) (sortS (nrsOf rs a)) + 6 * (nrsOf rs a).length
theorem sortS_mem {l : List Nat} {x : Nat} : x ∈ sortS l ↔ x ∈ l := (sortS_perm l).mem_iff
theorem nrs_ne {a : Nat} (h : a ∈ archsOf rs) : nrsOf rs a ≠ [] := by
 rw [archsOf, firsts_mem, List.mem_map] at h
 obtain ⟨r, hr, rfl⟩ := h
 intro e
 have : r.nr ∈ nrsOf rs r.arch := by
  rw [nrsOf, firsts_mem, List.mem_map]
  exact ⟨r, List.mem_filter.2 ⟨hr, by simp⟩, rfl⟩
 rw [e] at this; simp at this
theorem nrs_fine (hf : ∀ r ∈ rs, r.fine) {a n : Nat} (h : n ∈ nrsOf rs a) : n < 4294967296 := by
 rw [nrsOf, firsts_mem, List.mem_map] at h
 obtain ⟨r, hr, rfl⟩ := h
 exact (hf r (List.mem_filter.1 hr).1).2.2.1
theorem at_fine (hf : ∀ r ∈ rs, r.fine) {a n : Nat} : ∀ r ∈ rulesAt rs a n, r.fine := fun r hr => hf r (List.mem_filter.1 hr).1
theorem arch_came (hf : ∀ r ∈ rs, r.fine) {a : Nat} (ha : a ∈ archsOf rs) {c : List In4} (ho : 1 ≤ o ∧ o ≤ c.length) : Came c (archC rs o a c, (archC rs o a c).length) (costA rs a) := by
 obtain ⟨i1, i2, i3⟩ := ents_came (R := rulesAt rs a) (l := sortS (nrsOf rs a)) (c := c) (fun _ _ => at_fine hf) ho
 have hne : (entsL (rulesAt rs a) o (sortS (nrsOf rs a)) c).2 ≠ [] := by
  intro e
  rw [e] at i3
  have h0 := (sortS_perm (nrsOf rs a)).length_eq
  rw [← i3] at h0
  exact nrs_ne ha (List.length_eq_zero_iff.1 (by simpa using h0.symm))
 have hl := ents_len i3
 rw [(sortS_perm _).length_eq] at hl
 have hp : 0 < (nrsOf rs a).length := List.length_pos_iff.2 (nrs_ne ha)
 have t := tree_came (o := o) _ hne (Nat.le_refl _) i2 (fun e he => nrs_fine hf (a := a) (sortS_mem.1 (by rw [← i3]; exact List.mem_map.2 ⟨e, he, rfl⟩))) i1.lab
 have p := putF_came (c := (treeL (entsL (rulesAt rs a) o (sortS (nrsOf rs a)) c).2.length (entsL (rulesAt rs a) o (sortS (nrsOf rs a)) c).1 (entsL (rulesAt rs a) o (sortS (nrsOf rs a)) c).2 o).1) (op := 32) (k := 0) (.inr (.inr ⟨rfl, by decide, by decide⟩)) (by decide)
 exact ((i1.trans t).trans p).mono (by unfold costA; omega)
theorem tree_lab (n : Nat) (c : List In4) (l : List (Nat × Nat)) : (treeL (n + 1) c l o).2 = (treeL (n + 1) c l o).1.length := by
 unfold treeL
 split <;> rfl
theorem word0 (d : Da) : (wordS d 0).1 = d.nr ∧ (wordS d 4).1 = d.arch := by
 constructor <;> simp [wordS, wordsD]
theorem at_none {a n : Nat} (h : n ∉ nrsOf rs a) : rulesAt rs a n = [] := by
 rw [rulesAt, List.filter_eq_nil_iff]
 intro r hr hq
 simp only [decide_eq_true_eq] at hq
 refine h ?_
 rw [nrsOf, firsts_mem, List.mem_map]
 exact ⟨r, List.mem_filter.2 ⟨hr, by simp [hq.1]⟩, hq.2⟩
theorem arch_ind (hf : ∀ r ∈ rs, r.fine) {a : Nat} (ha : a ∈ archsOf rs) {c : List In4} (ho : 1 ≤ o ∧ o ≤ c.length) {d : Da} (hd : d.ok) {v0 : Nat} (h0 : Ind d c o v0) : Ind d (archC rs o a c) (archC rs o a c).length (judgeR d v0 (rulesAt rs a d.nr)) := by
 obtain ⟨i1, i2, i3⟩ := ents_came (R := rulesAt rs a) (l := sortS (nrsOf rs a)) (c := c) (fun _ _ => at_fine hf) ho
 have ie := ents_ind hd (R := rulesAt rs a) (l := sortS (nrsOf rs a)) (c := c) (fun _ _ => at_fine hf) ho h0
 have hne : (entsL (rulesAt rs a) o (sortS (nrsOf rs a)) c).2 ≠ [] := by
  intro e
  rw [e] at i3
  have h0 := (sortS_perm (nrsOf rs a)).length_eq
  rw [← i3] at h0
  exact nrs_ne ha (List.length_eq_zero_iff.1 (by simpa using h0.symm))
 have t := tree_dep (o := o) (a := d.nr) (v0 := v0) (vs := fun n => judgeR d v0 (rulesAt rs a n)) _ hne (Nat.le_refl _) i2 (fun e he => nrs_fine hf (a := a) (sortS_mem.1 (by rw [← i3]; exact List.mem_map.2 ⟨e, he, rfl⟩))) i1.lab
  (by rw [i3]; exact sortS_strict (firsts_nodup _)) (h0.grown i1.grown ho.2) ie
 have tc := tree_came (o := o) _ hne (Nat.le_refl _) i2 (fun e he => nrs_fine hf (a := a) (sortS_mem.1 (by rw [← i3]; exact List.mem_map.2 ⟨e, he, rfl⟩))) i1.lab
 have hlab : (treeL (entsL (rulesAt rs a) o (sortS (nrsOf rs a)) c).2.length (entsL (rulesAt rs a) o (sortS (nrsOf rs a)) c).1 (entsL (rulesAt rs a) o (sortS (nrsOf rs a)) c).2 o).2 = (treeL (entsL (rulesAt rs a) o (sortS (nrsOf rs a)) c).2.length (entsL (rulesAt rs a) o (sortS (nrsOf rs a)) c).1 (entsL (rulesAt rs a) o (sortS (nrsOf rs a)) c).2 o).1.length := by
  obtain ⟨m, hm⟩ : ∃ m, (entsL (rulesAt rs a) o (sortS (nrsOf rs a)) c).2.length = m + 1 := ⟨_, (Nat.succ_pred_eq_of_pos (List.length_pos_iff.2 hne)).symm⟩
  rw [hm]; exact tree_lab _ _ _
 have hv : lookN v0 (fun n => judgeR d v0 (rulesAt rs a n)) d.nr (entsL (rulesAt rs a) o (sortS (nrsOf rs a)) c).2 = judgeR d v0 (rulesAt rs a d.nr) := by
  unfold lookN
  rw [i3]
  split
  ·rfl
  ·rename_i h
   rw [at_none (fun hm => h (sortS_mem.2 hm))]; rfl
 intro s hs
 rw [sfx_all, archC, ld_run, (word0 d).1]
 have := t { s with a := d.nr } (St.ok_a hs hd.1) rfl
 rw [hlab, sfx_all, hv] at this
 exact this
def costRt (rs : List Ru) (l : List Nat) : Nat := sumF (costA rs) l
theorem roots_came (hf : ∀ r ∈ rs, r.fine) : ∀ {l : List Nat} {c : List In4}, (∀ a ∈ l, a ∈ archsOf rs) → (1 ≤ o ∧ o ≤ c.length) → Came c ((rootsL rs o l c).1, o) (costRt rs l) ∧ labs (rootsL rs o l c).1 (rootsL rs o l c).2 ∧ (rootsL rs o l c).2.map (·.1) = l
 | [], c, _, h => ⟨Came.self h, by intro e he; simp [rootsL] at he, rfl⟩
 | a :: l, c, hl, ho => by
  have c1 := arch_came hf (hl a (by simp)) ho
  have g1 := c1.grown.len
  obtain ⟨i1, i2, i3⟩ := roots_came hf (l := l) (c := archC rs o a c) (fun m hm => hl m (by simp [hm])) ⟨ho.1, by have := ho.2; simp only at g1; omega⟩
  have g2 := i1.grown.len
  refine ⟨⟨(c1.grown.trans i1.grown).mono (by simp [costRt, sumF]), i1.lab, fun a b => i1.sound (c1.sound a (by simp only [costRt, sumF] at b; omega)) (by simp only [costRt, sumF] at b ⊢; simp only at g1; omega),
   fun a b => i1.ks (c1.ks a (by simp only [costRt, sumF] at b; omega)) (by simp only [costRt, sumF] at b ⊢; simp only at g1; omega)⟩, ?_, by simp only [rootsL, List.map_cons, i3]⟩
  intro e he
  simp only [rootsL, List.mem_cons] at he ⊢
  rcases he with rfl | he
  ·exact ⟨c1.lab.1, by have := c1.lab.2; simp only at g2 ⊢; omega⟩
  ·exact i2 e he
theorem roots_ind (hf : ∀ r ∈ rs, r.fine) {d : Da} (hd : d.ok) {v0 : Nat} : ∀ {l : List Nat} {c : List In4}, (∀ a ∈ l, a ∈ archsOf rs) → (1 ≤ o ∧ o ≤ c.length) → Ind d c o v0 → ∀ e ∈ (rootsL rs o l c).2, Ind d (rootsL rs o l c).1 e.2 (judgeR d v0 (rulesAt rs e.1 d.nr))
 | [], c, _, _, _, e, he => by simp [rootsL] at he
 | a :: l, c, hl, ho, h0, e, he => by
  have c1 := arch_came hf (hl a (by simp)) ho
  have g1 := c1.grown.len
  have ho1 : 1 ≤ o ∧ o ≤ (archC rs o a c).length := ⟨ho.1, by have := ho.2; simp only at g1; omega⟩
  obtain ⟨i1, i2, i3⟩ := roots_came hf (l := l) (c := archC rs o a c) (fun m hm => hl m (by simp [hm])) ho1
  have ih := roots_ind hf hd (l := l) (c := archC rs o a c) (fun m hm => hl m (by simp [hm])) ho1 (h0.grown c1.grown ho.2)
  simp only [rootsL, List.mem_cons] at he ⊢
  rcases he with rfl | he
  ·exact (arch_ind hf (hl a (by simp)) ho hd h0).grown i1.grown c1.lab.2
  ·exact ih e he
theorem chain_came : ∀ {l : List (Nat × Nat)} {s : CLb}, labs s.1 l → (∀ e ∈ l, e.1 < 4294967296) → (1 ≤ s.2 ∧ s.2 ≤ s.1.length) → Came s.1 (chainL l s) (3 * l.length)
 | [], s, _, _, h => Came.self h
 | x :: l, s, hl, hk, hs => by
  have b := branch_came (c := s.1) (op := 21) (k := x.1) (.inl rfl) (hk x (by simp)) (hl x (by simp)) hs
  have ih := chain_came (l := l) (s := (branchL s.1 21 x.1 x.2 s.2, (branchL s.1 21 x.1 x.2 s.2).length)) ((show labs s.1 l from fun e he => hl e (by simp [he])).grown b.grown) (fun e he => hk e (by simp [he])) b.lab
  exact (b.trans ih).mono (by simp only [List.length_cons]; omega)
theorem chain_dep {d : Da} {a : Nat} {vs : Nat → Nat} : ∀ {l : List (Nat × Nat)} {s : CLb} {v0 : Nat}, labs s.1 l → (∀ e ∈ l, e.1 < 4294967296) → (1 ≤ s.2 ∧ s.2 ≤ s.1.length) → Dep d s.1 s.2 a v0 → (∀ e ∈ l, Ind d s.1 e.2 (vs e.1)) → Dep d (chainL l s).1 (chainL l s).2 a (lookN v0 vs a l)
 | [], s, v0, _, _, _, h, _ => by simpa [chainL, lookN] using h
 | x :: l, s, v0, hl, hk, hs, h0, hv => by
  have b := branch_came (c := s.1) (op := 21) (k := x.1) (.inl rfl) (hk x (by simp)) (hl x (by simp)) hs
  have hd : Dep d (branchL s.1 21 x.1 x.2 s.2) (branchL s.1 21 x.1 x.2 s.2).length a (if a = x.1 then vs x.1 else v0) := by
   intro t ht ha
   rw [sfx_all, branch_run (.inl rfl) (hl x (by simp)) hs]
   simp only [takeN, if_true, ha]
   by_cases q : a = x.1
   ·simp [q]; exact hv x (by simp) t ht
   ·simp [q]; exact h0 t ht ha
  have lb := (show labs s.1 l from fun e he => hl e (by simp [he]))
  have ih := chain_dep (vs := vs) (l := l) (s := (branchL s.1 21 x.1 x.2 s.2, (branchL s.1 21 x.1 x.2 s.2).length)) (lb.grown b.grown) (fun e he => hk e (by simp [he])) b.lab hd (fun e he => (hv e (by simp [he])).grown b.grown (lb e he).2)
  have e : lookN v0 vs a (x :: l) = lookN (if a = x.1 then vs x.1 else v0) vs a l := by
   unfold lookN
   simp only [List.map_cons, List.mem_cons]
   by_cases q : a = x.1
   ·subst q; simp
   ·by_cases m : a ∈ l.map (·.1)
    ·rw [if_pos (.inr m), if_pos m]
    ·rw [if_neg (fun h => h.elim q m), if_neg m, if_neg q]
  rw [e]
  exact ih
end
def Po.fine (p : Po) : Prop := (∀ r ∈ p.rules, r.fine) ∧ p.dflt < 4294967296
def lowCost (p : Po) : Nat := costRt p.rules (archsOf p.rules) + 3 * (archsOf p.rules).length + 1
def judgeP (d : Da) (p : Po) : Nat := judgeR d p.dflt (rulesAt p.rules d.arch d.nr)
theorem wsum_le {w v : Ru → Nat} : ∀ {l : List Ru}, (∀ r ∈ l, w r ≤ v r) → wsum w l ≤ wsum v l
 | [], _ => Nat.le_refl _
 | r :: l, h => by
  have := wsum_le (l := l) fun y hy => h y (by simp [hy])
  have := h r (by simp)
  simp only [wsum]; omega
theorem wsum_add (w v : Ru → Nat) : ∀ l : List Ru, wsum (fun r => w r + v r) l = wsum w l + wsum v l
 | [] => rfl
 | r :: l => by simp only [wsum, wsum_add w v l]; omega
theorem wsum_const (k : Nat) : ∀ l : List Ru, wsum (fun _ => k) l = k * l.length
 | [] => rfl
 | r :: l => by simp only [wsum, wsum_const k l, List.length_cons, Nat.mul_add]; omega
theorem costA_le (rs : List Ru) (a : Nat) : costA rs a ≤ wsum (fun r => costW r + 6) (rs.filter fun r => decide (r.arch = a)) := by
 have h1 := parts_le costW (·.nr) (l := sortS (nrsOf rs a)) ((sortS_perm _).nodup_iff.2 (firsts_nodup _)) (rs.filter fun r => decide (r.arch = a))
 have h2 := nrsOf_len rs a
 rw [wsum_const] at h2
 rw [wsum_add, wsum_const]
 have e : costE (rulesAt rs a) (sortS (nrsOf rs a)) = sumF (fun n => wsum costW ((rs.filter fun r => decide (r.arch = a)).filter fun r => decide (r.nr = n))) (sortS (nrsOf rs a)) :=
  sumF_congr fun n _ => by rw [costR_w, rulesAt_eq]
 unfold costA
 rw [e]
 omega
theorem archs_len (rs : List Ru) : (archsOf rs).length ≤ rs.length := by
 have := foldNew_len (rs.map (·.arch)) []
 simpa [archsOf, firsts] using this
theorem lowCost_le {p : Po} (hl : p.rules.length ≤ 64) (hc : ∀ r ∈ p.rules, r.conds.length ≤ 4) : lowCost p ≤ 4095 := by
 have h1 := sumF_le (l := archsOf p.rules) fun a _ => costA_le p.rules a
 have h2 := parts_le (fun r => costW r + 6) (·.arch) (l := archsOf p.rules) (firsts_nodup _) p.rules
 have h3 := wsum_le (w := fun r => costW r + 6) (v := fun _ => 59) (l := p.rules) fun r hr => by have := hc r hr; simp only [costW]; omega
 rw [wsum_const] at h3
 have h4 := archs_len p.rules
 unfold lowCost costRt
 omega
def fitsB (d : Da) (r : Ru) : Bool := Cd.alls d r.conds && decide (r.arch = d.arch) && decide (r.nr = d.nr)
theorem judge_find (d : Da) (v0 : Nat) : ∀ rs : List Ru, judgeR d v0 (rulesAt rs d.arch d.nr) = ((rs.find? (fitsB d)).map (·.act)).getD v0
 | [] => rfl
 | r :: rs => by
  have ih := judge_find d v0 rs
  unfold rulesAt at ih ⊢
  rw [List.filter_cons, List.find?_cons]
  by_cases h : r.arch = d.arch ∧ r.nr = d.nr
  ·rw [if_pos (by simpa using h)]
   cases ha : Cd.alls d r.conds
   ·have hf : fitsB d r = false := by simp [fitsB, ha]
    simp only [judgeR, ha, hf]; simpa using ih
   ·have hf : fitsB d r = true := by simp [fitsB, ha, h]
    simp [judgeR, ha, hf]
  ·rw [if_neg (by simpa using h)]
   have hf : fitsB d r = false := by
    cases hb : fitsB d r with
    | false => rfl
    | true => simp only [fitsB, Bool.and_eq_true, decide_eq_true_eq] at hb; exact absurd ⟨hb.1.2, hb.2⟩ h
   rw [hf]; exact ih
theorem ret_sound (k : Nat) : soundF (putF [] 6 k) = true := by
 have hs : (shapeOf 6).map (fun r => (r.2.2.1, r.2.2.2)) = some (true, false) := by decide
 rw [Option.map_eq_some_iff] at hs
 obtain ⟨r, k5, k6⟩ := hs
 simp only [Prod.mk.injEq] at k6
 simp [soundF, putF, okAll, oneB, rightI, ruleB, endB, k5, k6.1, k6.2, isBr, isEnd]
 done
theorem chain_lab : ∀ {l : List (Nat × Nat)} {s : CLb}, l ≠ [] → (chainL l s).2 = (chainL l s).1.length
 | [], _, h => absurd rfl h
 | [x], s, _ => rfl
 | x :: y :: l, s, _ => chain_lab (l := y :: l) (by simp)
theorem lower_came {p : Po} (hf : p.fine) : Grown (putF [] 6 p.dflt) (lowerL p) (lowCost p) ∧ (lowCost p ≤ 4095 → soundF (lowerL p) = true ∧ kOK (lowerL p)) ∧ ∀ d : Da, d.ok → Ind d (lowerL p) (lowerL p).length (judgeP d p) := by
 obtain ⟨c1, c2, c3⟩ := roots_came (rs := p.rules) (o := 1) hf.1 (l := archsOf p.rules) (c := putF [] 6 p.dflt) (fun _ h => h) ⟨Nat.le_refl _, Nat.le_refl _⟩
 have hk : ∀ e ∈ (rootsL p.rules 1 (archsOf p.rules) (putF [] 6 p.dflt)).2, e.1 < 4294967296 := by
  intro e he
  have : e.1 ∈ archsOf p.rules := by rw [← c3]; exact List.mem_map.2 ⟨e, he, rfl⟩
  rw [archsOf, firsts_mem, List.mem_map] at this
  obtain ⟨r, hr, h⟩ := this
  rw [← h]; exact (hf.1 r hr).2.1
 have ch := chain_came (s := ((rootsL p.rules 1 (archsOf p.rules) (putF [] 6 p.dflt)).1, 1)) c2 hk c1.lab
 have hlen : (rootsL p.rules 1 (archsOf p.rules) (putF [] 6 p.dflt)).2.length = (archsOf p.rules).length := by rw [← List.length_map (f := (·.1)), c3]
 have h0 : ∀ d : Da, Ind d (putF [] 6 p.dflt) 1 p.dflt := fun d => ret_ind d [] p.dflt
 have hri : ∀ d : Da, d.ok → _ := fun d hd => roots_ind (rs := p.rules) (o := 1) hf.1 hd (l := archsOf p.rules) (c := putF [] 6 p.dflt) (fun _ h => h) ⟨Nat.le_refl _, Nat.le_refl _⟩ (h0 d)
 have hs0 := ret_sound p.dflt
 have hk0 : kOK (putF [] 6 p.dflt) := put_ks hf.2 (fun y hy => by simp at hy)
 have hl0 : (putF [] 6 p.dflt).length = 1 := rfl
 by_cases he : (rootsL p.rules 1 (archsOf p.rules) (putF [] 6 p.dflt)).2 = []
 ·have ha : archsOf p.rules = [] := by rw [← c3, he]; rfl
  have hr : p.rules = [] := by
   cases hrs : p.rules with
   | nil => rfl
   | cons r l =>
    have : r.arch ∈ archsOf p.rules := by rw [archsOf, firsts_mem]; exact List.mem_map.2 ⟨r, by rw [hrs]; simp, rfl⟩
    rw [ha] at this; simp at this
  have hL : lowerL p = putF [] 6 p.dflt := by unfold lowerL; rw [if_pos he, he, ha]; rfl
  rw [hL]
  refine ⟨(Grown.refl _).mono (Nat.zero_le _), fun _ => ⟨hs0, hk0⟩, fun d hd => ?_⟩
  have : judgeP d p = p.dflt := by unfold judgeP rulesAt; rw [hr]; rfl
  rw [this]; exact h0 d
 ·have pf := putF_came (c := (chainL (rootsL p.rules 1 (archsOf p.rules) (putF [] 6 p.dflt)).2 ((rootsL p.rules 1 (archsOf p.rules) (putF [] 6 p.dflt)).1, 1)).1) (op := 32) (k := 4) (.inr (.inr ⟨rfl, by decide, by decide⟩)) (by decide)
  have cm := ((c1.trans ch).trans pf).mono (show _ ≤ lowCost p by rw [hlen]; exact Nat.le_refl _)
  have hL : lowerL p = putF (chainL (rootsL p.rules 1 (archsOf p.rules) (putF [] 6 p.dflt)).2 ((rootsL p.rules 1 (archsOf p.rules) (putF [] 6 p.dflt)).1, 1)).1 32 4 := by unfold lowerL; rw [if_neg he]
  have hcl := chain_lab (s := ((rootsL p.rules 1 (archsOf p.rules) (putF [] 6 p.dflt)).1, 1)) he
  rw [hL]
  refine ⟨cm.grown, fun hc => ⟨cm.sound hs0 (by rw [hl0]; omega), cm.ks hk0 (by rw [hl0]; omega)⟩, fun d hd => ?_⟩
  have dp := chain_dep (a := d.arch) (vs := fun a => judgeR d p.dflt (rulesAt p.rules a d.nr)) c2 hk c1.lab ((h0 d).grown c1.grown (Nat.le_refl _) |>.dep d.arch) (hri d hd)
  intro s hs
  rw [sfx_all, ld_run, (word0 d).2]
  have := dp { s with a := d.arch } (St.ok_a hs hd.2.1) rfl
  rw [hcl, sfx_all] at this
  rw [this]
  unfold lookN judgeP
  rw [c3]
  split
  ·rfl
  ·rename_i h
   have : rulesAt p.rules d.arch d.nr = [] := by
    rw [rulesAt, List.filter_eq_nil_iff]
    intro r hr hq
    simp only [decide_eq_true_eq] at hq
    exact h (by rw [archsOf, firsts_mem, List.mem_map]; exact ⟨r, hr, hq.1⟩)
   rw [this]; rfl
end Go.Ev
/- Actions, and policies that may be: contracts. -/
namespace Go.Ev
open Go Go.RowKit
variable {G : Tbl}
set_option maxRecDepth 10000
set_option maxHeartbeats 4000000
set_option linter.unusedSimpArgs false
set_option linter.unusedVariables false
def actB (v : Nat) : Bool := decide (v = 0 ∨ v = 196608 ∨ v = 2147221504 ∨ v = 2147418112 ∨ 327680 ≤ v ∧ v ≤ 331775)
def actsM : List (List UInt8 × Int) := [([107, 105, 108, 108], 0), ([116, 114, 97, 112], 196608), ([108, 111, 103], 2147221504), ([97, 108, 108, 111, 119], 2147418112)]
theorem actions_ok [HasName G] : Big G (.F 394 [] [] (.mp 0) [some (.map (actsM.map fun p => (.str p.1, .int .u32 p.2)))]) := by
 refine F_of HasName.h_names_actions (Nat.le_of_ble_eq_true rfl) ?_
 simp [actsM]
def nameS (v : Nat) : List UInt8 := ((actsM.find? fun p => p.2 == (v : Int)).map (·.1)).getD []
theorem nameA_ok [HasName G] (v : Nat) : Big G (.F 393 [.mp 0, .int .u32 v] [some (.map (actsM.map fun p => (.str p.1, .int .u32 p.2)))] (.str (nameS v)) [some (.map (actsM.map fun p => (.str p.1, .int .u32 p.2)))]) :=
 .nat HasName.h_names_name rfl ⟨rfl, actsM, rfl, by decide, rfl⟩
theorem subU {v : Nat} (hv : v < 4294967296) : subI .u32 (v : Int) 327680 = (((v + 4294639616) % 4294967296 : Nat) : Int) := by
 unfold subI
 rw [IntKind.wrap, show IntKind.u32.signed = false from rfl]
 simp [IntKind.bits]
 omega
theorem Action_ok [HasWText G] [HasName G] (v : Nat) (hv : v < 4294967296) : ∃ s e, FP G 395 [.int .u32 v] (.tup [.str s, .int .i64 e]) ∧ (e == 0) = actB v := by
 by_cases hs : nameS v = []
 ·have hn : v ≠ 0 ∧ v ≠ 196608 ∧ v ≠ 2147221504 ∧ v ≠ 2147418112 := by
   refine ⟨?_, ?_, ?_, ?_⟩ <;> (rintro rfl; revert hs; decide)
  obtain ⟨k, hk⟩ : ∃ k, k = (v + 4294639616) % 4294967296 := ⟨_, rfl⟩
  have hsub := subU hv
  rw [← hk] at hsub
  by_cases h : k ≤ 4095
  ·have hT := Text_ok (G := G) k (by omega)
   refine ⟨[101, 114, 114, 111, 114, 58] ++ textN k, 0, ?_, ?_⟩
   ·refine FP_of HasName.h_names_Action (Nat.le_of_ble_eq_true rfl) ?_
    have hle : ((k : Int) ≤ 4095) = True := eq_true (by omega)
    have hlen : (6 + (textN k).length ≤ 9223372036854775807) = True := eq_true (by have := textA_len k 16; unfold textN; omega)
    have hc : convI .u64 (k : Int) = (k : Int) := IntWalk.u64_in _ ⟨by omega, by omega⟩
    simp
    refine callK_of actions_ok (by simp) ?_
    simp
    refine callS_of (nameA_ok v) ?_
    simp [hs, hsub, hle, hc]
    refine callP_of hT ?_
    simp [hlen]
   ·have : actB v = true := by simp [actB]; omega
    rw [this]; rfl
  ·refine ⟨[], 1, ?_, ?_⟩
   ·refine FP_of HasName.h_names_Action (Nat.le_of_ble_eq_true rfl) ?_
    have hle : ((k : Int) ≤ 4095) = False := eq_false (by omega)
    simp
    refine callK_of actions_ok (by simp) ?_
    simp
    refine callS_of (nameA_ok v) ?_
    simp [hs, hsub, hle]
   ·have : actB v = false := by simp [actB]; omega
    rw [this]; rfl
 ·refine ⟨nameS v, 0, ?_, ?_⟩
  ·refine FP_of HasName.h_names_Action (Nat.le_of_ble_eq_true rfl) ?_
   have hb : (nameS v).isEmpty = false := by simpa using hs
   simp
   refine callK_of actions_ok (by simp) ?_
   simp
   refine callS_of (nameA_ok v) ?_
   simp [hs, hb]
  ·have : actB v = true := by
    have key : ∀ l : List (List UInt8 × Int), ((l.find? fun p => p.2 == (v : Int)).map (·.1)).getD [] ≠ [] → ∃ p ∈ l, p.2 = (v : Int) := by
     intro l h
     cases hf : l.find? (fun p => p.2 == (v : Int)) with
     | none => rw [hf] at h; simp at h
     | some p => exact ⟨p, List.mem_of_find?_eq_some hf, by simpa using List.find?_some hf⟩
    obtain ⟨p, hp, he⟩ := key _ hs
    simp only [actsM, List.mem_cons, List.not_mem_nil, or_false] at hp
    rcases hp with rfl | rfl | rfl | rfl <;> simp only at he <;> simp [actB] <;> omega
   rw [this]; rfl
def Ru.cs (r : Ru) : List V := [.int .u32 (r.arch : Int), .int .u32 (r.nr : Int), .vs (CL r.conds) .no, .int .u32 (r.act : Int)]
def RL (l : List Ru) : List (List V) := l.map Ru.cs
@[simp] theorem RL_length (l : List Ru) : (RL l).length = l.length := by simp [RL]
theorem RL_get {l : List Ru} {i : Nat} {x : Ru} (h : l[i]? = some x) : (RL l)[i]? = some x.cs := by simp [RL, h]
def Po.cs (p : Po) : List V := [.vs (RL p.rules) .no, .int .u32 (p.dflt : Int)]
def mayB (r : Ru) : Bool := r.conds.all Cd.right && actB r.act && decide (r.conds.length ≤ 4)
def rightP (p : Po) : Bool := p.rules.all mayB && actB p.dflt && decide (p.rules.length ≤ 64)
theorem may_ok [HasWText G] [HasName G] [HasCondR G] [HasPol G] (r : Ru) (hl : r.conds.length ≤ maxLen) (ha : r.act < 4294967296) : FP G 405 [.agg r.cs] (.bool (mayB r)) := by
 refine FP_of HasPol.h_policy_may (Nat.le_of_ble_eq_true rfl) ?_
 obtain ⟨s, e, hA, he⟩ := Action_ok (G := G) r.act ha
 simp [Ru.cs]
 refine W_up r.conds.length (fun i => [(1, .ptr 0 0), (8, .vs (CL r.conds) .no), (9, .int .i64 r.conds.length), (10, .int .i64 i)]) (fun _ => [some (.cells r.cs)]) (fun i => (r.conds.take i).all Cd.right = true) ?_ ?_
 ·simp [keep_cl, trunc, Ru.cs]
 intro i hi hp
 unfold maxLen at hl
 by_cases hlt : i < r.conds.length
 ·obtain ⟨x, hx⟩ : ∃ x, x = r.conds[i] := ⟨_, rfl⟩
  have hg : r.conds[i]? = some x := by rw [List.getElem?_eq_getElem hlt, hx]
  have hgc := CL_get hg
  have hget : (CL r.conds)[i]'(by simpa using hlt) = x.cs := by rw [List.getElem?_eq_getElem (by simpa using hlt)] at hgc; exact Option.some.inj hgc
  have hr := CondR_ok (G := G) x
  simp only [Cd.cs] at hr hgc hget
  have ht : (r.conds.take (i + 1)).all Cd.right = ((r.conds.take i).all Cd.right && x.right) := by rw [List.take_add_one, hg]; simp
  simp (disch := omega) [ltT, get_in, hgc, hget, Ru.cs, hlt]
  refine callP_of hr ?_
  cases hx2 : x.right with
  | false =>
   have : mayB r = false := by
    have : r.conds.all Cd.right = false := by
     rw [List.all_eq_false]; exact ⟨x, List.mem_of_getElem? hg, by simp [hx2]⟩
    simp [mayB, this]
   simp [this]
  | true =>
   simp (disch := omega) [keep_cl, trunc, add1', hlt, Ru.cs, -Int.natCast_add]
   have : (r.conds.take (i + 1)).all Cd.right = true := by rw [ht, hp, hx2]; rfl
   simpa using this
 ·have : i = r.conds.length := by omega
  subst this
  rw [List.take_length] at hp
  have l4 : ((r.conds.length : Int) ≤ 4) = (r.conds.length ≤ 4) := by rw [eq_iff_iff]; omega
  simp (disch := omega) [ltF, keep_cl, trunc, Ru.cs]
  refine callP_of hA ?_
  cases hb : actB r.act with
  | true =>
   rw [hb] at he
   simp only [beq_iff_eq] at he
   subst he
   simp [mayB, hp, hb, l4]
  | false =>
   rw [hb] at he
   simp [mayB, hp, hb, he]
theorem polRight_ok [HasWText G] [HasName G] [HasCondR G] [HasPol G] (p : Po) (hl : p.rules.length ≤ maxLen) (hr : ∀ r ∈ p.rules, r.conds.length ≤ maxLen ∧ r.act < 4294967296) (hd : p.dflt < 4294967296) : FP G 406 [.agg p.cs] (.bool (rightP p)) := by
 refine FP_of HasPol.h_policy_Right (Nat.le_of_ble_eq_true rfl) ?_
 obtain ⟨s, e, hA, he⟩ := Action_ok (G := G) p.dflt hd
 simp [Po.cs]
 refine W_up p.rules.length (fun i => [(1, .ptr 0 0), (8, .vs (RL p.rules) .no), (9, .int .i64 p.rules.length), (10, .int .i64 i)]) (fun _ => [some (.cells p.cs)]) (fun i => (p.rules.take i).all mayB = true) ?_ ?_
 ·simp [keep_cl, trunc, Po.cs]
 intro i hi hp
 unfold maxLen at hl
 by_cases hlt : i < p.rules.length
 ·obtain ⟨x, hx⟩ : ∃ x, x = p.rules[i] := ⟨_, rfl⟩
  have hg : p.rules[i]? = some x := by rw [List.getElem?_eq_getElem hlt, hx]
  have hgc := RL_get hg
  have hget : (RL p.rules)[i]'(by simpa using hlt) = x.cs := by rw [List.getElem?_eq_getElem (by simpa using hlt)] at hgc; exact Option.some.inj hgc
  have hxm := hr x (List.mem_of_getElem? hg)
  have hm := may_ok (G := G) x hxm.1 hxm.2
  simp only [Ru.cs] at hm hgc hget
  have ht : (p.rules.take (i + 1)).all mayB = ((p.rules.take i).all mayB && mayB x) := by rw [List.take_add_one, hg]; simp
  simp (disch := omega) [ltT, get_in, hgc, hget, Po.cs, hlt]
  refine callP_of hm ?_
  cases hx2 : mayB x with
  | false =>
   have : rightP p = false := by
    have : p.rules.all mayB = false := by
     rw [List.all_eq_false]; exact ⟨x, List.mem_of_getElem? hg, by simp [hx2]⟩
    simp [rightP, this]
   simp [this]
  | true =>
   simp (disch := omega) [keep_cl, trunc, add1', hlt, Po.cs, -Int.natCast_add]
   have : (p.rules.take (i + 1)).all mayB = true := by rw [ht, hp, hx2]; rfl
   simpa using this
 ·have : i = p.rules.length := by omega
  subst this
  rw [List.take_length] at hp
  have l4 : ((p.rules.length : Int) ≤ 64) = (p.rules.length ≤ 64) := by rw [eq_iff_iff]; omega
  simp (disch := omega) [ltF, keep_cl, trunc, Po.cs]
  refine callP_of hA ?_
  cases hb : actB p.dflt with
  | true =>
   rw [hb] at he
   simp only [beq_iff_eq] at he
   subst he
   simp [rightP, hp, hb, l4]
  | false =>
   rw [hb] at he
   simp [rightP, hp, hb, he]
end Go.Ev
