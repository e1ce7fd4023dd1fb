/- Work on two values of a book. -/
import Derived.Test.YtkodfphojbfieaaGreatDoorRunAW
import Derived.Test.YtkodfphojbfieaaGreatDoorEvXW
set_option linter.unusedVariables false
set_option linter.unusedSimpArgs false
namespace Go.Ev
open Go Go.RowKit
variable {G : Tbl}
set_option maxRecDepth 10000
set_option maxHeartbeats 4000000
set_option linter.unusedSimpArgs false
set_option linter.unusedVariables false
variable {H : Heap} {b z m : Nat} {L : List Nd}
def Nd.wf (a : Nd) : Prop := (∀ c ∈ a.f, c < 4294967296) ∧ (a.kind = 1 → Right ((a.vars.take a.n).map fun (x : Nat) => (x : Int)) (a.tab.take (2 ^ a.n)) ∧ a.n ≤ 4 ∧ ∀ w ∈ a.tab, w < 4294967296)
def constA (a : Nd) : Option Nat := if a.kind = 0 then fConst a.f else none
theorem asSumF_ok [HasSym G] (x : Nat) (a : Nd) (h : Bk H b z m L) (hx : L[x]? = some a) : SF G 264 [.ptr b 0, .int .i64 x] H (.tup [.agg (cnats .u32 a.f), .bool (decide (a.kind = 0))]) H :=
 ⟨_, _, asSum_ok x a h hx, by simp, h.shut.back _⟩
theorem hasF_ok [HasSym G] (i : Int) (h : Bk H b z m L) : SF G 258 [.ptr b 0, .int .i64 i] H (.bool (hasI L i)) H :=
 ⟨_, _, has_ok i h, rfl, h.shut.self⟩
def constI (L : List Nd) (i : Int) : Option Nat := if hasI L i then (L[i.toNat]?).bind constA else none
theorem BConstant_ok [HasAffine G] [HasSym G] (i : Int) (h : Bk H b z m L) : SF G 266 [.ptr b 0, .int .i64 i] H (.tup [.int .u32 ((constI L i).getD 0 : Nat), .bool (constI L i).isSome]) H := by
 refine SF_of HasSym.h_sym_Book_Constant (Nat.le_of_ble_eq_true rfl) ?_
 have hbk := h.shut.back
 have hs := h.shut.self
 have hd35 : (cnats .u32 (zeros 35)).drop 35 = [] := rfl
 simp
 refine callSF_of (hasF_ok i h) ?_
 cases hi : hasI L i
 ·simp [hs, constI, hi]
 ·obtain ⟨h0, h1⟩ : 0 ≤ i ∧ i < L.length := by simpa [hasI] using hi
  obtain ⟨n, rfl⟩ := Int.eq_ofNat_of_zero_le h0
  have hn : n < L.length := by omega
  obtain ⟨a, ha⟩ : ∃ a, L[n]? = some a := ⟨_, get_in hn⟩
  have hao := h.ok a (List.mem_of_getElem? ha)
  have hpf := take_full (k := .u32) hao.1
  have hci : constI L n = constA a := by simp [constI, hi, ha]
  rw [hci]
  simp
  refine callSF_of (asSumF_ok n a (h.app (r := [none]) fun n => by simp) ha) ?_
  by_cases hk : a.kind = 0
  ·have hca : constA a = fConst a.f := by rw [constA, if_pos hk]
   simp [hk, hca, hd35, hao.1, hpf, ap0]
   refine callP_of (fConst_ok a.f hao.1) ?_
   simp [hbk]
  ·have hca : constA a = none := by rw [constA, if_neg hk]
   simp [hk, hca, hd35, hao.1, hpf, hbk]
abbrev R3 := Int × Bool × List Nd
def okP (p : Int × List Nd) : R3 := (p.1, true, p.2)
def noR (L : List Nd) : R3 := (0, false, L)
def sumsN (L : List Nd) (kind : Int) (a c : Nd) : R3 :=
 if a.kind = 0 ∧ c.kind = 0 then
  if kind = 4 then okP (putN L (sumNd (fAdd a.f c.f)))
  else if kind = 20 then okP (putN L (sumNd (fSub a.f c.f)))
  else match fConst a.f, fConst c.f with
   | some u, some v => if kind = 36 then okP (putN L (sumNd (fMul a.f v))) else if kind = 100 then okP (putN L (sumNd (fMul a.f (doW 100 1 v).1)))
    else ((putN L (sumNd ((doW kind u v).1 :: zeros 34))).1, (doW kind u v).2, (putN L (sumNd ((doW kind u v).1 :: zeros 34))).2)
   | none, some v => if kind = 36 then okP (putN L (sumNd (fMul a.f v))) else if kind = 100 then okP (putN L (sumNd (fMul a.f (doW 100 1 v).1))) else noR L
   | some u, none => if kind = 36 then okP (putN L (sumNd (fMul c.f u))) else noR L
   | none, none => noR L
 else noR L
def BF3 (G : Tbl) (f : Nat) (args : List V) (H : Heap) (b z m : Nat) (p : R3) : Prop := SF G f (.ptr b 0 :: args) H (.tup [.int .i64 p.1, .bool p.2.1]) (upd H b z m p.2.2)
theorem fConst_lt {f : List Nat} {c : Nat} (h : fConst f = some c) (hw : ∀ x ∈ f, x < 4294967296) : c < 4294967296 := by
 rw [fConst] at h
 split at h
 ·exact hw c (List.mem_of_mem_head? h)
 ·cases h
theorem sums_ok [HasWd G] [HasAffine G] [HasSym G] (kind : Int) (x y : Nat) (a c : Nd) (h : Bk H b z m L) (hs : L.length < 1000000) (hx : L[x]? = some a) (hy : L[y]? = some c) (ha : a.wf) (hc : c.wf) :
  BF3 G 267 [.int .i64 kind, .int .i64 x, .int .i64 y] H b z m (sumsN L kind a c) := by
 refine SF_of HasSym.h_sym_Book_sums (Nat.le_of_ble_eq_true rfl) ?_
 have hd35 : (cnats .u32 (zeros 35)).drop 35 = [] := rfl
 have hao := h.ok a (List.mem_of_getElem? hx)
 have hco := h.ok c (List.mem_of_getElem? hy)
 have hpa := take_full (k := .u32) hao.1
 have hpc := take_full (k := .u32) hco.1
 have h1 : Bk (H ++ [some (.cells (cnats .u32 a.f))]) b z m L := h.app fun n => by simp [Blk.cl]
 have h2 : Bk (H ++ [some (.cells (cnats .u32 a.f)), some (.cells (cnats .u32 c.f))]) b z m L := h.app fun n => by simp [Blk.cl]
 have hsh := h.shut.back
 have hs1 := h1.shut.self
 have hs2 := h2.shut.self
 have hu : ∀ L', upd (H ++ [some (.cells (cnats .u32 a.f)), some (.cells (cnats .u32 c.f))]) b z m L' = upd H b z m L' ++ [some (.cells (cnats .u32 a.f)), some (.cells (cnats .u32 c.f))] := fun L' => h.upd_app _ L'
 have hbk : ∀ L' r, trunc H.length (upd H b z m L' ++ r) = upd H b z m L' := fun L' r => h.back L' r
 have hus := h.upd_self
 simp at hs1 hs2
 simp
 refine callSF_of (asSumF_ok x a (h.app (r := [none]) fun n => by simp) hx) ?_
 simp [hd35, hao.1, hpa, ap0, apk, set0, setk, hs1]
 refine callSF_of (asSumF_ok y c (h.app (r := [some (.cells (cnats .u32 a.f)), none]) fun n => by simp [Blk.cl]) hy) ?_
 simp [hd35, hao.1, hpa, hco.1, hpc, ap0, apk, set0, setk, hs2]
 by_cases hka : a.kind = 0
 case neg => simp [hka, sumsN, noR, hus, hsh]
 by_cases hkc : c.kind = 0
 case neg => simp [hka, hkc, sumsN, noR, hus, hsh]
 have hfa := fConst_ok (G := G) a.f hao.1
 have hfc := fConst_ok (G := G) c.f hco.1
 simp [hka, hkc, hd35, hao.1, hpa, hco.1, hpc, ap0, apk, set0, setk, leTn, leFn, hs2]
 refine callP_of hfa ?_
 simp [hka, hkc, hd35, hao.1, hpa, hco.1, hpc, ap0, apk, set0, setk, leTn, leFn, hs2]
 refine callP_of hfc ?_
 simp [hka, hkc, hd35, hao.1, hpa, hco.1, hpc, ap0, apk, set0, setk, leTn, leFn, hs2]
 have hls : (fSub a.f c.f).length = 35 := by simp [fSub, hao.1, hco.1]
 have hla : (fAdd a.f c.f).length = 35 := by simp [fAdd, hao.1, hco.1]
 have hlm : ∀ k, (fMul a.f k).length = 35 := fun k => by simp [fMul, hao.1]
 have hlm' : ∀ k, (fMul c.f k).length = 35 := fun k => by simp [fMul, hco.1]
 by_cases k4 : kind = 4
 ·subst k4
  have hR : sumsN L 4 a c = okP (putN L (sumNd (fAdd a.f c.f))) := by simp [sumsN, hka, hkc]
  simp [hka, hkc, hd35, hao.1, hpa, hco.1, hpc, ap0, apk, set0, setk, leTn, leFn, hs2, hu, hbk]
  refine callP_of (fAdd_ok a.f c.f hao.1 hco.1) ?_
  simp [hka, hkc, hd35, hao.1, hpa, hco.1, hpc, ap0, apk, set0, setk, leTn, leFn, hs2, hu, hbk]
  refine callSF_of (sum_ok (fAdd a.f c.f) hla h2 hs) ?_
  simp [hka, hkc, hd35, hao.1, hpa, hco.1, hpc, ap0, apk, set0, setk, leTn, leFn, hs2, hu, hbk, hR, okP, putN]
 by_cases k20 : kind = 20
 ·subst k20
  have hR : sumsN L 20 a c = okP (putN L (sumNd (fSub a.f c.f))) := by simp [sumsN, hka, hkc]
  simp [hka, hkc, hd35, hao.1, hpa, hco.1, hpc, ap0, apk, set0, setk, leTn, leFn, hs2, hu, hbk]
  refine callP_of (fSub_ok a.f c.f hao.1 hco.1 hc.1) ?_
  simp [hka, hkc, hd35, hao.1, hpa, hco.1, hpc, ap0, apk, set0, setk, leTn, leFn, hs2, hu, hbk]
  refine callSF_of (sum_ok (fSub a.f c.f) hls h2 hs) ?_
  simp [hka, hkc, hd35, hao.1, hpa, hco.1, hpc, ap0, apk, set0, setk, leTn, leFn, hs2, hu, hbk, hR, okP, putN]
 by_cases k36 : kind = 36
 ·subst k36
  cases eu : fConst a.f <;> cases ev : fConst c.f
  ·have hR : sumsN L 36 a c = noR L := by simp [sumsN, hka, hkc, eu, ev]
   simp [hka, hkc, hd35, hao.1, hpa, hco.1, hpc, ap0, apk, set0, setk, leTn, leFn, hs2, hu, hbk, hR, noR, hus, hsh]
  ·rename_i v
   have hR : sumsN L 36 a c = okP (putN L (sumNd (fMul a.f v))) := by simp [sumsN, hka, hkc, eu, ev]
   simp [hka, hkc, hd35, hao.1, hpa, hco.1, hpc, ap0, apk, set0, setk, leTn, leFn, hs2, hu, hbk]
   refine callP_of (fMul_ok a.f v hao.1) ?_
   simp [hka, hkc, hd35, hao.1, hpa, hco.1, hpc, ap0, apk, set0, setk, leTn, leFn, hs2, hu, hbk]
   refine callSF_of (sum_ok (fMul a.f v) (hlm v) h2 hs) ?_
   simp [hka, hkc, hd35, hao.1, hpa, hco.1, hpc, ap0, apk, set0, setk, leTn, leFn, hs2, hu, hbk, hR, okP, putN]

  ·rename_i u
   have hR : sumsN L 36 a c = okP (putN L (sumNd (fMul c.f u))) := by simp [sumsN, hka, hkc, eu, ev]
   simp [hka, hkc, hd35, hao.1, hpa, hco.1, hpc, ap0, apk, set0, setk, leTn, leFn, hs2, hu, hbk]
   refine callP_of (fMul_ok c.f u hco.1) ?_
   simp [hka, hkc, hd35, hao.1, hpa, hco.1, hpc, ap0, apk, set0, setk, leTn, leFn, hs2, hu, hbk]
   refine callSF_of (sum_ok (fMul c.f u) (hlm' u) h2 hs) ?_
   simp [hka, hkc, hd35, hao.1, hpa, hco.1, hpc, ap0, apk, set0, setk, leTn, leFn, hs2, hu, hbk, hR, okP, putN]

  ·rename_i u v
   have hR : sumsN L 36 a c = okP (putN L (sumNd (fMul a.f v))) := by simp [sumsN, hka, hkc, eu, ev]
   simp [hka, hkc, hd35, hao.1, hpa, hco.1, hpc, ap0, apk, set0, setk, leTn, leFn, hs2, hu, hbk]
   refine callP_of (fMul_ok a.f v hao.1) ?_
   simp [hka, hkc, hd35, hao.1, hpa, hco.1, hpc, ap0, apk, set0, setk, leTn, leFn, hs2, hu, hbk]
   refine callSF_of (sum_ok (fMul a.f v) (hlm v) h2 hs) ?_
   simp [hka, hkc, hd35, hao.1, hpa, hco.1, hpc, ap0, apk, set0, setk, leTn, leFn, hs2, hu, hbk, hR, okP, putN]

 have b4 : (kind == 4) = false := beqF k4
 have b20 : (kind == 20) = false := beqF k20
 have b36 : (kind == 36) = false := beqF k36
 by_cases k100 : kind = 100
 ·subst k100
  cases ev : fConst c.f with
  | none =>
   have hR : sumsN L 100 a c = noR L := by cases eu : fConst a.f <;> simp [sumsN, hka, hkc, eu, ev]
   cases eu : fConst a.f <;> simp [hka, hkc, hd35, hao.1, hpa, hco.1, hpc, ap0, apk, set0, setk, leTn, leFn, hs2, hu, hbk, hR, noR, hus, hsh]
  | some v =>
   have hR : sumsN L 100 a c = okP (putN L (sumNd (fMul a.f (doW 100 1 v).1))) := by cases eu : fConst a.f <;> simp [sumsN, hka, hkc, eu, ev]
   have hdo := doW_ok (G := G) (by infer_instance) 100 1 v (by decide) (fConst_lt ev hc.1)
   simp at hdo
   simp [hka, hkc, hd35, hao.1, hpa, hco.1, hpc, ap0, apk, set0, setk, leTn, leFn, hs2, hu, hbk]
   refine callP_of hdo ?_
   simp [hka, hkc, hd35, hao.1, hpa, hco.1, hpc, ap0, apk, set0, setk, leTn, leFn, hs2, hu, hbk]
   refine callP_of (fMul_ok a.f (doW 100 1 v).1 hao.1) ?_
   simp [hka, hkc, hd35, hao.1, hpa, hco.1, hpc, ap0, apk, set0, setk, leTn, leFn, hs2, hu, hbk]
   refine callSF_of (sum_ok (fMul a.f (doW 100 1 v).1) (hlm _) h2 hs) ?_
   simp [hka, hkc, hd35, hao.1, hpa, hco.1, hpc, ap0, apk, set0, setk, leTn, leFn, hs2, hu, hbk, hR, okP, putN]

 have b100 : (kind == 100) = false := beqF k100
 cases eu : fConst a.f with
 | none =>
  have hR : sumsN L kind a c = noR L := by cases ev : fConst c.f <;> simp [sumsN, hka, hkc, eu, ev, k4, k20, k36, k100]
  simp [hka, hkc, hd35, hao.1, hpa, hco.1, hpc, ap0, apk, set0, setk, leTn, leFn, hs2, hu, hbk, b4, b20, b36, b100, hR, noR, hus, hsh]
 | some u =>
  cases ev : fConst c.f with
  | none =>
   have hR : sumsN L kind a c = noR L := by simp [sumsN, hka, hkc, eu, ev, k4, k20, k36, k100]
   simp [hka, hkc, hd35, hao.1, hpa, hco.1, hpc, ap0, apk, set0, setk, leTn, leFn, hs2, hu, hbk, b4, b20, b36, b100, hR, noR, hus, hsh]
  | some v =>
   have hR : sumsN L kind a c = ((putN L (sumNd ((doW kind u v).1 :: zeros 34))).1, (doW kind u v).2, (putN L (sumNd ((doW kind u v).1 :: zeros 34))).2) := by simp [sumsN, hka, hkc, eu, ev, k4, k20, k36, k100]
   have hdo := doW_ok (G := G) (by infer_instance) kind u v (fConst_lt eu ha.1) (fConst_lt ev hc.1)
   simp [hka, hkc, hd35, hao.1, hpa, hco.1, hpc, ap0, apk, set0, setk, leTn, leFn, hs2, hu, hbk, b4, b20, b36, b100]
   refine callP_of hdo ?_
   simp [hka, hkc, hd35, hao.1, hpa, hco.1, hpc, ap0, apk, set0, setk, leTn, leFn, hs2, hu, hbk]
   refine callSF_of (BConst_ok (doW kind u v).1 h2 hs) ?_
   simp [hka, hkc, hd35, hao.1, hpa, hco.1, hpc, ap0, apk, set0, setk, leTn, leFn, hs2, hu, hbk, hR, putN]
end Go.Ev
/- Work on bits of a book, and what is known of all numbers. -/
namespace Go.Ev
open Go Go.RowKit
variable {G : Tbl}
set_option maxRecDepth 10000
set_option maxHeartbeats 4000000
set_option linter.unusedSimpArgs false
set_option linter.unusedVariables false
variable {H : Heap} {b z m : Nat} {L : List Nd}
theorem fOne_lt {f : List Nat} {i : Nat} (h : fOne f = some i) : i < 34 := List.mem_range.1 (List.mem_of_find?_eq_some h)
theorem asB_right {a : Nd} {p : List Int × List Nat} (ha : a.wf) (h : asB a = some p) : Right p.1 p.2 ∧ ∀ w ∈ p.2, w < 4294967296 := by
 rw [asB] at h
 split at h
 ·rename_i hk
  obtain ⟨h1, h2, h3⟩ := ha.2 hk
  cases h
  exact ⟨h1, fun w hw => h3 w (List.mem_of_mem_take hw)⟩
 ·split at h
  ·split at h
   ·rename_i c hc
    cases h
    exact ⟨⟨by simp, by simp, fun j hj => by simp at hj⟩, fun w hw => by rw [List.mem_singleton.1 hw]; exact fConst_lt hc ha.1⟩
   ·split at h
    ·rename_i i hi
     cases h
     exact ⟨(right_var i (fOne_lt hi)).1, by simp [ones]⟩
    ·split at h
     ·rename_i i hi
      cases h
      exact ⟨(right_var i (fOne_lt hi)).2, by simp [ones]⟩
     ·cases h
  ·cases h
open Classical in
/-- What is done with bits. -/
noncomputable def bdo (kind : Int) (p q : List Int × List Nat) : Option (List Int × List Nat) :=
 if h : DoOk kind p.1 q.1 p.2 q.2 ∧ ∃ r : List Int × List Nat, Right r.1 r.2 ∧ (∀ w ∈ r.2, w < 4294967296) ∧ ∀ s, sem r.1 r.2 s = (doW kind (sem p.1 p.2 s) (sem q.1 q.2 s)).1 then some (Classical.choose h.2) else none
def bdoV (o : Option (List Int × List Nat)) : V := match o with
 | some p => .tup [FV p.1 p.2, .bool true]
 | none => .tup [FV [] [], .bool false]
theorem bdo_some {kind : Int} {p q r : List Int × List Nat} (h : bdo kind p q = some r) : DoOk kind p.1 q.1 p.2 q.2 ∧ Right r.1 r.2 ∧ (∀ w ∈ r.2, w < 4294967296) ∧ ∀ s, sem r.1 r.2 s = (doW kind (sem p.1 p.2 s) (sem q.1 q.2 s)).1 := by
 rw [bdo] at h
 split at h
 ·rename_i hh
  cases h
  exact ⟨hh.1, Classical.choose_spec hh.2⟩
 ·cases h
theorem bdo_ok [hG : HasBits G] (kind : Int) (p q : List Int × List Nat) (hp : Right p.1 p.2) (hq : Right q.1 q.2) (hpw : ∀ w ∈ p.2, w < 4294967296) (hqw : ∀ w ∈ q.2, w < 4294967296) :
  FP G 109 [.int .i64 kind, FV p.1 p.2, FV q.1 q.2] (bdoV (bdo kind p q)) ∧ (bdo kind p q = none → ¬ DoOk kind p.1 q.1 p.2 q.2) := by
 have h1 := hp.1
 have h2 := hq.1
 have h3 := tab_small h1 hp.2.1
 have h4 := tab_small h2 hq.2.1
 obtain ⟨r, hr, h | ⟨hok, vs', tab', rfl, hR', hw', hs'⟩⟩ := Do_ok hG kind p.1 q.1 p.2 q.2 (by omega) (by omega) (by omega) (by omega) hpw hqw
 ·have e : bdo kind p q = none := by rw [bdo, dif_neg (fun hh => h.1 hh.1)]
  rw [e]
  obtain ⟨h1, rfl⟩ := h
  exact ⟨hr, fun _ => h1⟩
 ·have hh : DoOk kind p.1 q.1 p.2 q.2 ∧ ∃ r : List Int × List Nat, Right r.1 r.2 ∧ (∀ w ∈ r.2, w < 4294967296) ∧ ∀ s, sem r.1 r.2 s = (doW kind (sem p.1 p.2 s) (sem q.1 q.2 s)).1 := ⟨hok, (vs', tab'), hR', hw', hs'⟩
  have e : bdo kind p q = some (Classical.choose hh.2) := by rw [bdo, dif_pos hh]
  obtain ⟨_, R, W, S⟩ := bdo_some e
  rw [e]
  refine ⟨?_, fun h => by cases h⟩
  obtain ⟨e1, e2⟩ := canon hR' R fun s => by rw [hs', S]
  rw [bdoV, ← e1, ← e2]
  exact hr
noncomputable def bothN (L : List Nd) (kind : Int) (a c : Nd) : R3 :=
 match asB a, asB c with
 | some p, some q => (match bdo kind p q with | some r => okP (bitsN L r.1 r.2) | none => noR L)
 | _, _ => noR L
theorem asBitsF_ok [HasAffine G] [HasBits G] [HasSym G] (x : Nat) (a : Nd) (h : Bk H b z m L) (hx : L[x]? = some a) (ha : a.wf) : SF G 265 [.ptr b 0, .int .i64 x] H (asBV (asB a)) H :=
 asBits_ok x a h hx (fun hk => (ha.2 hk).2.1) ha.1
def asBC (o : Option (List Int × List Nat)) : List V := match o with
 | some p => [.vs (ints .i64 p.1) .no, .vs (nats .u32 p.2) .no]
 | none => [.vs [] .full, .vs [] .full]
theorem asBV_eq (o : Option (List Int × List Nat)) : asBV o = .tup [.agg (asBC o), .bool o.isSome] := by cases o <;> rfl
theorem asBC_len (o : Option (List Int × List Nat)) : (asBC o).length = 2 := by cases o <;> rfl
theorem asBC_cl (o : Option (List Int × List Nat)) (n : Nat) : clL n (asBC o) = asBC o := by cases o <;> simp [asBC, clL, V.cl]
theorem asBC_tk (o : Option (List Int × List Nat)) : (asBC o).take 2 = asBC o := List.take_of_length_le (by simp [asBC_len])
theorem Bboth_ok [HasAffine G] [HasBits G] [HasSym G] (kind : Int) (x y : Nat) (a c : Nd) (h : Bk H b z m L) (hs : L.length < 1000000) (hx : L[x]? = some a) (hy : L[y]? = some c) (ha : a.wf) (hc : c.wf) :
  BF3 G 268 [.int .i64 kind, .int .i64 x, .int .i64 y] H b z m (bothN L kind a c) := by
 refine SF_of HasSym.h_sym_Book_both (Nat.le_of_ble_eq_true rfl) ?_
 have h1 : Bk (H ++ [some (.cells (asBC (asB a)))]) b z m L := h.app fun n => by simp [Blk.cl, asBC_cl]
 have h2 : Bk (H ++ [some (.cells (asBC (asB a))), some (.cells (asBC (asB c)))]) b z m L := h.app fun n => by simp [Blk.cl, asBC_cl]
 have hsh := h.shut.back
 have hs1 := h1.shut.self
 have hs2 := h2.shut.self
 have hbk : ∀ L' r, trunc H.length (upd H b z m L' ++ r) = upd H b z m L' := fun L' r => h.back L' r
 have hus := h.upd_self
 simp at hs1 hs2
 simp
 refine callSF_of (asBitsF_ok x a (h.app (r := [none]) fun n => by simp) hx ha) ?_
 simp [asBV_eq, asBC_len, asBC_tk, ap0, apk, set0, setk, hs1]
 refine callSF_of (asBitsF_ok y c (h.app (r := [some (.cells (asBC (asB a))), none]) fun n => by simp [Blk.cl, asBC_cl]) hy hc) ?_
 simp [asBV_eq, asBC_len, asBC_tk, ap0, apk, set0, setk, hs2]
 cases ea : asB a with
 | none => 
  have hR : bothN L kind a c = noR L := by simp [bothN, ea]
  simp [hR, noR, hus, hsh]
 | some p =>
  cases ec : asB c with
  | none =>
   have hR : bothN L kind a c = noR L := by simp [bothN, ea, ec]
   simp [hR, noR, hus, hsh]
  | some q =>
   obtain ⟨hp, hpw⟩ := asB_right ha ea
   obtain ⟨hq, hqw⟩ := asB_right hc ec
   obtain ⟨hdo, hno⟩ := bdo_ok (G := G) kind p q hp hq hpw hqw
   simp [ea, ec] at hs2 h2
   simp [hs2, ap0, apk, set0, setk, asBC]
   simp only [FV] at hdo
   refine callP_of hdo ?_
   cases er : bdo kind p q with
   | none =>
    have hR : bothN L kind a c = noR L := by simp [bothN, ea, ec, er]
    simp [bdoV, FV, hR, noR, hus, hsh, ap0, apk, set0, setk]
   | some r =>
    have hR : bothN L kind a c = okP (bitsN L r.1 r.2) := by simp [bothN, ea, ec, er]
    simp [bdoV, FV, hR, okP, ap0, apk, set0, setk]
    have h3 : Bk (H ++ [some (.cells [.vs (ints .i64 p.1) .no, .vs (nats .u32 p.2) .no]), some (.cells [.vs (ints .i64 q.1) .no, .vs (nats .u32 q.2) .no]), some (.cells [.vs (ints .i64 r.1) .no, .vs (nats .u32 r.2) .no])]) b z m L :=
     h.app fun n => by simp [Blk.cl, clL, V.cl]
    have hu := h.upd_app [some (.cells [.vs (ints .i64 p.1) .no, .vs (nats .u32 p.2) .no]), some (.cells [.vs (ints .i64 q.1) .no, .vs (nats .u32 q.2) .no]), some (.cells [.vs (ints .i64 r.1) .no, .vs (nats .u32 r.2) .no])] (bitsN L r.1 r.2).2
    refine callSF_of (Bbits_ok r.1 r.2 (bdo_some er).2.1 h3 hs) ?_
    simp [hu, hbk]
def plainN (kind : Int) (cy : Option Nat) (x y : Int) : Int × Bool :=
 if kind = 4 ∨ kind = 20 ∨ kind = 100 ∨ kind = 116 then (x, decide (cy = some 0)) else if kind = 68 then (x, decide (cy = some 0) || decide (x = y)) else if kind = 164 then (x, decide (cy = some 0))
 else if kind = 84 then (x, decide (cy = some ones) || decide (x = y)) else (0, false)
theorem plain_ok' [HasAffine G] [HasSym G] (kind x y : Int) (h : Bk H b z m L) :
  SF G 269 [.ptr b 0, .int .i64 kind, .int .i64 x, .int .i64 y] H (.tup [.int .i64 (plainN kind (constI L y) x y).1, .bool (plainN kind (constI L y) x y).2]) H := by
 refine SF_of HasSym.h_sym_Book_plain (Nat.le_of_ble_eq_true rfl) ?_
 have hs := h.shut.self
 simp
 refine callSF_of (BConstant_ok y h) ?_
 have xy : ((x == y) : Bool) = decide (x = y) := by rw [Bool.eq_iff_iff]; simp
 have tail : ∀ (u w : Bool), u = decide (constI L y = some 0) → w = decide (constI L y = some ones) → True := fun _ _ _ _ => trivial
 cases hc : constI L y with
 | none =>
  simp [hs]
  by_cases k4 : kind = 4
  ·subst k4; simp [hs, plainN]
  by_cases k20 : kind = 20
  ·subst k20; simp [hs, plainN]
  by_cases k100 : kind = 100
  ·subst k100; simp [hs, plainN]
  by_cases k116 : kind = 116
  ·subst k116; simp [hs, plainN]
  by_cases k68 : kind = 68
  ·subst k68; simp [hs, plainN, xy]
  by_cases k164 : kind = 164
  ·subst k164; simp [hs, plainN]
  by_cases k84 : kind = 84
  ·subst k84; simp [hs, plainN, xy]
  simp [hs, plainN, beqF k4, beqF k20, beqF k100, beqF k116, beqF k68, beqF k164, beqF k84, k4, k20, k100, k116, k68, k164, k84]
 | some c =>
  have e0 : ((c : Int) == 0) = decide (c = 0) := by rw [Bool.eq_iff_iff]; simp
  have e1 : ((c : Int) == 4294967295) = decide (c = 4294967295) := by rw [Bool.eq_iff_iff]; simp; omega
  simp [hs, e0, e1]
  by_cases k4 : kind = 4
  ·subst k4; simp [hs, plainN]
  by_cases k20 : kind = 20
  ·subst k20; simp [hs, plainN]
  by_cases k100 : kind = 100
  ·subst k100; simp [hs, plainN]
  by_cases k116 : kind = 116
  ·subst k116; simp [hs, plainN]
  by_cases k68 : kind = 68
  ·subst k68
   by_cases c0 : c = 0
   ·simp [hs, plainN, xy, c0]
   ·simp [hs, plainN, xy, c0]
  by_cases k164 : kind = 164
  ·subst k164; simp [hs, plainN]
  by_cases k84 : kind = 84
  ·subst k84
   by_cases c1 : c = 4294967295
   ·simp [hs, plainN, xy, c1, ones]
   ·simp [hs, plainN, xy, c1, ones]
  simp [hs, plainN, beqF k4, beqF k20, beqF k100, beqF k116, beqF k68, beqF k164, beqF k84, k4, k20, k100, k116, k68, k164, k84]
end Go.Ev
/- Books stay books: plain laws. -/
namespace Go.Ev
open Go Go.RowKit
set_option maxRecDepth 10000
set_option maxHeartbeats 4000000
set_option linter.unusedSimpArgs false
set_option linter.unusedVariables false
variable {L : List Nd}
def Nd.good (n : Nat) (a : Nd) : Prop := a.ok ∧ a.wf ∧ (a.kind = 0 ∨ a.kind = 1 ∨ a.kind = 2 ∧ a.x < n ∧ a.y < n ∧ (doW a.op 0 1).2 = true)
theorem Nd.good.mono {n k : Nat} {a : Nd} (h : a.good n) (hk : n ≤ k) : a.good k := ⟨h.1, h.2.1, by rcases h.2.2 with h | h | ⟨h, h1, h2, h3⟩; exact .inl h; exact .inr (.inl h); exact .inr (.inr ⟨h, by omega, by omega, h3⟩)⟩
structure Inv (L : List Nd) : Prop where
 good : ∀ (i : Nat) (a : Nd), L[i]? = some a → a.good i
 one : L.Nodup
theorem Inv.ok (h : Inv L) : ∀ a ∈ L, a.ok := fun a ha => by obtain ⟨i, hi⟩ := List.getElem?_of_mem ha; exact (h.good i a hi).1
theorem Inv.wf (h : Inv L) : ∀ a ∈ L, a.wf := fun a ha => by obtain ⟨i, hi⟩ := List.getElem?_of_mem ha; exact (h.good i a hi).2.1
theorem Inv.nil : Inv [] := ⟨fun i a h => by simp at h, List.nodup_nil⟩
structure Ext (L L' : List Nd) (k : Nat) : Prop where
 pre : L <+: L'
 inv : Inv L'
 len : L'.length ≤ L.length + k
theorem Ext.refl (h : Inv L) (k : Nat) : Ext L L k := ⟨List.prefix_refl L, h, by omega⟩
theorem Ext.trans {L' L'' : List Nd} {k l : Nat} (h : Ext L L' k) (h' : Ext L' L'' l) : Ext L L'' (k + l) := ⟨h.pre.trans h'.pre, h'.inv, by have := h.len; have := h'.len; omega⟩
theorem Ext.mono {L' : List Nd} {k l : Nat} (h : Ext L L' k) (hk : k ≤ l) : Ext L L' l := ⟨h.pre, h.inv, by have := h.len; omega⟩
theorem pre_get {α : Type} {l l' : List α} (h : l <+: l') {i : Nat} {a : α} (hi : l[i]? = some a) : l'[i]? = some a := by
 obtain ⟨t, rfl⟩ := h
 rw [List.getElem?_append_left (List.getElem?_eq_some_iff.1 hi).1]
 exact hi
theorem Ext.get {L' : List Nd} {k i : Nat} {a : Nd} (h : Ext L L' k) (hi : L[i]? = some a) : L'[i]? = some a := pre_get h.pre hi
theorem put_ext (h : Inv L) {a : Nd} (ha : a.good L.length) : Ext L (putN L a).2 1 ∧ ∃ i : Nat, (putN L a).1 = i ∧ (putN L a).2[i]? = some a := by
 by_cases hm : a ∈ L
 ·have e : (putN L a).2 = L := by show insN L a = L; rw [insN, if_pos hm]
  refine ⟨by rw [e]; exact .refl h 1, L.idxOf a, rfl, ?_⟩
  rw [e, List.getElem?_eq_getElem (List.idxOf_lt_length_of_mem hm), List.getElem_idxOf]
 ·have e : (putN L a).2 = L ++ [a] := by show insN L a = _; rw [insN, if_neg hm]
  have e1 : (putN L a).1 = (L.length : Nat) := by show ((L.idxOf a : Nat) : Int) = _; rw [idxOf_out hm]
  refine ⟨⟨by rw [e]; exact List.prefix_append _ _, ?_, by rw [e]; simp⟩, L.length, e1, by rw [e]; simp⟩
  rw [e]
  refine ⟨fun i x hx => ?_, ?_⟩
  ·by_cases hi : i < L.length
   ·rw [List.getElem?_append_left hi] at hx; exact h.good i x hx
   ·have hlt := (List.getElem?_eq_some_iff.1 hx).1
    simp at hlt
    obtain rfl : i = L.length := by omega
    simp at hx
    subst hx; exact ha
  ·rw [List.nodup_append]
   exact ⟨h.one, by simp, fun x hx y hy e' => by simp at hy; rw [← hy, ← e'] at hm; exact hm hx⟩
theorem sum_good {f : List Nat} (hf : f.length = 35) (hw : ∀ c ∈ f, c < 4294967296) (n : Nat) : (sumNd f).good n := ⟨⟨hf, rfl, rfl⟩, ⟨hw, fun h => by cases h⟩, .inl rfl⟩
theorem zeros_lt (n : Nat) : ∀ c ∈ zeros n, c < 4294967296 := fun c hc => by rw [zeros, List.mem_replicate] at hc; omega
theorem const_lt {c : Nat} (hc : c < 4294967296) : ∀ x ∈ c :: zeros 34, x < 4294967296 := fun x hx => by
 rcases List.mem_cons.1 hx with rfl | hx
 ·exact hc
 ·exact zeros_lt 34 x hx
theorem varL_lt (i : Nat) : ∀ x ∈ varL i, x < 4294967296 := fun x hx => by
 rw [varL] at hx
 rcases List.mem_or_eq_of_mem_set hx with hx | rfl
 ·exact zeros_lt 35 x hx
 ·omega
theorem varL_len (i : Nat) : (varL i).length = 35 := by simp [varL]
theorem zip_lt {o : Nat → Nat → Nat} (ho : ∀ a b, o a b < 4294967296) : ∀ (f g : List Nat), ∀ x ∈ List.zipWith o f g, x < 4294967296
 | [], _, x, hx => by simp at hx
 | _ :: _, [], x, hx => by simp at hx
 | a :: f, b :: g, x, hx => by
  simp only [List.zipWith_cons_cons, List.mem_cons] at hx
  rcases hx with rfl | hx
  ·exact ho a b
  ·exact zip_lt ho f g x hx
theorem fAdd_lt (f g : List Nat) : ∀ x ∈ fAdd f g, x < 4294967296 := zip_lt (fun a b => Nat.mod_lt _ (by decide)) f g
theorem fSub_lt (f g : List Nat) : ∀ x ∈ fSub f g, x < 4294967296 := zip_lt (fun a b => Nat.mod_lt _ (by decide)) f g
theorem fMul_lt (f : List Nat) (k : Nat) : ∀ x ∈ fMul f k, x < 4294967296 := fun x hx => by
 obtain ⟨y, _, rfl⟩ := List.mem_map.1 hx
 exact Nat.mod_lt _ (by decide)
theorem fAdd_len {f g : List Nat} (hf : f.length = 35) (hg : g.length = 35) : (fAdd f g).length = 35 := by simp [fAdd, hf, hg]
theorem fSub_len {f g : List Nat} (hf : f.length = 35) (hg : g.length = 35) : (fSub f g).length = 35 := by simp [fSub, hf, hg]
theorem fMul_len {f : List Nat} (k : Nat) (hf : f.length = 35) : (fMul f k).length = 35 := by simp [fMul, hf]
theorem bitNd_back {fv : List Int} {ft : List Nat} (h : ∀ v ∈ fv, 0 ≤ v) (hl : ft.length = 2 ^ fv.length) : ((bitNd fv ft).vars.take (bitNd fv ft).n).map (fun (x : Nat) => (x : Int)) = fv ∧ (bitNd fv ft).tab.take (2 ^ (bitNd fv ft).n) = ft := by
 constructor
 ·show ((fv.map Int.toNat ++ zeros (4 - fv.length)).take fv.length).map _ = fv
  rw [List.take_left' (by simp), List.map_map]
  conv => rhs; rw [← List.map_id fv]
  exact List.map_congr_left fun v hv => by have := h v hv; simp; omega
 ·show (ft ++ zeros (16 - ft.length)).take (2 ^ fv.length) = ft
  rw [← hl]; exact List.take_left' rfl
theorem right_nn {fv : List Int} {ft : List Nat} (h : Right fv ft) : ∀ v ∈ fv, 0 ≤ v := fun v hv => by
 obtain ⟨j, hj, rfl⟩ := List.getElem_of_mem hv
 obtain ⟨w, hw, hw0, _⟩ := h.2.2 j hj
 rw [List.getElem?_eq_getElem hj] at hw
 cases hw; exact hw0
theorem bit_good {fv : List Int} {ft : List Nat} (h : Right fv ft) (hw : ∀ c ∈ ft, c < 4294967296) (n : Nat) : (bitNd fv ft).good n := by
 have h4 := h.1
 have hl : ft.length ≤ 16 := by rw [h.2.1]; exact Nat.pow_le_pow_right (n := 2) (by decide) h4
 obtain ⟨e1, e2⟩ := bitNd_back (right_nn h) h.2.1
 refine ⟨⟨rfl, by simp [bitNd]; omega, by simp [bitNd]; omega⟩, ⟨zeros_lt 35, fun _ => ⟨?_, h4, ?_⟩⟩, .inr (.inl rfl)⟩
 ·rw [e1, e2]; exact h
 ·intro w hw'
  simp only [bitNd, List.mem_append] at hw'
  rcases hw' with h | h
  ·exact hw w h
  ·exact zeros_lt _ w h
theorem asB_var : ∀ i, i < 34 → asB (sumNd (varL i)) = some ([(i : Int)], [0, ones]) ∧ asB (sumNd (fSub (ones :: zeros 34) (varL i))) = some ([(i : Int)], [ones, 0]) := by
 decide +kernel
theorem bits_ext (h : Inv L) {fv : List Int} {ft : List Nat} (hR : Right fv ft) (hw : ∀ c ∈ ft, c < 4294967296) : Ext L (bitsN L fv ft).2 1 ∧ ∃ (i : Nat) (a : Nd), (bitsN L fv ft).1 = i ∧ (bitsN L fv ft).2[i]? = some a ∧ asB a = some (fv, ft) := by
 have gen : bitsN L fv ft = putN L (bitNd fv ft) → Ext L (bitsN L fv ft).2 1 ∧ ∃ (i : Nat) (a : Nd), (bitsN L fv ft).1 = i ∧ (bitsN L fv ft).2[i]? = some a ∧ asB a = some (fv, ft) := fun e => by
  obtain ⟨e1, e2⟩ := bitNd_back (right_nn hR) hR.2.1
  obtain ⟨h1, i, h2, h3⟩ := put_ext h (bit_good hR hw _)
  rw [e]
  exact ⟨h1, i, _, h2, h3, by rw [asB, if_pos (show (bitNd fv ft).kind = 1 from rfl), e1, e2]⟩
 match fv, hR, gen with
 | [], hR, gen =>
  obtain ⟨c, rfl⟩ : ∃ c, ft = [c] := by match ft, hR.2.1 with | [c], _ => exact ⟨c, rfl⟩
  obtain ⟨h1, i, h2, h3⟩ := put_ext h (sum_good (f := c :: zeros 34) (by simp) (const_lt (hw c (by simp))) _)
  exact ⟨h1, i, _, h2, h3, by simp [asB, sumNd, Nd0, fConst]⟩
 | [v], hR, gen =>
  obtain ⟨w, hv, hv0, hv34, _⟩ := hR.2.2 0 (by simp)
  obtain rfl : v = w := by simpa using hv
  obtain ⟨n, rfl⟩ := Int.eq_ofNat_of_zero_le hv0
  obtain ⟨a1, a2⟩ := asB_var n (by omega)
  by_cases e1 : ft = [0, ones]
  ·have e : bitsN L [(n : Int)] ft = putN L (sumNd (varL n)) := by rw [e1]; rfl
   obtain ⟨h1, i, h2, h3⟩ := put_ext h (sum_good (varL_len n) (varL_lt n) _)
   rw [e]
   exact ⟨h1, i, _, h2, h3, by rw [a1, e1]⟩
  ·by_cases e2 : ft = [ones, 0]
   ·have e : bitsN L [(n : Int)] ft = putN L (sumNd (fSub (ones :: zeros 34) (varL n))) := by rw [e2]; rfl
    obtain ⟨h1, i, h2, h3⟩ := put_ext h (sum_good (fSub_len (f := ones :: zeros 34) rfl (varL_len n)) (fSub_lt _ _) _)
    rw [e]
    exact ⟨h1, i, _, h2, h3, by rw [a2, e2]⟩
   ·exact gen (by simp only [bitsN, e1, e2, if_false])
 | u :: v :: t, hR, gen => exact gen rfl
end Go.Ev
/- Arithmetic in a book. -/
namespace Go.Ev
open Go Go.RowKit
variable {G : Tbl}
set_option maxRecDepth 10000
set_option maxHeartbeats 4000000
set_option linter.unusedSimpArgs false
set_option linter.unusedVariables false
variable {H : Heap} {b z m : Nat} {L : List Nd}
theorem HShut.app2 {H : Heap} (h : HShut H) {r : Heap} (hr : ∀ n, (H ++ r).length ≤ n → r.map (Option.map (Blk.cl n)) = r) : HShut (H ++ r) := by
 intro m hm
 rw [List.map_append, hr m hm, h m (by rw [List.length_append] at hm; omega)]
theorem Bk.app2 (h : Bk H b z m L) {r : Heap} (hr : ∀ n, (H ++ r).length ≤ n → r.map (Option.map (Blk.cl n)) = r) : Bk (H ++ r) b z m L :=
 ⟨by rw [List.getElem?_append_left h.lb]; exact h.hb, by rw [List.getElem?_append_left h.lz]; exact h.hz, by rw [List.getElem?_append_left h.lm]; exact h.hm, h.shut.app2 hr, h.ok, h.small⟩
theorem Bk.to (h : Bk H b z m L) {L' : List Nd} (hi : Inv L') (hs : L'.length ≤ 1000000) : Bk (upd H b z m L') b z m L' := h.upd_bk hi.ok hs
theorem upd_other (h : Bk H b z m L) {L' : List Nd} {p : Nat} {c : List V} (hp : H[p]? = some (some (.cells c))) (hb : p ≠ b) : (upd H b z m L')[p]? = some (some (.cells c)) := by
 unfold upd
 have h1 : m ≠ p := fun e => by subst e; rw [h.hm] at hp; simp at hp
 have h2 : z ≠ p := fun e => by subst e; rw [h.hz] at hp; simp at hp
 rw [List.getElem?_set_ne h1, List.getElem?_set_ne h2, List.getElem?_set_ne (Ne.symm hb)]
 exact hp
def swapsB (kind : Int) : Bool := decide (kind ≠ 20 ∧ kind ≠ 52 ∧ kind ≠ 100 ∧ kind ≠ 116)
def deedNd (kind : Int) (x y : Nat) : Nd := { Nd0 with kind := 2, op := kind, x := x, y := y }
noncomputable def bAlu2 (L : List Nd) (kind : Int) (x y : Nat) (a c : Nd) : Int × List Nd :=
 let s1 := sumsN L kind a c
 let s2 := bothN s1.2.2 kind a c
 let s3 := plainN kind (constA c) x y
 let s4 := plainN kind (constA a) y x
 if s1.2.1 = true then (s1.1, s1.2.2) else if s2.2.1 = true then (s2.1, s2.2.2) else if s3.2 = true then (s3.1, s1.2.2)
 else if swapsB kind = true ∧ s4.2 = true then (s4.1, s1.2.2)
 else if swapsB kind = true ∧ y < x then putN s1.2.2 (deedNd kind y x) else putN s1.2.2 (deedNd kind x y)
noncomputable def bAlu (L : List Nd) (kind x y : Int) : Int × List Nd :=
 if (doW kind 0 1).2 = true ∧ hasI L x = true ∧ hasI L y = true then (match L[x.toNat]?, L[y.toNat]? with | some a, some c => bAlu2 L kind x.toNat y.toNat a c | _, _ => (-1, L)) else (-1, L)
theorem bothN_L (L : List Nd) (kind : Int) (a c : Nd) (h : (bothN L kind a c).2.1 = false) : (bothN L kind a c).2.2 = L := by
 cases e1 : asB a with
 | none => simp [bothN, e1, noR]
 | some p =>
  cases e2 : asB c with
  | none => simp [bothN, e1, e2, noR]
  | some q =>
   cases e3 : bdo kind p q with
   | none => simp [bothN, e1, e2, e3, noR]
   | some r => simp [bothN, e1, e2, e3, okP] at h
section
variable {K : Heap} {kind : Int} {x y p0 p1 p2 p3 p4 : Nat} {a c : Nd}
theorem Alu1_ok [HasWd G] [HasAffine G] [HasSym G] (h : Bk K b z m L) (hs : L.length < 1000000) (hx : L[x]? = some a) (hy : L[y]? = some c) (ha : a.wf) (hc : c.wf)
  (h0 : K[p0]? = some (some (.cells [.ptr b 0]))) (h1 : K[p1]? = some (some (.cells [.int .i64 kind]))) (h2 : K[p2]? = some (some (.cells [.int .i64 x]))) (h3 : K[p3]? = some (some (.cells [.int .i64 y]))) :
  SF G 270 [.ptr p0 0, .ptr p1 0, .ptr p2 0, .ptr p3 0] K (.tup [.int .i64 (sumsN L kind a c).1, .bool (sumsN L kind a c).2.1]) (upd K b z m (sumsN L kind a c).2.2) := by
 refine SF_of HasSym.h_sym_Book_Alu_1 (Nat.le_of_ble_eq_true rfl) ?_
 have hbk := h.back (sumsN L kind a c).2.2 []
 simp at hbk
 simp [h0, h1, h2, h3]
 refine callSF_of (sums_ok kind x y a c h hs hx hy ha hc) ?_
 simp [hbk]
theorem Alu2_ok [HasAffine G] [HasBits G] [HasSym G] (h : Bk K b z m L) (hs : L.length < 1000000) (hx : L[x]? = some a) (hy : L[y]? = some c) (ha : a.wf) (hc : c.wf)
  (h0 : K[p0]? = some (some (.cells [.ptr b 0]))) (h1 : K[p1]? = some (some (.cells [.int .i64 kind]))) (h2 : K[p2]? = some (some (.cells [.int .i64 x]))) (h3 : K[p3]? = some (some (.cells [.int .i64 y]))) :
  SF G 271 [.ptr p0 0, .ptr p1 0, .ptr p2 0, .ptr p3 0] K (.tup [.int .i64 (bothN L kind a c).1, .bool (bothN L kind a c).2.1]) (upd K b z m (bothN L kind a c).2.2) := by
 refine SF_of HasSym.h_sym_Book_Alu_2 (Nat.le_of_ble_eq_true rfl) ?_
 have hbk := h.back (bothN L kind a c).2.2 []
 simp at hbk
 simp [h0, h1, h2, h3]
 refine callSF_of (Bboth_ok kind x y a c h hs hx hy ha hc) ?_
 simp [hbk]
theorem Alu3_ok [HasAffine G] [HasSym G] (h : Bk K b z m L)
  (h0 : K[p0]? = some (some (.cells [.ptr b 0]))) (h1 : K[p1]? = some (some (.cells [.int .i64 kind]))) (h2 : K[p2]? = some (some (.cells [.int .i64 x]))) (h3 : K[p3]? = some (some (.cells [.int .i64 y]))) :
  SF G 272 [.ptr p0 0, .ptr p1 0, .ptr p2 0, .ptr p3 0] K (.tup [.int .i64 (plainN kind (constI L y) x y).1, .bool (plainN kind (constI L y) x y).2]) K := by
 refine SF_of HasSym.h_sym_Book_Alu_3 (Nat.le_of_ble_eq_true rfl) ?_
 have hbk := h.shut.self
 simp [h0, h1, h2, h3]
 refine callSF_of (plain_ok' kind x y h) ?_
 simp [hbk]
theorem Alu4_ok [HasAffine G] [HasSym G] (sw : Bool) (h : Bk K b z m L) (h4 : K[p4]? = some (some (.cells [.bool sw])))
  (h0 : K[p0]? = some (some (.cells [.ptr b 0]))) (h1 : K[p1]? = some (some (.cells [.int .i64 kind]))) (h2 : K[p2]? = some (some (.cells [.int .i64 x]))) (h3 : K[p3]? = some (some (.cells [.int .i64 y]))) :
  SF G 273 [.ptr p4 0, .ptr p0 0, .ptr p1 0, .ptr p3 0, .ptr p2 0] K (.tup [.int .i64 (if sw = true then (plainN kind (constI L x) y x).1 else 0), .bool (sw && (plainN kind (constI L x) y x).2)]) K := by
 refine SF_of HasSym.h_sym_Book_Alu_4 (Nat.le_of_ble_eq_true rfl) ?_
 have hbk := h.shut.self
 cases sw
 ·simp [h0, h1, h2, h3, h4, hbk]
 ·simp [h0, h1, h2, h3, h4]
  refine callSF_of (plain_ok' kind y x h) ?_
  simp [hbk]
end
theorem sums_ext {kind : Int} {a c : Nd} (h : Inv L) (ha : a.ok) (hc : c.ok) (haw : a.wf) (hcw : c.wf) : Ext L (sumsN L kind a c).2.2 1 := by
 have no : Ext L (noR L).2.2 1 := .refl h 1
 have yes : ∀ f : List Nat, f.length = 35 → (∀ x ∈ f, x < 4294967296) → Ext L (okP (putN L (sumNd f))).2.2 1 := fun f hf hw => (put_ext h (sum_good hf hw _)).1
 rw [sumsN]
 split
 ·split
  ·exact yes _ (fAdd_len ha.1 hc.1) (fAdd_lt _ _)
  ·split
   ·exact yes _ (fSub_len ha.1 hc.1) (fSub_lt _ _)
   ·split
    ·rename_i u v eu ev
     split
     ·exact yes _ (fMul_len _ ha.1) (fMul_lt _ _)
     ·split
      ·exact yes _ (fMul_len _ ha.1) (fMul_lt _ _)
      ·exact (put_ext h (sum_good (by simp) (const_lt (doW32 kind (fConst_lt eu haw.1) (fConst_lt ev hcw.1))) _)).1
    ·split
     ·exact yes _ (fMul_len _ ha.1) (fMul_lt _ _)
     ·split
      ·exact yes _ (fMul_len _ ha.1) (fMul_lt _ _)
      ·exact no
    ·split
     ·exact yes _ (fMul_len _ hc.1) (fMul_lt _ _)
     ·exact no
    ·exact no
 ·exact no
theorem constI_at {y : Nat} {c : Nd} (hy : L[y]? = some c) : constI L y = constA c := by
 have hl := (List.getElem?_eq_some_iff.1 hy).1
 have hh : hasI L y = true := by simp [hasI]; exact hl
 simp [constI, hh, hy]
theorem callVSF_of {f : Nat} {cap args : List V} {r : V} {H' : Heap} {base : Nat} {d : Option Nat} {os : List SOper} {K : List Kt} {e : Env} {Q : Ex → Env → Heap → Prop} (h : SF G f (args ++ cap) H r H')
  (hr : WO G base os K (e.put d r) H' Q) : callV G false (.fn f cap) args base d os K e H Q := by
 obtain ⟨r1, H1, hb, hr1, ht⟩ := h
 refine callV_of hb (by simp) ?_
 rw [hr1, ht]
 exact hr
theorem BAlu_ok [HasWd G] [HasAffine G] [HasBits G] [HasSym G] (kind x y : Int) (h : Bk H b z m L) (hi : Inv L) (hs : L.length < 999990) : BF G 274 [.int .i64 kind, .int .i64 x, .int .i64 y] H b z m (bAlu L kind x y) := by
 refine SF_of HasSym.h_sym_Book_Alu (Nat.le_of_ble_eq_true rfl) ?_
 obtain ⟨B0, hB0⟩ : ∃ B0 : Heap, B0 = [some (.cells [.ptr b 0]), some (.cells [.int .i64 kind]), some (.cells [.int .i64 x]), some (.cells [.int .i64 y])] := ⟨_, rfl⟩
 have hbl : ∀ n, H.length ≤ n → b < n := fun n hn => by have := h.lb; omega
 have h1 : Bk (H ++ [some (.cells [.ptr b 0]), some (.cells [.int .i64 kind]), some (.cells [.int .i64 x]), some (.cells [.int .i64 y])]) b z m L := h.app2 fun n hn => by simp [Blk.cl, clL, V.cl]; exact hbl n (by simp at hn; omega)
 have hs1 := h1.shut.self
 have hsh := h.shut.back
 have hus := h.upd_self
 simp at hs1
 have hdo := doW_ok (G := G) (by infer_instance) kind 0 1 (by decide) (by decide)
 simp at hdo
 have hno : ∀ p : Prop, bAlu L kind x y = (-1, L) → p → (bAlu L kind x y).1 = -1 ∧ upd H b z m (bAlu L kind x y).2 = H := fun p e _ => by rw [e]; exact ⟨rfl, hus⟩
 simp [ap0, apk]
 refine callP_of hdo ?_
 simp [ap0, apk]
 cases hok : (doW kind 0 1).2 with
 | false =>
  have hR : bAlu L kind x y = (-1, L) := by rw [bAlu, if_neg (by simp [hok])]
  simp [hR, hus, hsh, ap0, apk]
 | true =>
  simp [ap0, apk]
  refine callSF_of (hasF_ok x h1) ?_
  cases hx : hasI L x with
  | false =>
   have hR : bAlu L kind x y = (-1, L) := by rw [bAlu, if_neg (by simp [hx])]
   simp [hR, hus, hsh, ap0, apk]
  | true =>
   simp [ap0, apk]
   refine callSF_of (hasF_ok y h1) ?_
   cases hy : hasI L y with
   | false =>
    have hR : bAlu L kind x y = (-1, L) := by rw [bAlu, if_neg (by simp [hy])]
    simp [hR, hus, hsh, ap0, apk]
   | true =>
    obtain ⟨hx0, hx1⟩ : 0 ≤ x ∧ x < L.length := by simpa [hasI] using hx
    obtain ⟨hy0, hy1⟩ : 0 ≤ y ∧ y < L.length := by simpa [hasI] using hy
    obtain ⟨xn, rfl⟩ := Int.eq_ofNat_of_zero_le hx0
    obtain ⟨yn, rfl⟩ := Int.eq_ofNat_of_zero_le hy0
    obtain ⟨a, ha⟩ : ∃ a, L[xn]? = some a := ⟨_, get_in (by omega)⟩
    obtain ⟨c, hc⟩ : ∃ c, L[yn]? = some c := ⟨_, get_in (by omega)⟩
    have hR : bAlu L kind xn yn = bAlu2 L kind xn yn a c := by rw [bAlu, if_pos ⟨hok, hx, hy⟩]; simp [ha, hc]
    rw [hR]
    obtain ⟨sw, hsw⟩ : ∃ sw, sw = swapsB kind := ⟨_, rfl⟩
    have h2 : Bk (H ++ [some (.cells [.ptr b 0]), some (.cells [.int .i64 kind]), some (.cells [.int .i64 xn]), some (.cells [.int .i64 yn]), some (.cells [.bool sw])]) b z m L := h.app2 fun n hn => by simp [Blk.cl, clL, V.cl]; exact hbl n (by simp at hn; omega)
    obtain ⟨C, hC⟩ : ∃ C : List V, C = [.fn 270 [.ptr H.length 0, .ptr (H.length + 1) 0, .ptr (H.length + 2) 0, .ptr (H.length + 3) 0], .fn 271 [.ptr H.length 0, .ptr (H.length + 1) 0, .ptr (H.length + 2) 0, .ptr (H.length + 3) 0],
     .fn 272 [.ptr H.length 0, .ptr (H.length + 1) 0, .ptr (H.length + 2) 0, .ptr (H.length + 3) 0], .fn 273 [.ptr (H.length + 4) 0, .ptr H.length 0, .ptr (H.length + 1) 0, .ptr (H.length + 3) 0, .ptr (H.length + 2) 0]] := ⟨_, rfl⟩
    have hs2 := h2.shut.self
    simp at hs2
    have c5 : kind = 20 ∧ sw = false ∨ kind = 52 ∧ sw = false ∨ kind = 100 ∧ sw = false ∨ kind = 116 ∧ sw = false ∨ (kind ≠ 20 ∧ kind ≠ 52 ∧ kind ≠ 100 ∧ kind ≠ 116) ∧ sw = true := by
     by_cases a1 : kind = 20
     ·simp [a1, hsw, swapsB]
     by_cases a2 : kind = 52
     ·simp [a2, hsw, swapsB]
     by_cases a3 : kind = 100
     ·simp [a3, hsw, swapsB]
     by_cases a4 : kind = 116
     ·simp [a4, hsw, swapsB]
     simp [a1, a2, a3, a4, hsw, swapsB]
    have n20 : kind ≠ 20 → (kind != 20) = true := fun h => bneT h
    have n52 : kind ≠ 52 → (kind != 52) = true := fun h => bneT h
    have n100 : kind ≠ 100 → (kind != 100) = true := fun h => bneT h
    have n116 : kind ≠ 116 → (kind != 116) = true := fun h => bneT h
    have hcC : ∀ n, H.length + 6 ≤ n → clL n C = C := fun n hn => by
     rw [hC]
     simp [clL, V.cl, show H.length < n by omega, show H.length + 1 < n by omega, show H.length + 2 < n by omega, show H.length + 3 < n by omega, show H.length + 4 < n by omega]
    have h3 : Bk (H ++ [some (.cells [.ptr b 0]), some (.cells [.int .i64 kind]), some (.cells [.int .i64 xn]), some (.cells [.int .i64 yn]), some (.cells [.bool sw]), some (.cells C)]) b z m L := h.app2 fun n hn => by simp at hn; simp [Blk.cl, clL, V.cl, hcC n (by omega)]; exact hbl n (by omega)
    obtain ⟨BB, hBB⟩ : ∃ BB : List Nd → Heap, ∀ L', BB L' = upd H b z m L' ++ [some (.cells [.ptr b 0]), some (.cells [.int .i64 kind]), some (.cells [.int .i64 xn]), some (.cells [.int .i64 yn]), some (.cells [.bool sw]), some (.cells C)] := ⟨_, fun _ => rfl⟩
    have bL : BB L = H ++ [some (.cells [.ptr b 0]), some (.cells [.int .i64 kind]), some (.cells [.int .i64 xn]), some (.cells [.int .i64 yn]), some (.cells [.bool sw]), some (.cells C)] := by rw [hBB, hus]
    have bU : ∀ L' : List Nd, BB L' = upd (H ++ [some (.cells [.ptr b 0]), some (.cells [.int .i64 kind]), some (.cells [.int .i64 xn]), some (.cells [.int .i64 yn]), some (.cells [.bool sw]), some (.cells C)]) b z m L' := fun L' => by rw [h.upd_app, hBB]
    have bB : ∀ L' : List Nd, Inv L' → L'.length ≤ 1000000 → Bk (BB L') b z m L' := fun L' hi' hs' => by rw [bU]; exact h3.to hi' hs'
    have bUU : ∀ L1 L2 : List Nd, upd (BB L1) b z m L2 = BB L2 := fun L1 L2 => by rw [bU, bU, h3.upd_upd]
    have bl : ∀ L' : List Nd, (BB L').length = H.length + 6 := fun L' => by rw [hBB]; simp [upd_len]
    have g0 : ∀ (L' : List Nd) (r : Heap), (upd H b z m L' ++ r)[H.length]? = r[0]? := fun L' r => by rw [← upd_len H b z m L', ap0]
    have gk : ∀ (L' : List Nd) (r : Heap) (k : Nat), (upd H b z m L' ++ r)[H.length + k]? = r[k]? := fun L' r k => by
     have := apk (upd H b z m L') r k
     rwa [upd_len] at this
    have sk : ∀ (L' : List Nd) (r : Heap) (k : Nat) (x : Option Blk), (upd H b z m L' ++ r).set (H.length + k) x = upd H b z m L' ++ r.set k x := fun L' r k x => by
     have := setk (upd H b z m L') r k x
     rwa [upd_len] at this
    have q0 : ∀ L', (BB L')[H.length]? = some (some (.cells [.ptr b 0])) := fun L' => by rw [hBB, g0]; rfl
    have q1 : ∀ L', (BB L')[H.length + 1]? = some (some (.cells [.int .i64 kind])) := fun L' => by rw [hBB, gk]; rfl
    have q2 : ∀ L', (BB L')[H.length + 2]? = some (some (.cells [.int .i64 xn])) := fun L' => by rw [hBB, gk]; rfl
    have q3 : ∀ L', (BB L')[H.length + 3]? = some (some (.cells [.int .i64 yn])) := fun L' => by rw [hBB, gk]; rfl
    have q4 : ∀ L', (BB L')[H.length + 4]? = some (some (.cells [.bool sw])) := fun L' => by rw [hBB, gk]; rfl
    have q5 : ∀ L', (BB L')[H.length + 5]? = some (some (.cells C)) := fun L' => by rw [hBB, gk]; rfl
    have hao := hi.good xn a ha
    have hco := hi.good yn c hc
    have e1 := sums_ext (kind := kind) hi hao.1 hco.1 hao.2.1 hco.2.1
    obtain ⟨L1, hL1⟩ : ∃ L1, L1 = (sumsN L kind a c).2.2 := ⟨_, rfl⟩
    rw [← hL1] at e1
    have l1 := e1.len
    have k0 := bB L hi (by omega)
    have k1 := bB L1 e1.inv (by omega)
    have ha1 := e1.get ha
    have hc1 := e1.get hc
    have cx := constI_at ha1
    have cy := constI_at hc1
    have tr : ∀ (L' : List Nd), Inv L' → L'.length ≤ 1000000 → ∀ r, trunc (H.length + 6) (BB L' ++ r) = BB L' := fun L' hi' hs' r => by
     have := (bB L' hi' hs').shut.back r
     rwa [bl] at this
    have tr0 := tr L hi (by omega)
    have tr1 := tr L1 e1.inv (by omega)
    have ts0 : trunc (H.length + 6) (BB L) = BB L := by simpa using tr0 []
    have ts1 : trunc (H.length + 6) (BB L1) = BB L1 := by simpa using tr1 []
    have fin : ∀ L' r, trunc H.length (BB L' ++ r) = upd H b z m L' := fun L' r => by rw [hBB, List.append_assoc]; exact h.back L' _
    have fin0 : ∀ L', trunc H.length (BB L') = upd H b z m L' := fun L' => by simpa using fin L' []
    obtain ⟨Ls, hLs0, hLs⟩ : ∃ Ls : Nat → List Nd, Ls 0 = L ∧ ∀ i, Ls (i + 1) = L1 := ⟨fun i => match i with | 0 => L | _ + 1 => L1, rfl, fun _ => rfl⟩
    have C0 : C.take 1 = [.fn 270 [.ptr H.length 0, .ptr (H.length + 1) 0, .ptr (H.length + 2) 0, .ptr (H.length + 3) 0]] := by rw [hC]; rfl
    have C1 : C.tail.take 1 = [.fn 271 [.ptr H.length 0, .ptr (H.length + 1) 0, .ptr (H.length + 2) 0, .ptr (H.length + 3) 0]] := by rw [hC]; rfl
    have C2 : (C.drop 2).take 1 = [.fn 272 [.ptr H.length 0, .ptr (H.length + 1) 0, .ptr (H.length + 2) 0, .ptr (H.length + 3) 0]] := by rw [hC]; rfl
    have C3 : (C.drop 3).take 1 = [.fn 273 [.ptr (H.length + 4) 0, .ptr H.length 0, .ptr (H.length + 1) 0, .ptr (H.length + 3) 0, .ptr (H.length + 2) 0]] := by rw [hC]; rfl
    have lC : C.length = 4 := by rw [hC]; rfl
    have A1 := Alu1_ok (G := G) (kind := kind) k0 (by omega) ha hc hao.2.1 hco.2.1 (q0 L) (q1 L) (q2 L) (q3 L)
    have A2 := Alu2_ok (G := G) (kind := kind) k1 (by omega) ha1 hc1 hao.2.1 hco.2.1 (q0 L1) (q1 L1) (q2 L1) (q3 L1)
    have A3 := Alu3_ok (G := G) (kind := kind) k1 (q0 L1) (q1 L1) (q2 L1) (q3 L1)
    have A4 := Alu4_ok (G := G) (kind := kind) sw k1 (q4 L1) (q0 L1) (q1 L1) (q2 L1) (q3 L1)
    rw [← hL1, bUU] at A1
    rw [bUU] at A2
    rw [cy] at A3
    rw [cx] at A4
    have hLs1 : Ls 1 = L1 := hLs 0
    have hLs2 : Ls 2 = L1 := hLs 1
    have hLs3 : Ls 3 = L1 := hLs 2
    have hLs4 : Ls 4 = L1 := hLs 3
    have a01 : addI .i64 0 1 = 1 := rfl
    have a11 : addI .i64 1 1 = 2 := rfl
    have a21 : addI .i64 2 1 = 3 := rfl
    have a31 : addI .i64 3 1 = 4 := rfl
    have hfill : ∀ (u w : Nat) (r : List (Nat × V)), fillC (mkE ((80, .int .i64 w) :: (79, .int .i64 u) :: (78, .int .i64 kind) :: r)) Nd0.cs [(0, 1, .c (.int .i64 2)), (57, 1, .t 78), (58, 1, .t 79), (59, 1, .t 80)] = some (deedNd kind u w).cs := fun _ _ _ => rfl
    have hd := h.to e1.inv (by omega)
    have done : ∀ u w : Nat, bAlu2 L kind xn yn a c = putN L1 (deedNd kind u w) →
      SF G 259 [.ptr b 0, .agg (deedNd kind u w).cs] (upd H b z m L1 ++ [some (.cells [.ptr b 0]), some (.cells [.int .i64 kind]), some (.cells [.int .i64 u]), some (.cells [.int .i64 w]), some (.cells [.bool sw]), some (.cells C)]) (.int .i64 (bAlu2 L kind xn yn a c).1)
       (upd H b z m (bAlu2 L kind xn yn a c).2 ++ [some (.cells [.ptr b 0]), some (.cells [.int .i64 kind]), some (.cells [.int .i64 u]), some (.cells [.int .i64 w]), some (.cells [.bool sw]), some (.cells C)]) := fun u w hF => by
     have hb6 : Bk (upd H b z m L1 ++ [some (.cells [.ptr b 0]), some (.cells [.int .i64 kind]), some (.cells [.int .i64 u]), some (.cells [.int .i64 w]), some (.cells [.bool sw]), some (.cells C)]) b z m L1 :=
      hd.app2 fun n hn => by simp [upd_len] at hn; simp [Blk.cl, clL, V.cl, hcC n (by omega)]; exact hbl n (by omega)
     have := id_ok (G := G) (deedNd kind u w) ⟨rfl, rfl, rfl⟩ hb6 (by omega)
     rw [hd.upd_app, h.upd_upd] at this
     rw [hF]
     exact this
    have fin2 : ∀ (L' : List Nd) (r : Heap), trunc H.length (upd H b z m L' ++ r) = upd H b z m L' := fun L' r => h.back L' r
    rcases c5 with ⟨hk, hw⟩ | ⟨hk, hw⟩ | ⟨hk, hw⟩ | ⟨hk, hw⟩ | ⟨⟨z1, z2, z3, z4⟩, hw⟩
    case inr.inr.inr.inr => 
     simp [ap0, apk, n20 z1, n52 z2, n100 z3, n116 z4]
     rw [hw] at bL
     rw [← hC, ← bL]
     refine W_up 4 (fun i => [(4, .ptr H.length 0), (5, .ptr (H.length + 1) 0), (6, .ptr (H.length + 2) 0), (7, .ptr (H.length + 3) 0), (11, .ptr (H.length + 4) 0), (55, .rs (H.length + 5) 0 4 1), (56, .int .i64 4), (57, .int .i64 i)])
      (fun i => BB (Ls i)) (fun i => (0 < i → (sumsN L kind a c).2.1 = false) ∧ (1 < i → (bothN L1 kind a c).2.1 = false) ∧ (2 < i → (plainN kind (constA c) xn yn).2 = false) ∧ (3 < i → (sw && (plainN kind (constA a) yn xn).2) = false)) ?_ ?_
     ·simp [keep_cl, bl, ts0, hLs0]
     intro i hi4 hp
     by_cases hlt : i < 4
     ·rcases (show i = 0 ∨ i = 1 ∨ i = 2 ∨ i = 3 by omega) with rfl | rfl | rfl | rfl
      ·simp [hLs0, q5, C0, lC]
       refine callVSF_of A1 ?_
       cases es : (sumsN L kind a c).2.1 with
       | true =>
        have hF : bAlu2 L kind xn yn a c = ((sumsN L kind a c).1, L1) := by rw [hL1, bAlu2]; simp only [es, if_true]
        simp [hF, fin0]
       | false =>
        simp [hp, es, bl, keep_cl, ts1, hLs1, hLs2, hLs3, hLs4, a01, a11, a21, a31]
      ·have p1 := hp.1 (by omega)
       simp [hLs1, q5, C1, lC]
       refine callVSF_of A2 ?_
       cases es : (bothN L1 kind a c).2.1 with
       | true =>
        have hF : bAlu2 L kind xn yn a c = ((bothN L1 kind a c).1, (bothN L1 kind a c).2.2) := by rw [bAlu2]; simp only [p1, ← hL1, es, if_true, Bool.false_eq_true, if_false]
        simp [hF, fin0]
       | false =>
        have eL := bothN_L L1 kind a c es
        simp [p1, es, bl, keep_cl, ts1, hLs2, eL, a11]
      ·have p1 := hp.1 (by omega)
       have p2 := hp.2.1 (by omega)
       simp [hLs2, q5, C2, lC]
       refine callVSF_of A3 ?_
       cases es : (plainN kind (constA c) xn yn).2 with
       | true =>
        have hF : bAlu2 L kind xn yn a c = ((plainN kind (constA c) xn yn).1, L1) := by rw [bAlu2]; simp only [p1, p2, ← hL1, es, if_true, Bool.false_eq_true, if_false]
        simp [hF, fin0]
       | false =>
        simp [p1, p2, es, bl, keep_cl, ts1, hLs1, hLs2, hLs3, hLs4, a01, a11, a21, a31]
      ·have p1 := hp.1 (by omega)
       have p2 := hp.2.1 (by omega)
       have p3 := hp.2.2.1 (by omega)
       simp [hLs3, q5, C3, lC]
       refine callVSF_of A4 ?_
       cases es : (sw && (plainN kind (constA a) yn xn).2) with
       | true =>
        have es' : swapsB kind = true ∧ (plainN kind (constA a) yn xn).2 = true := by rw [← hsw]; simpa using es
        have hF : bAlu2 L kind xn yn a c = ((plainN kind (constA a) yn xn).1, L1) := by rw [bAlu2]; simp only [p1, p2, p3, ← hL1, es', if_true, Bool.false_eq_true, if_false, and_self]
        have esw : sw = true := by rw [hsw]; exact es'.1
        simp [hF, fin0, esw]
       | false =>
        simp [p1, p2, p3, es, bl, keep_cl, ts1, hLs1, hLs2, hLs3, hLs4, a01, a11, a21, a31]
        exact fun hh => by simpa [hh] using es
     ·obtain rfl : i = 4 := by omega
      have p1 := hp.1 (by omega)
      have p2 := hp.2.1 (by omega)
      have p3 := hp.2.2.1 (by omega)
      have p4 := hp.2.2.2 (by omega)
      have p4' : ¬ (swapsB kind = true ∧ (plainN kind (constA a) yn xn).2 = true) := fun hh => by rw [hsw, hh.1, hh.2] at p4; cases p4
      have esw : swapsB kind = true := by rw [← hsw]; exact hw
      have p5 : (plainN kind (constA a) yn xn).2 = false := by cases e : (plainN kind (constA a) yn xn).2 with | false => rfl | true => exact absurd ⟨esw, e⟩ p4'
      by_cases hyx : yn < xn
      ·have hF : bAlu2 L kind xn yn a c = putN L1 (deedNd kind yn xn) := by rw [bAlu2]; simp only [p1, p2, p3, ← hL1, p5, esw, hyx, if_true, Bool.false_eq_true, if_false, and_false, and_self]
       simp [hLs4, q4, q2, q3, q1, q0, hw, hyx]
       rw [hBB]
       simp [-fillC, nz, g0, gk, sk, hfill]
       refine callSF_of (done yn xn hF) ?_
       simp [fin2]
      ·have hF : bAlu2 L kind xn yn a c = putN L1 (deedNd kind xn yn) := by rw [bAlu2]; simp only [p1, p2, p3, ← hL1, p5, esw, hyx, if_true, Bool.false_eq_true, if_false, and_false, and_self]
       simp [hLs4, q4, q2, q3, q1, q0, hw, hyx]
       rw [hBB]
       simp [-fillC, nz, g0, gk, sk, hfill]
       refine callSF_of (done xn yn hF) ?_
       simp [fin2]
    case inl =>
     have u1 : (kind != 20) = false := bneF hk
     simp [ap0, apk, u1]
     rw [hw] at bL
     rw [← hC, ← bL]
     refine W_up 4 (fun i => [(4, .ptr H.length 0), (5, .ptr (H.length + 1) 0), (6, .ptr (H.length + 2) 0), (7, .ptr (H.length + 3) 0), (11, .ptr (H.length + 4) 0), (55, .rs (H.length + 5) 0 4 1), (56, .int .i64 4), (57, .int .i64 i)])
      (fun i => BB (Ls i)) (fun i => (0 < i → (sumsN L kind a c).2.1 = false) ∧ (1 < i → (bothN L1 kind a c).2.1 = false) ∧ (2 < i → (plainN kind (constA c) xn yn).2 = false) ∧ (3 < i → (sw && (plainN kind (constA a) yn xn).2) = false)) ?_ ?_
     ·simp [keep_cl, bl, ts0, hLs0]
     intro i hi4 hp
     by_cases hlt : i < 4
     ·rcases (show i = 0 ∨ i = 1 ∨ i = 2 ∨ i = 3 by omega) with rfl | rfl | rfl | rfl
      ·simp [hLs0, q5, C0, lC]
       refine callVSF_of A1 ?_
       cases es : (sumsN L kind a c).2.1 with
       | true =>
        have hF : bAlu2 L kind xn yn a c = ((sumsN L kind a c).1, L1) := by rw [hL1, bAlu2]; simp only [es, if_true]
        simp [hF, fin0]
       | false =>
        simp [hp, es, bl, keep_cl, ts1, hLs1, hLs2, hLs3, hLs4, a01, a11, a21, a31]
      ·have p1 := hp.1 (by omega)
       simp [hLs1, q5, C1, lC]
       refine callVSF_of A2 ?_
       cases es : (bothN L1 kind a c).2.1 with
       | true =>
        have hF : bAlu2 L kind xn yn a c = ((bothN L1 kind a c).1, (bothN L1 kind a c).2.2) := by rw [bAlu2]; simp only [p1, ← hL1, es, if_true, Bool.false_eq_true, if_false]
        simp [hF, fin0]
       | false =>
        have eL := bothN_L L1 kind a c es
        simp [p1, es, bl, keep_cl, ts1, hLs2, eL, a11]
      ·have p1 := hp.1 (by omega)
       have p2 := hp.2.1 (by omega)
       simp [hLs2, q5, C2, lC]
       refine callVSF_of A3 ?_
       cases es : (plainN kind (constA c) xn yn).2 with
       | true =>
        have hF : bAlu2 L kind xn yn a c = ((plainN kind (constA c) xn yn).1, L1) := by rw [bAlu2]; simp only [p1, p2, ← hL1, es, if_true, Bool.false_eq_true, if_false]
        simp [hF, fin0]
       | false =>
        simp [p1, p2, es, bl, keep_cl, ts1, hLs1, hLs2, hLs3, hLs4, a01, a11, a21, a31]
      ·have p1 := hp.1 (by omega)
       have p2 := hp.2.1 (by omega)
       have p3 := hp.2.2.1 (by omega)
       simp [hLs3, q5, C3, lC]
       refine callVSF_of A4 ?_
       cases es : (sw && (plainN kind (constA a) yn xn).2) with
       | true =>
        have es' : swapsB kind = true ∧ (plainN kind (constA a) yn xn).2 = true := by rw [← hsw]; simpa using es
        have hF : bAlu2 L kind xn yn a c = ((plainN kind (constA a) yn xn).1, L1) := by rw [bAlu2]; simp only [p1, p2, p3, ← hL1, es', if_true, Bool.false_eq_true, if_false, and_self]
        have esw : sw = true := by rw [hsw]; exact es'.1
        simp [hF, fin0, esw]
       | false =>
        simp [p1, p2, p3, es, bl, keep_cl, ts1, hLs1, hLs2, hLs3, hLs4, a01, a11, a21, a31]
        exact fun hh => by simpa [hh] using es
     ·obtain rfl : i = 4 := by omega
      have p1 := hp.1 (by omega)
      have p2 := hp.2.1 (by omega)
      have p3 := hp.2.2.1 (by omega)
      have p4 := hp.2.2.2 (by omega)
      have esw : swapsB kind = false := by rw [← hsw]; exact hw
      have hF : bAlu2 L kind xn yn a c = putN L1 (deedNd kind xn yn) := by rw [bAlu2]; simp only [p1, p2, p3, ← hL1, esw, Bool.false_eq_true, if_false, false_and]
      simp [hLs4, q4, q2, q3, q1, q0, hw]
      rw [hBB]
      simp [-fillC, nz, g0, gk, sk, hfill]
      refine callSF_of (done xn yn hF) ?_
      simp [fin2]
    case inr.inl =>
     have u1 : (kind != 20) = true := bneT (by omega)
     have u2 : (kind != 52) = false := bneF hk
     simp [ap0, apk, u1, u2]
     rw [hw] at bL
     rw [← hC, ← bL]
     refine W_up 4 (fun i => [(4, .ptr H.length 0), (5, .ptr (H.length + 1) 0), (6, .ptr (H.length + 2) 0), (7, .ptr (H.length + 3) 0), (11, .ptr (H.length + 4) 0), (55, .rs (H.length + 5) 0 4 1), (56, .int .i64 4), (57, .int .i64 i)])
      (fun i => BB (Ls i)) (fun i => (0 < i → (sumsN L kind a c).2.1 = false) ∧ (1 < i → (bothN L1 kind a c).2.1 = false) ∧ (2 < i → (plainN kind (constA c) xn yn).2 = false) ∧ (3 < i → (sw && (plainN kind (constA a) yn xn).2) = false)) ?_ ?_
     ·simp [keep_cl, bl, ts0, hLs0]
     intro i hi4 hp
     by_cases hlt : i < 4
     ·rcases (show i = 0 ∨ i = 1 ∨ i = 2 ∨ i = 3 by omega) with rfl | rfl | rfl | rfl
      ·simp [hLs0, q5, C0, lC]
       refine callVSF_of A1 ?_
       cases es : (sumsN L kind a c).2.1 with
       | true =>
        have hF : bAlu2 L kind xn yn a c = ((sumsN L kind a c).1, L1) := by rw [hL1, bAlu2]; simp only [es, if_true]
        simp [hF, fin0]
       | false =>
        simp [hp, es, bl, keep_cl, ts1, hLs1, hLs2, hLs3, hLs4, a01, a11, a21, a31]
      ·have p1 := hp.1 (by omega)
       simp [hLs1, q5, C1, lC]
       refine callVSF_of A2 ?_
       cases es : (bothN L1 kind a c).2.1 with
       | true =>
        have hF : bAlu2 L kind xn yn a c = ((bothN L1 kind a c).1, (bothN L1 kind a c).2.2) := by rw [bAlu2]; simp only [p1, ← hL1, es, if_true, Bool.false_eq_true, if_false]
        simp [hF, fin0]
       | false =>
        have eL := bothN_L L1 kind a c es
        simp [p1, es, bl, keep_cl, ts1, hLs2, eL, a11]
      ·have p1 := hp.1 (by omega)
       have p2 := hp.2.1 (by omega)
       simp [hLs2, q5, C2, lC]
       refine callVSF_of A3 ?_
       cases es : (plainN kind (constA c) xn yn).2 with
       | true =>
        have hF : bAlu2 L kind xn yn a c = ((plainN kind (constA c) xn yn).1, L1) := by rw [bAlu2]; simp only [p1, p2, ← hL1, es, if_true, Bool.false_eq_true, if_false]
        simp [hF, fin0]
       | false =>
        simp [p1, p2, es, bl, keep_cl, ts1, hLs1, hLs2, hLs3, hLs4, a01, a11, a21, a31]
      ·have p1 := hp.1 (by omega)
       have p2 := hp.2.1 (by omega)
       have p3 := hp.2.2.1 (by omega)
       simp [hLs3, q5, C3, lC]
       refine callVSF_of A4 ?_
       cases es : (sw && (plainN kind (constA a) yn xn).2) with
       | true =>
        have es' : swapsB kind = true ∧ (plainN kind (constA a) yn xn).2 = true := by rw [← hsw]; simpa using es
        have hF : bAlu2 L kind xn yn a c = ((plainN kind (constA a) yn xn).1, L1) := by rw [bAlu2]; simp only [p1, p2, p3, ← hL1, es', if_true, Bool.false_eq_true, if_false, and_self]
        have esw : sw = true := by rw [hsw]; exact es'.1
        simp [hF, fin0, esw]
       | false =>
        simp [p1, p2, p3, es, bl, keep_cl, ts1, hLs1, hLs2, hLs3, hLs4, a01, a11, a21, a31]
        exact fun hh => by simpa [hh] using es
     ·obtain rfl : i = 4 := by omega
      have p1 := hp.1 (by omega)
      have p2 := hp.2.1 (by omega)
      have p3 := hp.2.2.1 (by omega)
      have p4 := hp.2.2.2 (by omega)
      have esw : swapsB kind = false := by rw [← hsw]; exact hw
      have hF : bAlu2 L kind xn yn a c = putN L1 (deedNd kind xn yn) := by rw [bAlu2]; simp only [p1, p2, p3, ← hL1, esw, Bool.false_eq_true, if_false, false_and]
      simp [hLs4, q4, q2, q3, q1, q0, hw]
      rw [hBB]
      simp [-fillC, nz, g0, gk, sk, hfill]
      refine callSF_of (done xn yn hF) ?_
      simp [fin2]
    case inr.inr.inl =>
     have u1 : (kind != 20) = true := bneT (by omega)
     have u2 : (kind != 52) = true := bneT (by omega)
     have u3 : (kind != 100) = false := bneF hk
     simp [ap0, apk, u1, u2, u3]
     rw [hw] at bL
     rw [← hC, ← bL]
     refine W_up 4 (fun i => [(4, .ptr H.length 0), (5, .ptr (H.length + 1) 0), (6, .ptr (H.length + 2) 0), (7, .ptr (H.length + 3) 0), (11, .ptr (H.length + 4) 0), (55, .rs (H.length + 5) 0 4 1), (56, .int .i64 4), (57, .int .i64 i)])
      (fun i => BB (Ls i)) (fun i => (0 < i → (sumsN L kind a c).2.1 = false) ∧ (1 < i → (bothN L1 kind a c).2.1 = false) ∧ (2 < i → (plainN kind (constA c) xn yn).2 = false) ∧ (3 < i → (sw && (plainN kind (constA a) yn xn).2) = false)) ?_ ?_
     ·simp [keep_cl, bl, ts0, hLs0]
     intro i hi4 hp
     by_cases hlt : i < 4
     ·rcases (show i = 0 ∨ i = 1 ∨ i = 2 ∨ i = 3 by omega) with rfl | rfl | rfl | rfl
      ·simp [hLs0, q5, C0, lC]
       refine callVSF_of A1 ?_
       cases es : (sumsN L kind a c).2.1 with
       | true =>
        have hF : bAlu2 L kind xn yn a c = ((sumsN L kind a c).1, L1) := by rw [hL1, bAlu2]; simp only [es, if_true]
        simp [hF, fin0]
       | false =>
        simp [hp, es, bl, keep_cl, ts1, hLs1, hLs2, hLs3, hLs4, a01, a11, a21, a31]
      ·have p1 := hp.1 (by omega)
       simp [hLs1, q5, C1, lC]
       refine callVSF_of A2 ?_
       cases es : (bothN L1 kind a c).2.1 with
       | true =>
        have hF : bAlu2 L kind xn yn a c = ((bothN L1 kind a c).1, (bothN L1 kind a c).2.2) := by rw [bAlu2]; simp only [p1, ← hL1, es, if_true, Bool.false_eq_true, if_false]
        simp [hF, fin0]
       | false =>
        have eL := bothN_L L1 kind a c es
        simp [p1, es, bl, keep_cl, ts1, hLs2, eL, a11]
      ·have p1 := hp.1 (by omega)
       have p2 := hp.2.1 (by omega)
       simp [hLs2, q5, C2, lC]
       refine callVSF_of A3 ?_
       cases es : (plainN kind (constA c) xn yn).2 with
       | true =>
        have hF : bAlu2 L kind xn yn a c = ((plainN kind (constA c) xn yn).1, L1) := by rw [bAlu2]; simp only [p1, p2, ← hL1, es, if_true, Bool.false_eq_true, if_false]
        simp [hF, fin0]
       | false =>
        simp [p1, p2, es, bl, keep_cl, ts1, hLs1, hLs2, hLs3, hLs4, a01, a11, a21, a31]
      ·have p1 := hp.1 (by omega)
       have p2 := hp.2.1 (by omega)
       have p3 := hp.2.2.1 (by omega)
       simp [hLs3, q5, C3, lC]
       refine callVSF_of A4 ?_
       cases es : (sw && (plainN kind (constA a) yn xn).2) with
       | true =>
        have es' : swapsB kind = true ∧ (plainN kind (constA a) yn xn).2 = true := by rw [← hsw]; simpa using es
        have hF : bAlu2 L kind xn yn a c = ((plainN kind (constA a) yn xn).1, L1) := by rw [bAlu2]; simp only [p1, p2, p3, ← hL1, es', if_true, Bool.false_eq_true, if_false, and_self]
        have esw : sw = true := by rw [hsw]; exact es'.1
        simp [hF, fin0, esw]
       | false =>
        simp [p1, p2, p3, es, bl, keep_cl, ts1, hLs1, hLs2, hLs3, hLs4, a01, a11, a21, a31]
        exact fun hh => by simpa [hh] using es
     ·obtain rfl : i = 4 := by omega
      have p1 := hp.1 (by omega)
      have p2 := hp.2.1 (by omega)
      have p3 := hp.2.2.1 (by omega)
      have p4 := hp.2.2.2 (by omega)
      have esw : swapsB kind = false := by rw [← hsw]; exact hw
      have hF : bAlu2 L kind xn yn a c = putN L1 (deedNd kind xn yn) := by rw [bAlu2]; simp only [p1, p2, p3, ← hL1, esw, Bool.false_eq_true, if_false, false_and]
      simp [hLs4, q4, q2, q3, q1, q0, hw]
      rw [hBB]
      simp [-fillC, nz, g0, gk, sk, hfill]
      refine callSF_of (done xn yn hF) ?_
      simp [fin2]
    case inr.inr.inr.inl =>
     have u1 : (kind != 20) = true := bneT (by omega)
     have u2 : (kind != 52) = true := bneT (by omega)
     have u3 : (kind != 100) = true := bneT (by omega)
     have u4 : (kind != 116) = false := bneF hk
     simp [ap0, apk, u1, u2, u3, u4]
     rw [hw] at bL
     rw [← hC, ← bL]
     refine W_up 4 (fun i => [(4, .ptr H.length 0), (5, .ptr (H.length + 1) 0), (6, .ptr (H.length + 2) 0), (7, .ptr (H.length + 3) 0), (11, .ptr (H.length + 4) 0), (55, .rs (H.length + 5) 0 4 1), (56, .int .i64 4), (57, .int .i64 i)])
      (fun i => BB (Ls i)) (fun i => (0 < i → (sumsN L kind a c).2.1 = false) ∧ (1 < i → (bothN L1 kind a c).2.1 = false) ∧ (2 < i → (plainN kind (constA c) xn yn).2 = false) ∧ (3 < i → (sw && (plainN kind (constA a) yn xn).2) = false)) ?_ ?_
     ·simp [keep_cl, bl, ts0, hLs0]
     intro i hi4 hp
     by_cases hlt : i < 4
     ·rcases (show i = 0 ∨ i = 1 ∨ i = 2 ∨ i = 3 by omega) with rfl | rfl | rfl | rfl
      ·simp [hLs0, q5, C0, lC]
       refine callVSF_of A1 ?_
       cases es : (sumsN L kind a c).2.1 with
       | true =>
        have hF : bAlu2 L kind xn yn a c = ((sumsN L kind a c).1, L1) := by rw [hL1, bAlu2]; simp only [es, if_true]
        simp [hF, fin0]
       | false =>
        simp [hp, es, bl, keep_cl, ts1, hLs1, hLs2, hLs3, hLs4, a01, a11, a21, a31]
      ·have p1 := hp.1 (by omega)
       simp [hLs1, q5, C1, lC]
       refine callVSF_of A2 ?_
       cases es : (bothN L1 kind a c).2.1 with
       | true =>
        have hF : bAlu2 L kind xn yn a c = ((bothN L1 kind a c).1, (bothN L1 kind a c).2.2) := by rw [bAlu2]; simp only [p1, ← hL1, es, if_true, Bool.false_eq_true, if_false]
        simp [hF, fin0]
       | false =>
        have eL := bothN_L L1 kind a c es
        simp [p1, es, bl, keep_cl, ts1, hLs2, eL, a11]
      ·have p1 := hp.1 (by omega)
       have p2 := hp.2.1 (by omega)
       simp [hLs2, q5, C2, lC]
       refine callVSF_of A3 ?_
       cases es : (plainN kind (constA c) xn yn).2 with
       | true =>
        have hF : bAlu2 L kind xn yn a c = ((plainN kind (constA c) xn yn).1, L1) := by rw [bAlu2]; simp only [p1, p2, ← hL1, es, if_true, Bool.false_eq_true, if_false]
        simp [hF, fin0]
       | false =>
        simp [p1, p2, es, bl, keep_cl, ts1, hLs1, hLs2, hLs3, hLs4, a01, a11, a21, a31]
      ·have p1 := hp.1 (by omega)
       have p2 := hp.2.1 (by omega)
       have p3 := hp.2.2.1 (by omega)
       simp [hLs3, q5, C3, lC]
       refine callVSF_of A4 ?_
       cases es : (sw && (plainN kind (constA a) yn xn).2) with
       | true =>
        have es' : swapsB kind = true ∧ (plainN kind (constA a) yn xn).2 = true := by rw [← hsw]; simpa using es
        have hF : bAlu2 L kind xn yn a c = ((plainN kind (constA a) yn xn).1, L1) := by rw [bAlu2]; simp only [p1, p2, p3, ← hL1, es', if_true, Bool.false_eq_true, if_false, and_self]
        have esw : sw = true := by rw [hsw]; exact es'.1
        simp [hF, fin0, esw]
       | false =>
        simp [p1, p2, p3, es, bl, keep_cl, ts1, hLs1, hLs2, hLs3, hLs4, a01, a11, a21, a31]
        exact fun hh => by simpa [hh] using es
     ·obtain rfl : i = 4 := by omega
      have p1 := hp.1 (by omega)
      have p2 := hp.2.1 (by omega)
      have p3 := hp.2.2.1 (by omega)
      have p4 := hp.2.2.2 (by omega)
      have esw : swapsB kind = false := by rw [← hsw]; exact hw
      have hF : bAlu2 L kind xn yn a c = putN L1 (deedNd kind xn yn) := by rw [bAlu2]; simp only [p1, p2, p3, ← hL1, esw, Bool.false_eq_true, if_false, false_and]
      simp [hLs4, q4, q2, q3, q1, q0, hw]
      rw [hBB]
      simp [-fillC, nz, g0, gk, sk, hfill]
      refine callSF_of (done xn yn hF) ?_
      simp [fin2]
end Go.Ev
/- The numbers of a book's values. -/
namespace Go.Ev
open Go Go.RowKit
variable {G : Tbl}
set_option maxRecDepth 10000
set_option maxHeartbeats 4000000
set_option linter.unusedSimpArgs false
set_option linter.unusedVariables false
variable {H : Heap} {b z m : Nat} {L : List Nd}
def negN' (L : List Nd) : Int × List Nd := putN L (sumNd (0 :: zeros 34))
noncomputable def bNeg (L : List Nd) (x : Int) : Int × List Nd := if hasI L x = true then bAlu (negN' L).2 20 (negN' L).1 x else (-1, L)
theorem zero_ext (h : Inv L) : Ext L (negN' L).2 1 := (put_ext h (sum_good (by simp) (const_lt (by decide)) _)).1
theorem BNeg_ok [HasWd G] [HasAffine G] [HasBits G] [HasSym G] (x : Int) (h : Bk H b z m L) (hi : Inv L) (hs : L.length < 999980) : BF G 275 [.int .i64 x] H b z m (bNeg L x) := by
 refine SF_of HasSym.h_sym_Book_Neg (Nat.le_of_ble_eq_true rfl) ?_
 have hbk := h.shut.self
 have hus := h.upd_self
 simp
 refine callSF_of (hasF_ok x h) ?_
 cases hx : hasI L x with
 | false =>
  have hR : bNeg L x = (-1, L) := by rw [bNeg, if_neg (by simp [hx])]
  simp [hR, hbk, hus]
 | true =>
  have hR : bNeg L x = bAlu (negN' L).2 20 (negN' L).1 x := by rw [bNeg, if_pos hx]
  have e1 := zero_ext hi
  have l1 := e1.len
  have h1 := h.to e1.inv (by omega)
  simp [hbk]
  have hz := BConst_ok (G := G) 0 h (by omega)
  refine callSF_of hz ?_
  have hA := BAlu_ok (G := G) 20 (negN' L).1 x h1 e1.inv (by omega)
  rw [BF, h.upd_upd] at hA
  have fin := h.back (bAlu (negN' L).2 20 (negN' L).1 x).2 []
  simp at fin
  simp
  refine callSF_of hA ?_
  simp [hR, fin]
/-! Numbers. -/
/-- Arithmetic of numbers, where there are two. -/
def aluV (kind : Int) (o o' : Option Nat) : Option Nat := match o, o' with
 | some l, some r => if (doW kind l r).2 = true then some (doW kind l r).1 else none
 | _, _ => none
noncomputable def nval (v : List Nat) (acc : List (Option Nat)) (a : Nd) : Option Nat :=
 if a.kind = 0 then some (fEval a.f v) else if a.kind = 1 then (asB a).map fun p => val p.1 p.2 (asg v)
 else aluV a.op acc[a.x]?.join acc[a.y]?.join
noncomputable def vals (v : List Nat) (L : List Nd) : List (Option Nat) := L.foldl (fun acc a => acc ++ [nval v acc a]) []
section
variable {v : List Nat}
theorem vals_snoc (L : List Nd) (a : Nd) : vals v (L ++ [a]) = vals v L ++ [nval v (vals v L) a] := by simp [vals]
theorem vals_len : ∀ L : List Nd, (vals v L).length = L.length := by
 intro L
 have : ∀ (L : List Nd) (acc : List (Option Nat)), (L.foldl (fun acc a => acc ++ [nval v acc a]) acc).length = acc.length + L.length := fun L => by
  induction L with
  | nil => intro acc; rfl
  | cons a L ih => intro acc; simp only [List.foldl_cons, ih]; simp; omega
 simpa [vals] using this L []
theorem vals_app : ∀ (L M : List Nd), vals v L <+: vals v (L ++ M) := by
 intro L M
 have : ∀ (M : List Nd) (acc : List (Option Nat)), acc <+: M.foldl (fun acc a => acc ++ [nval v acc a]) acc := fun M => by
  induction M with
  | nil => intro acc; exact List.prefix_refl _
  | cons a M ih => intro acc; exact (List.prefix_append _ _).trans (ih _)
 rw [vals, vals, List.foldl_append]
 exact this M _
theorem vals_pre {L L' : List Nd} (h : L <+: L') : vals v L <+: vals v L' := by obtain ⟨M, rfl⟩ := h; exact vals_app L M
theorem vals_take (L : List Nd) (i : Nat) : (vals v L).take i = vals v (L.take i) := by
 have h := vals_pre (v := v) (List.take_prefix i L)
 obtain ⟨t, ht⟩ := h
 by_cases hi : i ≤ L.length
 ·rw [← ht, List.take_left' (by rw [vals_len, List.length_take]; omega)]
 ·rw [List.take_of_length_le (by rw [vals_len]; omega), List.take_of_length_le (by omega)]
theorem vals_at {i : Nat} {a : Nd} (h : L[i]? = some a) : (vals v L)[i]? = some (nval v (vals v (L.take i)) a) := by
 have hl := (List.getElem?_eq_some_iff.1 h).1
 have e : L.take (i + 1) = L.take i ++ [a] := by rw [List.take_add_one, h]; rfl
 have h1 := vals_take (v := v) L (i + 1)
 rw [e, vals_snoc] at h1
 have h2 : ((vals v L).take (i + 1))[i]? = (vals v L)[i]? := by rw [List.getElem?_take]; simp
 rw [← h2, h1, List.getElem?_append_right (by rw [vals_len, List.length_take]; omega), vals_len, List.length_take]
 rw [show i - min i L.length = 0 by omega]
 rfl
end
theorem fEval_lt (f v : List Nat) : fEval f v < 4294967296 := Nat.mod_lt _ (by decide)
theorem vals_lt {v : List Nat} {k i : Nat} {o : Option Nat} (hi : Inv L) (h : (vals v (L.take k))[i]? = some o) : o.getD 0 < 4294967296 := by
 have main : ∀ (i : Nat) (o : Option Nat), (vals v L)[i]? = some o → o.getD 0 < 4294967296 := fun i => by
  induction i using Nat.strongRecOn with
  | _ i ih =>
   intro o ho
   have hl := (List.getElem?_eq_some_iff.1 ho).1
   rw [vals_len] at hl
   have ha := get_in hl
   rw [vals_at ha] at ho
   cases ho
   have hg := hi.good i _ ha
   have sub : ∀ j, j < i → (vals v (L.take i))[j]? = (vals v L)[j]? := fun j hj => by rw [← vals_take, List.getElem?_take, if_pos hj]
   rw [nval]
   split
   ·exact fEval_lt _ _
   ·split
    ·cases e : asB L[i] with
     | none => simp
     | some p => simp only [Option.map_some, Option.getD_some]; exact val_lt _ _ _
    ·rcases hg.2.2 with h | h | ⟨_, hx, hy, _⟩
     ·contradiction
     ·contradiction
     ·unfold aluV
      split
      ·rename_i l r el er
       split
       ·rw [sub _ hx] at el
        rw [sub _ hy] at er
        obtain ⟨o1, h1, h1'⟩ : ∃ o1, (vals v L)[L[i].x]? = some o1 ∧ o1 = some l := by
         cases e : (vals v L)[L[i].x]? with
         | none => rw [e] at el; cases el
         | some o1 => rw [e] at el; exact ⟨o1, rfl, el⟩
        obtain ⟨o2, h2, h2'⟩ : ∃ o2, (vals v L)[L[i].y]? = some o2 ∧ o2 = some r := by
         cases e : (vals v L)[L[i].y]? with
         | none => rw [e] at er; cases er
         | some o2 => rw [e] at er; exact ⟨o2, rfl, er⟩
        have b1 := ih _ hx _ h1
        have b2 := ih _ hy _ h2
        rw [h1'] at b1
        rw [h2'] at b2
        exact doW32 _ b1 b2
       ·simp
      ·simp
 by_cases hik : i < k
 ·rw [← vals_take, List.getElem?_take, if_pos hik] at h
  exact main i o h
 ·rw [← vals_take, List.getElem?_take, if_neg hik] at h
  cases h
noncomputable def valI (v : List Nat) (L : List Nd) (x : Int) : Option Nat := if hasI L x = true then (vals v L)[x.toNat]?.join else none
def kn (l : List (Option Nat)) : List V := (l.map fun o => [V.int .u32 (o.getD 0 : Nat), .bool o.isSome]).flatten
theorem kn_len (l : List (Option Nat)) : (kn l).length = 2 * l.length := by
 induction l with
 | nil => rfl
 | cons o l ih => simp [kn] at ih ⊢; omega
theorem kn_drop : ∀ (l : List (Option Nat)) (i : Nat), (kn l).drop (2 * i) = kn (l.drop i)
 | [], i => by simp [kn]
 | o :: l, 0 => rfl
 | o :: l, i + 1 => by
  have e : kn (o :: l) = [V.int .u32 (o.getD 0 : Nat), .bool o.isSome] ++ kn l := rfl
  have e2 : ([V.int .u32 (o.getD 0 : Nat), .bool o.isSome] ++ kn l).drop 2 = kn l := rfl
  rw [e, show 2 * (i + 1) = 2 + 2 * i by omega, ← List.drop_drop, e2, kn_drop l i]
  rfl
theorem kn_take : ∀ (l : List (Option Nat)) (i : Nat), (kn l).take (2 * i) = kn (l.take i)
 | [], i => by simp [kn]
 | o :: l, 0 => rfl
 | o :: l, i + 1 => by
  have e : kn (o :: l) = [V.int .u32 (o.getD 0 : Nat), .bool o.isSome] ++ kn l := rfl
  rw [e, show 2 * (i + 1) = 2 * i + 1 + 1 by omega]
  show V.int .u32 (o.getD 0 : Nat) :: .bool o.isSome :: (kn l).take (2 * i) = _
  rw [kn_take l i]
  rfl
theorem kn_get {l : List (Option Nat)} {i : Nat} {o : Option Nat} (h : l[i]? = some o) : ((kn l).drop (2 * i)).take 2 = [V.int .u32 (o.getD 0 : Nat), .bool o.isSome] := by
 rw [kn_drop]
 obtain ⟨h1, rfl⟩ := List.getElem?_eq_some_iff.1 h
 rw [List.drop_eq_getElem_cons h1]
 rfl
theorem kn_set {l : List (Option Nat)} {i : Nat} (h : i < l.length) (o : Option Nat) : (kn l).take (2 * i) ++ ([V.int .u32 (o.getD 0 : Nat), .bool o.isSome] ++ (kn l).drop (2 * i + 2)) = kn (l.set i o) := by
 rw [kn_take, show 2 * i + 2 = 2 * (i + 1) by omega, kn_drop, List.set_eq_take_append_cons_drop, if_pos h]
 simp [kn]
theorem kn_cl (l : List (Option Nat)) (n : Nat) : clL n (kn l) = kn l := by
 induction l with
 | nil => rfl
 | cons o l ih =>
  have e : kn (o :: l) = .int .u32 (o.getD 0 : Nat) :: .bool o.isSome :: kn l := rfl
  rw [e]; simp [clL, V.cl, ih]
theorem Eval_F [HasWd G] [HasAffine G] [hB : HasBitsE G] [HasSym G] [HasSymEval G] (x : Int) (v : List Nat) (h : Bk H b z m L) (hi : Inv L) (hv : v.length = 34) (hvw : ∀ c ∈ v, c < 4294967296) :
  SF G 276 [.ptr b 0, .int .i64 x, .agg (cnats .u32 v)] H (.tup [.int .u32 ((valI v L x).getD 0 : Nat), .bool (valI v L x).isSome]) H := by
 refine SF_of HasSymEval.h_sym_Book_Eval (Nat.le_of_ble_eq_true rfl) ?_
 have htv := take_full (k := .u32) hv
 have h1 : Bk (H ++ [some (.cells (cnats .u32 v))]) b z m L := h.app fun n => by simp [Blk.cl]
 have hs1 := h1.shut.self
 have hsh := h.shut.back
 have hlt := h.lb
 have hb := h.hb'
 have hb2 : ∀ r : Heap, (H ++ r)[b]? = some (some (.cells [.vs (nds L) (.own z), .mp m])) := fun r => by rw [List.getElem?_append_left hlt]; exact hb
 have hsm := h.small
 simp at hs1
 simp [hv, htv]
 refine callSF_of (hasF_ok x h1) ?_
 cases hx : hasI L x with
 | false => simp [valI, hx, hsh]
 | true =>
  obtain ⟨hx0, hx1⟩ : 0 ≤ x ∧ x < L.length := by simpa [hasI] using hx
  obtain ⟨n, rfl⟩ := Int.eq_ofNat_of_zero_le hx0
  have hn : n < L.length := by omega
  have hnsz : (∀ f ∈ nds L, f.length = 60) = True := eq_true (nds_sz h.ok)
  obtain ⟨S, hS⟩ : ∃ S, S = (nds L).take (n + 1) := ⟨_, rfl⟩
  have hSl : S.length = n + 1 := by rw [hS]; simp; omega
  have hSg : ∀ (i : Nat) (a : Nd), i < n + 1 → L[i]? = some a → S[i]? = some a.cs := fun i a hi ha => by rw [hS, List.getElem?_take, if_pos hi, nds_get ha]
  have hrep : (List.replicate (n + 1) [V.int .u32 0, V.bool false]).flatten = kn (List.replicate (n + 1) none) := by simp [kn]
  simp (disch := omega) [hs1, hb2, ap0, apk, add1', -Int.natCast_add, leT, leTn, hnsz, ← hS, hSl, hrep]
  obtain ⟨T, hT⟩ : ∃ T : Nat → List (Option Nat), ∀ i, T i = vals v (L.take i) ++ List.replicate (n + 1 - i) none := ⟨_, fun _ => rfl⟩
  have T0 : T 0 = List.replicate (n + 1) none := by rw [hT]; simp [vals]
  have Tl : ∀ i, i ≤ n + 1 → (T i).length = n + 1 := fun i hi => by rw [hT]; simp [vals_len]; omega
  have Tg : ∀ i j, i ≤ n + 1 → j < i → (T i)[j]? = (vals v (L.take i))[j]? := fun i j hi hj => by rw [hT, List.getElem?_append_left (by simp [vals_len]; omega)]
  have Ts : ∀ (i : Nat) (a : Nd), i < n + 1 → L[i]? = some a → (T i).set i (nval v (vals v (L.take i)) a) = T (i + 1) := fun i a hi ha => by
   have e : L.take (i + 1) = L.take i ++ [a] := by rw [List.take_add_one, ha]; rfl
   have hl : (vals v (L.take i)).length = i := by rw [vals_len]; simp; omega
   rw [hT, hT, e, vals_snoc, List.set_append_right _ _ (by omega), hl, Nat.sub_self, show n + 1 - i = (n + 1 - (i + 1)) + 1 by omega, List.replicate_succ, List.set_cons_zero, List.append_assoc]
   rfl
  obtain ⟨BB, hBB⟩ : ∃ BB : Nat → Heap, ∀ i, BB i = H ++ [some (.cells (cnats .u32 v)), some (.cells (kn (T i)))] := ⟨_, fun _ => rfl⟩
  have hBk : ∀ i, Bk (BB i) b z m L := fun i => by rw [hBB]; exact h.app fun n => by simp [Blk.cl, kn_cl]
  have bl : ∀ i, (BB i).length = H.length + 2 := fun i => by rw [hBB]; simp
  have tr : ∀ i r, trunc (H.length + 2) (BB i ++ r) = BB i := fun i r => by have := (hBk i).shut.back r; rwa [bl] at this
  have tr' : ∀ i r, trunc (H.length + 2) (H ++ some (.cells (cnats .u32 v)) :: some (.cells (kn (T i))) :: r) = BB i := fun i r => by have := tr i r; rw [hBB] at this ⊢; simpa using this
  refine W_up (n + 1) (fun i => [(0, .ptr b 0), (1, .int .i64 n), (5, .ptr H.length 0), (8, .rs (H.length + 1) 0 (n + 1) 2), (32, .vs S .no), (33, .int .i64 (n + 1 : Nat)), (34, .int .i64 i)]) BB (fun _ => True) ?_ ?_
  ·have := tr' 0 []
   have hb3 : (b < H.length + 2) = True := eq_true (by omega)
   simp [keep_cl, ← T0, this, hb3]
  intro i hi1 _
  by_cases hilt : i < n + 1
  ·obtain ⟨a, ha⟩ : ∃ a, L[i]? = some a := ⟨_, get_in (by omega)⟩
   have hg := hSg i a hilt ha
   have hgd := hi.good i a ha
   have hl := Nd.len hgd.1
   have htk : a.cs.take 60 = a.cs := List.take_of_length_le (by omega)
   have hd0 : Nd0.cs.drop 60 = [] := rfl
   have hz60 : Nd0.cs.length = 60 := rfl
   have hge : S[i]'(by omega) = a.cs := (List.getElem?_eq_some_iff.1 hg).2
   have t1 : a.cs.take 1 = [.int .i64 (a.kind : Int)] := rfl
   have t35 : a.cs.tail.take 35 = cnats .u32 a.f := by
    show (cnats .u32 a.f ++ _).take 35 = _
    rw [List.take_left' (by simp [hgd.1.1])]
   have hsn := Ts i a hilt ha
   have hTl := Tl i (by omega)
   have kset := kn_set (l := T i) (i := i) (by omega) (nval v (vals v (L.take i)) a)
   rw [hsn, Nat.mul_comm 2 i] at kset
   have hin : ((i : Int) < (n : Int) + 1) = True := eq_true (by omega)
   have hb3 : (b < H.length + 2) = True := eq_true (by omega)
   have hi2 : i * 2 + 2 ≤ 2 * (n + 1) := by omega
   rw [hBB]
   simp (disch := omega) [ltT, hilt, hge, hl, htk, hd0, hz60, nz, ap0, apk, set0, setk, leTn, leFn, hSl, t1]
   have S0 : ∀ r, trunc (H.length + 2) (H ++ some (.cells (cnats .u32 v)) :: some (.cells (kn (T (i + 1)))) :: r) = BB (i + 1) := fun r => tr' (i + 1) r
   by_cases hk0 : a.kind = 0
   ·have hk : ((a.kind : Int) == 0) = true := beqT (by omega)
    have nv : nval v (vals v (L.take i)) a = some (fEval a.f v) := by rw [nval, if_pos hk0]
    rw [nv] at kset
    simp only [Option.getD_some, Option.isSome_some, List.cons_append, List.nil_append] at kset
    simp (disch := omega) [hk, t35, ap0, apk, set0, setk, leTn, leFn, hl, hv, htv]
    refine callP_of (fEval_ok a.f v hgd.1.1 hv hgd.2.1.1) ?_
    simp (disch := omega) [hk, t35, ap0, apk, set0, setk, leTn, leFn, hl, hv, htv, hTl, kn_len, ltTn, hin, kset, S0, keep_cl, bl, hb3, add1', -Int.natCast_add]
   ·have hk : ((a.kind : Int) == 0) = false := beqF (by omega)
    by_cases hk1 : a.kind = 1
    ·have hk' : ((a.kind : Int) == 1) = true := beqT (by omega)
     obtain ⟨p, hp⟩ : ∃ p, asB a = some p := by rw [asB, if_pos hk1]; exact ⟨_, rfl⟩
     obtain ⟨hR, hpw⟩ := asB_right hgd.2.1 hp
     have nv : nval v (vals v (L.take i)) a = some (val p.1 p.2 (asg v)) := by rw [nval, if_neg hk0, if_pos hk1, hp]; rfl
     rw [nv] at kset
     simp only [Option.getD_some, Option.isSome_some, List.cons_append, List.nil_append] at kset
     have hR1 := hR.1
     have hR2 := tab_small hR.1 hR.2.1
     have hev := Eval_ok hB p.1 p.2 v (by omega) (by omega) hpw hv hvw
     rw [rightB_iff.2 hR, if_pos rfl] at hev
     simp only [FV] at hev
     simp (disch := omega) [hk, hk', t35, ap0, apk, set0, setk, leTn, leFn, hl, hv, htv]
     refine callSF_of (asBitsF_ok i a (h.app (r := [some (.cells (cnats .u32 v)), some (.cells (kn (T i))), some (.cells a.cs), none]) fun n => by simp [Blk.cl, kn_cl, Nd.cs_cl]) ha hgd.2.1) ?_
     simp (disch := omega) [hp, asBV, FV, hk, hk', t35, ap0, apk, set0, setk, leTn, leFn, hl, hv, htv]
     refine callP_of hev ?_
     simp (disch := omega) [hk, t35, ap0, apk, set0, setk, leTn, leFn, hl, hv, htv, hTl, kn_len, ltTn, hin, kset, S0, keep_cl, bl, hb3, add1', -Int.natCast_add]
    ·have hk' : ((a.kind : Int) == 1) = false := beqF (by omega)
     obtain ⟨hk2, hax, hay, hop⟩ : a.kind = 2 ∧ a.x < i ∧ a.y < i ∧ (doW a.op 0 1).2 = true := by rcases hgd.2.2 with h | h | h; exact absurd h hk0; exact absurd h hk1; exact h
     have e57 : a.cs = (.int .i64 (a.kind : Int) :: (cnats .u32 a.f ++ .int .i64 (a.n : Int) :: (cnats .i64 a.vars ++ cnats .u32 a.tab))) ++ [.int .i64 a.op, .int .i64 (a.x : Int), .int .i64 (a.y : Int)] := by simp [Nd.cs]
     have l57 : (V.int .i64 (a.kind : Int) :: (cnats .u32 a.f ++ .int .i64 (a.n : Int) :: (cnats .i64 a.vars ++ cnats .u32 a.tab))).length = 57 := by simp [hgd.1.1, hgd.1.2.1, hgd.1.2.2]
     have d57 : a.cs.drop 57 = [.int .i64 a.op, .int .i64 (a.x : Int), .int .i64 (a.y : Int)] := by rw [e57]; exact List.drop_left' l57
     have d58 : (a.cs.drop 58).take 1 = [.int .i64 (a.x : Int)] := by rw [show 58 = 57 + 1 from rfl, ← List.drop_drop, d57]; rfl
     have d59 : (a.cs.drop 59).take 1 = [.int .i64 (a.y : Int)] := by rw [show 59 = 57 + 2 from rfl, ← List.drop_drop, d57]; rfl
     have d57' : (a.cs.drop 57).take 1 = [.int .i64 a.op] := by rw [d57]; rfl
     obtain ⟨ox, hox⟩ : ∃ o, (vals v (L.take i))[a.x]? = some o := ⟨_, get_in (by rw [vals_len, List.length_take]; omega)⟩
     obtain ⟨oy, hoy⟩ : ∃ o, (vals v (L.take i))[a.y]? = some o := ⟨_, get_in (by rw [vals_len, List.length_take]; omega)⟩
     have gx := kn_get (l := T i) (i := a.x) (o := ox) (by rw [Tg i a.x (by omega) hax, hox])
     have gy := kn_get (l := T i) (i := a.y) (o := oy) (by rw [Tg i a.y (by omega) hay, hoy])
     rw [Nat.mul_comm] at gx gy
     have hxn : ((a.x : Int) < (n : Int) + 1) = True := eq_true (by omega)
     have hyn : ((a.y : Int) < (n : Int) + 1) = True := eq_true (by omega)
     have h31 : H.length + 3 + 1 = H.length + 4 := rfl
     simp (disch := omega) [hk, hk', t35, ap0, apk, set0, setk, leTn, leFn, hl, hv, htv, d57', d58, d59, hxn, hyn, kn_len, hTl, gx, gy, h31]
     have hdo := doW_ok (G := G) (by infer_instance) a.op (ox.getD 0) (oy.getD 0) (vals_lt hi hox) (vals_lt hi hoy)
     refine callP_of hdo ?_
     simp (disch := omega) [hk, hk', t35, ap0, apk, set0, setk, leTn, leFn, hl, hv, htv, d57', d58, d59, hxn, hyn, kn_len, hTl, gx, gy, h31]
     have nv : nval v (vals v (L.take i)) a = aluV a.op ox oy := by
      rw [nval, if_neg hk0, if_neg hk1, hox, hoy]; rfl
     have same : nval v (vals v (L.take i)) a = none → T (i + 1) = T i := fun e => by
      rw [e] at hsn
      rw [← hsn]
      apply set_same
      rw [hT, List.getElem?_append_right (by rw [vals_len, List.length_take]; omega), vals_len, List.length_take, List.getElem?_replicate, if_pos (by omega)]
     have S1 : T (i + 1) = T i → ∀ r, trunc (H.length + 2) (H ++ some (.cells (cnats .u32 v)) :: some (.cells (kn (T i))) :: r) = BB (i + 1) := fun e r => by rw [← e]; exact S0 r
     cases ox with
     | none =>
      have S2 := S1 (same nv)
      simp (disch := omega) [S2, hk, hk', t35, ap0, apk, set0, setk, leTn, leFn, hl, hv, htv, hTl, kn_len, ltTn, hin, kset, S0, keep_cl, bl, hb3, add1', -Int.natCast_add]
     | some l =>
      cases oy with
      | none =>
       have S2 := S1 (same nv)
       simp (disch := omega) [S2, hk, hk', t35, ap0, apk, set0, setk, leTn, leFn, hl, hv, htv, hTl, kn_len, ltTn, hin, kset, S0, keep_cl, bl, hb3, add1', -Int.natCast_add]
      | some r =>
       cases hd : (doW a.op l r).2 with
       | false =>
        have S2 := S1 (same (by rw [nv, aluV]; simp only [hd, Bool.false_eq_true, if_false]))
        simp (disch := omega) [hd, S2, hk, hk', t35, ap0, apk, set0, setk, leTn, leFn, hl, hv, htv, hTl, kn_len, ltTn, hin, kset, S0, keep_cl, bl, hb3, add1', -Int.natCast_add]
       | true =>
        rw [aluV] at nv
        simp only [hd, if_true] at nv
        rw [nv] at kset
        simp only [Option.getD_some, Option.isSome_some, List.cons_append, List.nil_append] at kset
        simp (disch := omega) [hd, hk, hk', t35, ap0, apk, set0, setk, leTn, leFn, hl, hv, htv, hTl, kn_len, ltTn, hin, kset, S0, keep_cl, bl, hb3, add1', -Int.natCast_add]
  ·obtain rfl : i = n + 1 := by omega
   obtain ⟨o, ho⟩ : ∃ o, (vals v L)[n]? = some o := ⟨_, get_in (by rw [vals_len]; omega)⟩
   have hv1 : valI v L n = o := by rw [valI, if_pos hx]; simp [ho]
   have hTo : (T (n + 1))[n]? = some o := by rw [Tg (n + 1) n (by omega) (by omega), ← vals_take, List.getElem?_take, if_pos (by omega), ho]
   have hkg := kn_get hTo
   rw [Nat.mul_comm] at hkg
   have hTl := Tl (n + 1) (by omega)
   rw [hBB]
   have hin : ((n : Int) < (n : Int) + 1) = True := eq_true (by omega)
   have k1 : ((kn (T (n + 1))).drop (n * 2)).take 1 = [.int .u32 (o.getD 0 : Nat)] := by
    have := congrArg (List.take 1) hkg
    rwa [List.take_take] at this
   have k2 : ((kn (T (n + 1))).drop (n * 2 + 1)).take 1 = [.bool o.isSome] := by
    have := congrArg (List.drop 1) hkg
    rw [List.drop_take, List.drop_drop] at this
    exact this
   simp (disch := omega) [hv1, ap0, apk, leTn, kn_len, hTl, hin, k1, k2, hsh]
end Go.Ev
/- The document's values: how each was made. -/
namespace Go.Ev
open Go Go.RowKit
variable {G : Tbl}
set_option maxRecDepth 10000
set_option maxHeartbeats 4000000
set_option linter.unusedSimpArgs false
set_option linter.unusedVariables false
structure Md where
 kind : Int
 i : Int
 op : Int
 x : Int
 y : Int
 c : Nat
def Md.cs (a : Md) : List V := [.int .i64 a.kind, .int .i64 a.i, .int .i64 a.op, .int .i64 a.x, .int .i64 a.y, .int .u32 (a.c : Int)]
def mds (l : List Md) : List (List V) := l.map Md.cs
@[simp] theorem mds_length (l : List Md) : (mds l).length = l.length := by simp [mds]
def thereB (l : List Md) (i : Int) : Bool := decide (0 ≤ i ∧ i < l.length) && (match l[i.toNat]? with | some a => decide (a.kind ≠ 4) | none => false)
def noMd : Md := ⟨4, 0, 0, 0, 0, 0⟩
def nextM (l : List Md) (a : Md) : Md :=
 if a.kind = 0 then ⟨0, 0, 0, 0, 0, a.c⟩ else if a.kind = 1 ∧ 0 ≤ a.i ∧ a.i < 34 then ⟨1, a.i, 0, 0, 0, 0⟩
 else if a.kind = 2 ∧ (doW a.op 0 1).2 = true ∧ thereB l a.x = true ∧ thereB l a.y = true then ⟨2, 0, a.op, a.x, a.y, 0⟩
 else if a.kind = 3 ∧ thereB l a.x = true then ⟨3, 0, 0, a.x, 0, 0⟩ else noMd
def rval (v : List Nat) (acc : List (Option Nat)) (a : Md) : Option Nat :=
 if a.kind = 0 then some a.c else if a.kind = 1 then some (v[a.i.toNat]?.getD 0) else if a.kind = 2 then aluV a.op acc[a.x.toNat]?.join acc[a.y.toNat]?.join
 else if a.kind = 3 then (acc[a.x.toNat]?.join).map negW else none
def refs (v : List Nat) (l : List Md) : List (Option Nat) := l.foldl (fun acc a => acc ++ [rval v acc a]) []
section
variable {v : List Nat} {l : List Md}
theorem refs_snoc (l : List Md) (a : Md) : refs v (l ++ [a]) = refs v l ++ [rval v (refs v l) a] := by simp [refs]
theorem refs_len : ∀ l : List Md, (refs v l).length = l.length := by
 intro l
 have : ∀ (l : List Md) (acc : List (Option Nat)), (l.foldl (fun acc a => acc ++ [rval v acc a]) acc).length = acc.length + l.length := fun l => by
  induction l with
  | nil => intro acc; rfl
  | cons a l ih => intro acc; simp only [List.foldl_cons, ih]; simp; omega
 simpa [refs] using this l []
def mdOk (l : List Md) : Prop := ∀ (i : Nat) (a : Md), l[i]? = some a → a.c < 4294967296 ∧ (a.kind = 0 ∨ a.kind = 1 ∧ 0 ≤ a.i ∧ a.i < 34 ∨ a.kind = 2 ∧ 0 ≤ a.x ∧ a.x < i ∧ 0 ≤ a.y ∧ a.y < i ∨ a.kind = 3 ∧ 0 ≤ a.x ∧ a.x < i ∨ a.kind = 4)
end
end Go.Ev
/- Values made one by one. -/
namespace Go.Ev
open Go Go.RowKit
variable {G : Tbl}
set_option maxRecDepth 10000
set_option maxHeartbeats 4000000
set_option linter.unusedSimpArgs false
set_option linter.unusedVariables false
variable {H : Heap} {b z m : Nat} {L : List Nd}
def atI (l : List Int) (i : Int) : Int := if 0 ≤ i ∧ i < l.length then l[i.toNat]?.getD 0 else -1
structure MS where
 L : List Nd
 ids : List Int
 made : List Md
noncomputable def makeR (s : MS) (a : Md) : Int × List Nd :=
 if a.kind = 0 then putN s.L (sumNd (a.c :: zeros 34)) else if a.kind = 1 then varN s.L a.i else if a.kind = 2 then bAlu s.L a.op (atI s.ids a.x) (atI s.ids a.y)
 else if a.kind = 3 then bNeg s.L (atI s.ids a.x) else (-1, s.L)
noncomputable def makeS (s : MS) (a : Md) : MS := ⟨(makeR s a).2, s.ids ++ [(makeR s a).1], s.made ++ [nextM s.made a]⟩
theorem both_ext {kind : Int} {a c : Nd} (h : Inv L) (ha : a.wf) (hc : c.wf) : Ext L (bothN L kind a c).2.2 1 := by
 cases e1 : asB a with
 | none => simp only [bothN, e1, noR]; exact .refl h 1
 | some p =>
  cases e2 : asB c with
  | none => simp only [bothN, e1, e2, noR]; exact .refl h 1
  | some q =>
   cases e3 : bdo kind p q with
   | none => simp only [bothN, e1, e2, e3, noR]; exact .refl h 1
   | some r =>
    simp only [bothN, e1, e2, e3, okP]
    obtain ⟨_, hR, hw, _⟩ := bdo_some e3
    exact (bits_ext h hR hw).1
theorem deed_good {kind : Int} {x y n : Nat} (hk : (doW kind 0 1).2 = true) (hx : x < n) (hy : y < n) : (deedNd kind x y).good n :=
 ⟨⟨rfl, rfl, rfl⟩, ⟨zeros_lt 35, fun h => by cases h⟩, .inr (.inr ⟨rfl, hx, hy, hk⟩)⟩
theorem alu_ext {kind x y : Int} (h : Inv L) : Ext L (bAlu L kind x y).2 2 := by
 rw [bAlu]
 split
 case isFalse => exact .refl h 2
 rename_i hk
 obtain ⟨hk, hx, hy⟩ := hk
 obtain ⟨hx0, hx1⟩ : 0 ≤ x ∧ x < L.length := by simpa [hasI] using hx
 obtain ⟨hy0, hy1⟩ : 0 ≤ y ∧ y < L.length := by simpa [hasI] using hy
 obtain ⟨xn, rfl⟩ := Int.eq_ofNat_of_zero_le hx0
 obtain ⟨yn, rfl⟩ := Int.eq_ofNat_of_zero_le hy0
 obtain ⟨a, ha⟩ : ∃ a, L[xn]? = some a := ⟨_, get_in (by omega)⟩
 obtain ⟨c, hc⟩ : ∃ c, L[yn]? = some c := ⟨_, get_in (by omega)⟩
 have hga := h.good _ _ ha
 have hgc := h.good _ _ hc
 simp only [Int.toNat_natCast, ha, hc, bAlu2]
 have e1 := sums_ext (kind := kind) h hga.1 hgc.1 hga.2.1 hgc.2.1
 have e2 := both_ext (kind := kind) e1.inv hga.2.1 hgc.2.1
 have l1 := e1.pre.length_le
 split
 ·exact e1.mono (by omega)
 ·split
  ·exact e1.trans e2
  ·split
   ·exact e1.mono (by omega)
   ·split
    ·exact e1.mono (by omega)
    ·split
     ·exact e1.trans (put_ext e1.inv (deed_good hk (by omega) (by omega))).1
     ·exact e1.trans (put_ext e1.inv (deed_good hk (by omega) (by omega))).1
theorem var_ext {i : Int} (h : Inv L) : Ext L (varN L i).2 1 := by
 rw [varN]
 split
 ·exact (put_ext h (sum_good (varL_len _) (varL_lt _) _)).1
 ·exact .refl h 1
theorem neg_ext {x : Int} (h : Inv L) : Ext L (bNeg L x).2 3 := by
 rw [bNeg]
 split
 ·exact (zero_ext h).trans (alu_ext (zero_ext h).inv)
 ·exact .refl h 3
theorem make_ext {s : MS} {a : Md} (h : Inv s.L) (hc : a.c < 4294967296) : Ext s.L (makeS s a).L 3 := by
 show Ext s.L (makeR s a).2 3
 rw [makeR]
 split
 ·exact (put_ext h (sum_good (by simp) (const_lt hc) _)).1.mono (by omega)
 ·split
  ·exact (var_ext h).mono (by omega)
  ·split
   ·exact (alu_ext h).mono (by omega)
   ·split
    ·exact neg_ext h
    ·exact .refl h 3
noncomputable def makeAll (s : MS) (l : List Md) : MS := l.foldl makeS s
theorem Md.cs_cl (a : Md) (n : Nat) : clL n a.cs = a.cs := by simp [Md.cs, clL, V.cl]
end Go.Ev
/- Numbers of sums, bits and deeds: plain laws. -/
namespace Go.Ev
open Go Go.RowKit
set_option maxRecDepth 10000
set_option maxHeartbeats 4000000
set_option linter.unusedSimpArgs false
set_option linter.unusedVariables false
variable {L : List Nd} {v : List Nat}
/-! Sums of multiples. -/
def dot : List Nat → List Nat → Int
 | a :: f, b :: v => a * b + dot f v
 | _, _ => 0
theorem dot_sum : ∀ (f v : List Nat), ((List.zipWith (· * ·) f v).sum : Nat) = dot f v
 | [], _ => by simp [dot]
 | _ :: _, [] => by simp [dot]
 | a :: f, b :: v => by
  have := dot_sum f v
  simp only [List.zipWith_cons_cons, List.sum_cons, dot]
  omega
theorem fEval_dot {c : Nat} {t : List Nat} (ht : t.length = 34) (hv : v.length = 34) : (fEval (c :: t) v : Int) = ((c : Int) + dot t v) % 4294967296 := by
 have e : (fSum (c :: t) v 34 : Int) = dot t v := by
  rw [fSum, List.drop_one, List.tail_cons, List.take_of_length_le (by simp [ht, hv]), dot_sum]
 rw [fEval, List.headD_cons]
 rw [← e]
 omega
def Cong (a b : Int) : Prop := ∃ k : Int, a = b + 4294967296 * k
theorem cong_mod (a : Nat) : ∃ q : Int, ((a % 4294967296 : Nat) : Int) = (a : Int) - 4294967296 * q := ⟨((a / 4294967296 : Nat) : Int), by omega⟩
theorem dot_add : ∀ (f g v : List Nat), f.length = g.length → Cong (dot (fAdd f g) v) (dot f v + dot g v)
 | [], [], v, _ => ⟨0, by simp [fAdd, dot]⟩
 | [], _ :: _, _, h => by simp at h
 | _ :: _, [], _, h => by simp at h
 | _ :: _, _ :: _, [], _ => ⟨0, by simp [fAdd, dot]⟩
 | a :: f, b :: g, x :: v, h => by
  obtain ⟨k, hk⟩ := dot_add f g v (by simpa using h)
  obtain ⟨q, hq⟩ := cong_mod (a + b)
  refine ⟨k - q * x, ?_⟩
  simp only [fAdd, List.zipWith_cons_cons, dot] at hk ⊢
  rw [hk, hq]
  simp only [Int.natCast_add]
  grind
theorem dot_sub : ∀ (f g v : List Nat), f.length = g.length → (∀ x ∈ g, x < 4294967296) → Cong (dot (fSub f g) v) (dot f v - dot g v)
 | [], [], v, _, _ => ⟨0, by simp [fSub, dot]⟩
 | [], _ :: _, _, h, _ => by simp at h
 | _ :: _, [], _, h, _ => by simp at h
 | _ :: _, _ :: _, [], _, _ => ⟨0, by simp [fSub, dot]⟩
 | a :: f, b :: g, x :: v, h, hg => by
  obtain ⟨k, hk⟩ := dot_sub f g v (by simpa using h) fun y hy => hg y (by simp [hy])
  obtain ⟨q, hq⟩ := cong_mod (a + 4294967296 - b)
  have hb := hg b (by simp)
  have e : ((a + 4294967296 - b : Nat) : Int) = (a : Int) + 4294967296 - b := by omega
  rw [e] at hq
  refine ⟨k - q * x + x, ?_⟩
  simp only [fSub, List.zipWith_cons_cons, dot] at hk ⊢
  rw [hk, hq]
  grind
theorem dot_mul (k : Nat) : ∀ (f v : List Nat), Cong (dot (fMul f k) v) (dot f v * k)
 | [], v => ⟨0, by simp [fMul, dot]⟩
 | _ :: _, [] => ⟨0, by simp [fMul, dot]⟩
 | a :: f, x :: v => by
  obtain ⟨j, hj⟩ := dot_mul k f v
  obtain ⟨q, hq⟩ := cong_mod (a * k)
  refine ⟨j - q * x, ?_⟩
  simp only [fMul, List.map_cons, dot] at hj ⊢
  rw [hj, hq]
  simp only [Int.natCast_mul]
  grind
theorem head_tail {f : List Nat} (hf : f.length = 35) : ∃ c t, f = c :: t ∧ t.length = 34 := by
 match f, hf with
 | c :: t, h => exact ⟨c, t, rfl, by simpa using h⟩
theorem fEval_add {f g : List Nat} (hf : f.length = 35) (hg : g.length = 35) (hv : v.length = 34) : fEval (fAdd f g) v = (fEval f v + fEval g v) % 4294967296 := by
 obtain ⟨c, t, rfl, ht⟩ := head_tail hf
 obtain ⟨d, u, rfl, hu⟩ := head_tail hg
 have e : fAdd (c :: t) (d :: u) = ((c + d) % 4294967296) :: fAdd t u := rfl
 have h1 := fEval_dot (c := c) ht hv
 have h2 := fEval_dot (c := d) hu hv
 have h3 := fEval_dot (c := (c + d) % 4294967296) (t := fAdd t u) (v := v) (by simp [fAdd, ht, hu]) hv
 obtain ⟨k, hk⟩ := dot_add t u v (by omega)
 rw [hk] at h3
 rw [e]
 omega
theorem fEval_sub {f g : List Nat} (hf : f.length = 35) (hg : g.length = 35) (hgw : ∀ x ∈ g, x < 4294967296) (hv : v.length = 34) : fEval (fSub f g) v = (fEval f v + 4294967296 - fEval g v) % 4294967296 := by
 obtain ⟨c, t, rfl, ht⟩ := head_tail hf
 obtain ⟨d, u, rfl, hu⟩ := head_tail hg
 have e : fSub (c :: t) (d :: u) = ((c + 4294967296 - d) % 4294967296) :: fSub t u := rfl
 have h1 := fEval_dot (c := c) ht hv
 have h2 := fEval_dot (c := d) hu hv
 have h3 := fEval_dot (c := (c + 4294967296 - d) % 4294967296) (t := fSub t u) (v := v) (by simp [fSub, ht, hu]) hv
 obtain ⟨k, hk⟩ := dot_sub t u v (by omega) fun x hx => hgw x (by simp [hx])
 have hd := hgw d (by simp)
 rw [hk] at h3
 rw [e]
 omega
theorem fEval_mul {f : List Nat} (k : Nat) (hf : f.length = 35) (hv : v.length = 34) : fEval (fMul f k) v = fEval f v * k % 4294967296 := by
 obtain ⟨c, t, rfl, ht⟩ := head_tail hf
 have e : fMul (c :: t) k = (c * k % 4294967296) :: fMul t k := rfl
 have h1 := fEval_dot (c := c) ht hv
 have h3 := fEval_dot (c := c * k % 4294967296) (t := fMul t k) (v := v) (by simp [fMul, ht]) hv
 obtain ⟨j, hj⟩ := dot_mul k t v
 obtain ⟨q, hq⟩ := cong_mod (c * k)
 rw [hj, hq] at h3
 rw [e]
 have h5 : (fEval (c * k % 4294967296 :: fMul t k) v : Int) = ((c + dot t v) * k) % 4294967296 := by
  rw [h3]
  have : ((c * k : Nat) : Int) - 4294967296 * q + (dot t v * k + 4294967296 * j) = (c + dot t v) * k + 4294967296 * (j - q) := by simp only [Int.natCast_mul]; grind
  rw [this, Int.add_mul_emod_self_left]
 have h6 : ((fEval (c :: t) v * k % 4294967296 : Nat) : Int) = ((c + dot t v) * k) % 4294967296 := by
  rw [Int.natCast_emod, Int.natCast_mul, h1, show ((4294967296 : Nat) : Int) = 4294967296 from rfl, Int.mul_emod, Int.emod_emod, ← Int.mul_emod]
 omega
theorem dot_zeros : ∀ (n : Nat) (v : List Nat), dot (zeros n) v = 0
 | 0, _ => by simp [zeros, dot]
 | n + 1, [] => by simp [zeros, List.replicate_succ, dot]
 | n + 1, x :: v => by
  have := dot_zeros n v
  simp only [zeros, List.replicate_succ, dot] at this ⊢
  omega
theorem fEval_const {c : Nat} (hc : c < 4294967296) (hv : v.length = 34) : fEval (c :: zeros 34) v = c := by
 have h := fEval_dot (c := c) (t := zeros 34) (v := v) (by simp) hv
 rw [dot_zeros] at h
 omega
theorem dot_one : ∀ (n i : Nat) (v : List Nat) (h : i < v.length), i < n → dot ((zeros n).set i 1) v = (v[i] : Nat)
 | 0, i, v, h, hi => by omega
 | n + 1, i, [], h, hi => by simp at h
 | n + 1, 0, x :: v, h, hi => by
  have := dot_zeros n v
  simp only [zeros, List.replicate_succ, List.set_cons_zero, dot, List.getElem_cons_zero] at this ⊢
  omega
 | n + 1, i + 1, x :: v, h, hi => by
  have := dot_one n i v (by simpa using h) (by omega)
  simp only [zeros, List.replicate_succ, List.set_cons_succ, dot, List.getElem_cons_succ] at this ⊢
  omega
theorem fEval_var {i : Nat} (hi : i < 34) (hv : v.length = 34) (hw : ∀ x ∈ v, x < 4294967296) : fEval (varL i) v = v[i]'(by omega) := by
 have e : varL i = 0 :: (zeros 34).set i 1 := rfl
 have h := fEval_dot (c := 0) (t := (zeros 34).set i 1) (v := v) (by simp) hv
 have h2 := hw _ (List.getElem_mem (show i < v.length by omega))
 rw [dot_one 34 i v (by omega) hi] at h
 rw [e]
 omega
end Go.Ev
/- What arithmetic in a book comes to: plain laws. -/
namespace Go.Ev
open Go Go.RowKit
set_option maxRecDepth 10000
set_option maxHeartbeats 4000000
set_option linter.unusedSimpArgs false
set_option linter.unusedVariables false
variable {L L' : List Nd} {v : List Nat}
theorem val_const {c : Nat} (hc : c < 4294967296) (r : Int → Nat) : val [] [c] r = c := by
 rw [val, ← wordOf_self (w := c) hc]
 exact wordOf_ext fun i hi => by simp [sem, idx, wordOf_self (w := c) hc]
theorem val_var (i : Int) (r : Int → Nat) (hr : r i < 4294967296) : val [i] [0, ones] r = r i := by
 rw [val, ← wordOf_self (w := r i) hr]
 refine wordOf_ext fun j hj => ?_
 have e : ones.testBit j = true := by rw [ones, show 4294967295 = 2 ^ 32 - 1 from rfl, Nat.testBit_two_pow_sub_one]; simpa using hj
 cases h : (r i).testBit j <;> simp [sem, idx, h, e]
theorem xor_full {a : Nat} (ha : a < 4294967296) : a ^^^ ones = 4294967295 - a := by
 refine Nat.eq_of_testBit_eq fun j => ?_
 rw [Nat.testBit_xor, ones, show 4294967295 = 2 ^ 32 - 1 from rfl, Nat.testBit_two_pow_sub_one, show 2 ^ 32 - 1 - a = 2 ^ 32 - (a + 1) by omega, Nat.testBit_two_pow_sub_succ ha]
 by_cases hj : j < 32
 ·simp [hj]
 ·simp only [hj, decide_false, Bool.false_and, Bool.xor_false]
  exact Nat.testBit_lt_two_pow (Nat.lt_of_lt_of_le ha (Nat.pow_le_pow_right (n := 2) (i := 32) (by decide) (by omega)))
theorem val_not (i : Int) (r : Int → Nat) (hr : r i < 4294967296) : val [i] [ones, 0] r = 4294967295 - r i := by
 have h := val_do (kind := 164) (fv := [i]) (gv := []) (vs := [i]) (ft := [0, ones]) (gt := [ones]) (tab := [ones, 0]) (.inr (.inr rfl)) (fun p => by cases h : p i <;> simp [sem, idx, h, doW, ones]) r
 rw [val_var i r hr, val_const (by decide)] at h
 simp only [doW] at h
 rw [h]
 simp
 exact xor_full hr
theorem fConst_eq {f : List Nat} {c : Nat} (hf : f.length = 35) (h : fConst f = some c) : f = c :: zeros 34 := by
 obtain ⟨d, t, rfl, ht⟩ := head_tail hf
 rw [fConst] at h
 split at h
 ·rename_i e
  cases h
  rw [← e]; rfl
 ·cases h
theorem fOne_eq {f : List Nat} {i : Nat} (h : fOne f = some i) : f = varL i := by
 have := List.find?_some h
 simpa using this
theorem valI_nat (i : Nat) : valI v L i = (vals v L)[i]?.join := by
 rw [valI]
 by_cases h : i < L.length
 ·have : hasI L i = true := by simp [hasI]; exact h
  rw [if_pos this]; rfl
 ·have : ¬ hasI L i = true := by simp [hasI]; omega
  rw [if_neg this, List.getElem?_eq_none (by rw [vals_len]; omega)]; rfl
theorem nval_pre {a : Nd} {i : Nat} (ha : a.good i) (hl : i ≤ L.length) : nval v (vals v (L.take i)) a = nval v (vals v L) a := by
 rw [nval, nval]
 split
 ·rfl
 ·split
  ·rfl
  ·rcases ha.2.2 with h | h | ⟨_, hx, hy, _⟩
   ·contradiction
   ·contradiction
   ·rw [← vals_take, List.getElem?_take, if_pos hx, List.getElem?_take, if_pos hy]
theorem valI_at {i : Nat} {a : Nd} (h : Inv L) (ha : L[i]? = some a) : valI v L i = nval v (vals v L) a := by
 rw [valI_nat, vals_at ha, nval_pre (h.good i a ha) (by have := (List.getElem?_eq_some_iff.1 ha).1; omega)]
 rfl
theorem valI_ext {k i : Nat} (h : Ext L L' k) (hi : i < L.length) : valI v L' i = valI v L i := by
 rw [valI_nat, valI_nat, pre_get (vals_pre h.pre) (get_in (by rw [vals_len]; exact hi)), get_in (by rw [vals_len]; exact hi)]
theorem nval_asB {a : Nd} {p : List Int × List Nat} {acc : List (Option Nat)} (ha : a.ok) (haw : a.wf) (hp : asB a = some p) (hv : v.length = 34) (hw : ∀ x ∈ v, x < 4294967296) : nval v acc a = some (val p.1 p.2 (asg v)) := by
 by_cases h1 : a.kind = 1
 ·rw [nval, if_neg (by omega), if_pos h1, hp]; rfl
 ·have h0 : a.kind = 0 := by
   by_cases h0 : a.kind = 0
   ·exact h0
   ·rw [asB, if_neg h1, if_neg h0] at hp; cases hp
  have hg : ∀ (i : Nat) (h : i < 34), asg v (i : Int) = v[i]'(by omega) := fun i h => by
   rw [asg, Int.toNat_natCast, List.getD_eq_getElem?_getD, get_in (by omega)]; rfl
  have hgl : ∀ i : Nat, i < 34 → asg v (i : Int) < 4294967296 := fun i h => by rw [hg i h]; exact hw _ (List.getElem_mem _)
  rw [nval, if_pos h0]
  rw [asB, if_neg h1, if_pos h0] at hp
  congr 1
  split at hp
  ·rename_i c hc
   cases hp
   have hlt := fConst_lt hc haw.1
   rw [fConst_eq ha.1 hc, fEval_const hlt hv, val_const hlt]
  ·split at hp
   ·rename_i i hi
    cases hp
    have hl := fOne_lt hi
    rw [fOne_eq hi, fEval_var hl hv hw, val_var _ _ (hgl i hl), hg i hl]
   ·split at hp
    ·rename_i i hi
     cases hp
     have hl := fOne_lt hi
     have e := congrArg (fEval · v) (fOne_eq hi)
     rw [fEval_sub (by simp) ha.1 haw.1 hv, fEval_var hl hv hw, fEval_const (by decide) hv] at e
     have hb := fEval_lt a.f v
     rw [val_not _ _ (hgl i hl), hg i hl, ← e]
     simp only [ones]
     omega
    ·cases hp
def Res (v : List Nat) (p : Int × List Nd) (o : Option Nat) : Prop := ∃ i : Nat, p.1 = i ∧ i < p.2.length ∧ valI v p.2 i = o
theorem put_res {a : Nd} (h : Inv L) (ha : a.good L.length) : Res v (putN L a) (nval v (vals v L) a) := by
 obtain ⟨e, i, h1, h2⟩ := put_ext h ha
 refine ⟨i, h1, (List.getElem?_eq_some_iff.1 h2).1, ?_⟩
 rw [valI_at e.inv h2]
 have : L = (putN L a).2.take L.length := by
  obtain ⟨t, ht⟩ := e.pre
  rw [← ht, List.take_left' rfl]
 conv => rhs; rw [this]
 rw [nval_pre ha e.pre.length_le]
theorem sum_res {f : List Nat} (h : Inv L) (hf : f.length = 35) (hw : ∀ c ∈ f, c < 4294967296) : Res v (putN L (sumNd f)) (some (fEval f v)) := put_res h (sum_good hf hw _)
theorem bits_res {fv : List Int} {ft : List Nat} (h : Inv L) (hR : Right fv ft) (hw : ∀ c ∈ ft, c < 4294967296) (hv : v.length = 34) (hvw : ∀ x ∈ v, x < 4294967296) : Res v (bitsN L fv ft) (some (val fv ft (asg v))) := by
 obtain ⟨e, i, a, h1, h2, h3⟩ := bits_ext h hR hw
 refine ⟨i, h1, (List.getElem?_eq_some_iff.1 h2).1, ?_⟩
 have hg := e.inv.good i a h2
 rw [valI_at e.inv h2, nval_asB hg.1 hg.2.1 h3 hv hvw]
theorem aluV_some {kind : Int} {a c : Nat} (h : (doW kind a c).2 = true) : aluV kind (some a) (some c) = some (doW kind a c).1 := by rw [aluV]; simp only [h, if_true]
theorem doW_const_lsh {k : Nat} : (doW 100 1 k).1 = 2 ^ (k % 32) % 4294967296 := by simp [doW]
theorem sums_res {kind : Int} {a c : Nd} (h : Inv L) (ha : a.ok) (hc : c.ok) (haw : a.wf) (hcw : c.wf) (hv : v.length = 34) (ht : (sumsN L kind a c).2.1 = true) :
  a.kind = 0 ∧ c.kind = 0 ∧ Res v ((sumsN L kind a c).1, (sumsN L kind a c).2.2) (aluV kind (some (fEval a.f v)) (some (fEval c.f v))) := by
 rw [sumsN] at ht ⊢
 split at ht
 case isFalse => simp [noR] at ht
 rename_i hk
 rw [if_pos hk]
 refine ⟨hk.1, hk.2, ?_⟩
 have conv : ∀ (f : List Nat) (n : Nat), f.length = 35 → (∀ c ∈ f, c < 4294967296) → fEval f v = n → (doW kind (fEval a.f v) (fEval c.f v)).2 = true → (doW kind (fEval a.f v) (fEval c.f v)).1 = n →
   Res v ((okP (putN L (sumNd f))).1, (okP (putN L (sumNd f))).2.2) (aluV kind (some (fEval a.f v)) (some (fEval c.f v))) := fun f n hf hw e h1 h2 => by
  rw [aluV_some h1, h2, ← e]
  exact sum_res h hf hw
 by_cases k4 : kind = 4
 ·simp only [k4, if_true] at ht ⊢
  subst k4
  exact conv _ _ (fAdd_len ha.1 hc.1) (fAdd_lt _ _) (fEval_add ha.1 hc.1 hv) (by simp [doW]) (by simp [doW])
 by_cases k20 : kind = 20
 ·simp only [k4, k20, if_true, if_false] at ht ⊢
  subst k20
  exact conv _ _ (fSub_len ha.1 hc.1) (fSub_lt _ _) (fEval_sub ha.1 hc.1 hcw.1 hv) (by simp [doW]) (by simp [doW])
 simp only [k4, k20, if_false] at ht ⊢
 have mul : ∀ k, fConst c.f = some k → kind = 36 → Res v ((okP (putN L (sumNd (fMul a.f k)))).1, (okP (putN L (sumNd (fMul a.f k)))).2.2) (aluV kind (some (fEval a.f v)) (some (fEval c.f v))) := fun k ek k36 => by
  have hlt := fConst_lt ek hcw.1
  have ec : fEval c.f v = k := by rw [fConst_eq hc.1 ek, fEval_const hlt hv]
  subst k36
  exact conv _ _ (fMul_len _ ha.1) (fMul_lt _ _) (fEval_mul k ha.1 hv) (by simp [doW]) (by rw [ec]; simp [doW])
 have lsh : ∀ k, fConst c.f = some k → kind = 100 → Res v ((okP (putN L (sumNd (fMul a.f (doW 100 1 k).1)))).1, (okP (putN L (sumNd (fMul a.f (doW 100 1 k).1)))).2.2) (aluV kind (some (fEval a.f v)) (some (fEval c.f v))) := fun k ek k100 => by
  have hlt := fConst_lt ek hcw.1
  have ec : fEval c.f v = k := by rw [fConst_eq hc.1 ek, fEval_const hlt hv]
  subst k100
  refine conv _ _ (fMul_len _ ha.1) (fMul_lt _ _) (fEval_mul _ ha.1 hv) (by simp [doW]) ?_
  rw [ec, doW_const_lsh]
  simp [doW, Nat.mul_mod]
 split at ht
 ·rename_i u k eu ek
  try simp only [eu, ek]
  split at ht
  ·rename_i k36
   rw [if_pos k36]
   exact mul k ek k36
  ·rename_i k36
   rw [if_neg k36]
   split at ht
   ·rename_i k100
    rw [if_pos k100]
    exact lsh k ek k100
   ·rename_i k100
    rw [if_neg k100]
    simp only at ht
    have hu := fConst_lt eu haw.1
    have hk' := fConst_lt ek hcw.1
    have e1 : fEval a.f v = u := by rw [fConst_eq ha.1 eu, fEval_const hu hv]
    have e2 : fEval c.f v = k := by rw [fConst_eq hc.1 ek, fEval_const hk' hv]
    have hlt := doW32 kind hu hk'
    rw [e1, e2, aluV_some ht]
    have := sum_res (v := v) h (f := (doW kind u k).1 :: zeros 34) (by simp) (const_lt hlt)
    rwa [fEval_const hlt hv] at this
 ·rename_i k eu ek
  try simp only [eu, ek]
  split at ht
  ·rename_i k36
   rw [if_pos k36]
   exact mul k ek k36
  ·rename_i k36
   rw [if_neg k36]
   split at ht
   ·rename_i k100
    rw [if_pos k100]
    exact lsh k ek k100
   ·simp [noR] at ht
 ·rename_i u eu ek
  try simp only [eu, ek]
  split at ht
  ·rename_i k36
   rw [if_pos k36]
   have hu := fConst_lt eu haw.1
   have e1 : fEval a.f v = u := by rw [fConst_eq ha.1 eu, fEval_const hu hv]
   subst k36
   refine conv _ _ (fMul_len _ hc.1) (fMul_lt _ _) (fEval_mul u hc.1 hv) (by simp [doW]) ?_
   rw [e1]; simp [doW, Nat.mul_comm]
  ·simp [noR] at ht
 ·simp [noR] at ht
theorem both_res {kind : Int} {a c : Nd} (h : Inv L) (ha : a.wf) (hc : c.wf) (hv : v.length = 34) (hvw : ∀ x ∈ v, x < 4294967296) (ht : (bothN L kind a c).2.1 = true) :
  ∃ p q, asB a = some p ∧ asB c = some q ∧ Res v ((bothN L kind a c).1, (bothN L kind a c).2.2) (aluV kind (some (val p.1 p.2 (asg v))) (some (val q.1 q.2 (asg v)))) := by
 cases e1 : asB a with
 | none => simp [bothN, e1, noR] at ht
 | some p =>
  cases e2 : asB c with
  | none => simp [bothN, e1, e2, noR] at ht
  | some q =>
   cases e3 : bdo kind p q with
   | none => simp [bothN, e1, e2, e3, noR] at ht
   | some r =>
    refine ⟨p, q, rfl, rfl, ?_⟩
    simp only [bothN, e1, e2, e3, okP]
    obtain ⟨hok, hR, hw, hs⟩ := bdo_some e3
    have hd : ∀ x y, (doW kind x y).2 = true := fun x y => by rcases hok.1 with rfl | rfl | rfl <;> simp [doW]
    rw [aluV_some (hd _ _), ← val_do hok.1 hs]
    exact bits_res h hR hw hv hvw
theorem and_full {a : Nat} (ha : a < 4294967296) : a &&& 4294967295 = a := by
 rw [show 4294967295 = 2 ^ 32 - 1 from rfl, Nat.and_two_pow_sub_one_eq_mod]
 exact Nat.mod_eq_of_lt ha
theorem plain_res {kind : Int} {c : Nd} {x y : Int} {ox oy : Option Nat} (hx : ∀ w, ox = some w → w < 4294967296) (hc : c.ok) (hcw : c.wf) (hv : v.length = 34) (hy : c.kind = 0 → oy = some (fEval c.f v)) (hxy : x = y → ox = oy)
  (ht : (plainN kind (constA c) x y).2 = true) : (plainN kind (constA c) x y).1 = x ∧ ox = aluV kind ox oy := by
 have hk : ∀ k, constA c = some k → oy = some k := fun k hk => by
  rw [constA] at hk
  split at hk
  ·rename_i k0
   rw [hy k0, fConst_eq hc.1 hk, fEval_const (fConst_lt hk hcw.1) hv]
  ·cases hk
 have zero : constA c = some 0 → (∀ w, w < 4294967296 → doW kind w 0 = (w, true)) → ox = aluV kind ox oy := fun h0 hd => by
  rw [hk 0 h0]
  cases ox with
  | none => rfl
  | some w => simp only [aluV, hd w (hx w rfl), if_true]
 have same : x = y → (∀ w, w < 4294967296 → doW kind w w = (w, true)) → ox = aluV kind ox oy := fun h0 hd => by
  rw [← hxy h0]
  cases ox with
  | none => rfl
  | some w => simp only [aluV, hd w (hx w rfl), if_true]
 rw [plainN] at ht ⊢
 split at ht
 ·rename_i hkk
  rw [if_pos hkk]
  refine ⟨rfl, zero (by simpa using ht) fun w hw => ?_⟩
  rcases hkk with rfl | rfl | rfl | rfl <;> simp [doW] <;> omega
 ·rename_i h1
  rw [if_neg h1]
  split at ht
  ·rename_i h2
   rw [if_pos h2]
   subst h2
   refine ⟨rfl, ?_⟩
   simp at ht
   rcases ht with h | h
   ·exact zero h fun w hw => by simp [doW]
   ·exact same h fun w hw => by simp [doW]
  ·rename_i h2
   rw [if_neg h2]
   split at ht
   ·rename_i h3
    rw [if_pos h3]
    subst h3
    exact ⟨rfl, zero (by simpa using ht) fun w hw => by simp [doW]⟩
   ·rename_i h3
    rw [if_neg h3]
    split at ht
    ·rename_i h4
     rw [if_pos h4]
     subst h4
     refine ⟨rfl, ?_⟩
     simp at ht
     rcases ht with h | h
     ·rw [hk _ h]
      cases ox with
      | none => rfl
      | some w => simp [aluV, doW, ones, and_full (hx w rfl)]
     ·exact same h fun w hw => by simp [doW]
    ·simp at ht
theorem doW_swap {kind : Int} (h : swapsB kind = true) (a b : Nat) : doW kind a b = doW kind b a := by
 simp [swapsB] at h
 obtain ⟨h1, h2, h3, h4⟩ := h
 simp only [doW, h1, h2, h3, h4, if_false, Nat.add_comm a b, Nat.mul_comm a b, Nat.or_comm a b, Nat.and_comm a b, Nat.xor_comm a b]
theorem aluV_swap {kind : Int} (h : swapsB kind = true) (o o' : Option Nat) : aluV kind o o' = aluV kind o' o := by
 cases o <;> cases o' <;> simp [aluV]
 rw [doW_swap h]
theorem valI_lt {i : Nat} {w : Nat} (h : Inv L) (hw : valI v L i = some w) : w < 4294967296 := by
 rw [valI_nat] at hw
 cases e : (vals v L)[i]? with
 | none => rw [e] at hw; cases hw
 | some o =>
  rw [e] at hw
  have := vals_lt (k := L.length) (o := o) (i := i) h (by rw [List.take_length]; exact e)
  rw [show o = some w from hw] at this
  exact this
theorem alu_res {kind x y : Int} (h : Inv L) (hv : v.length = 34) (hvw : ∀ c ∈ v, c < 4294967296) (hk : (doW kind 0 1).2 = true) (hx : hasI L x = true) (hy : hasI L y = true) :
  Res v (bAlu L kind x y) (aluV kind (valI v L x) (valI v L y)) := by
 rw [bAlu, if_pos ⟨hk, hx, hy⟩]
 obtain ⟨hx0, hx1⟩ : 0 ≤ x ∧ x < L.length := by simpa [hasI] using hx
 obtain ⟨hy0, hy1⟩ : 0 ≤ y ∧ y < L.length := by simpa [hasI] using hy
 obtain ⟨xn, rfl⟩ := Int.eq_ofNat_of_zero_le hx0
 obtain ⟨yn, rfl⟩ := Int.eq_ofNat_of_zero_le hy0
 obtain ⟨a, ha⟩ : ∃ a, L[xn]? = some a := ⟨_, get_in (by omega)⟩
 obtain ⟨c, hc⟩ : ∃ c, L[yn]? = some c := ⟨_, get_in (by omega)⟩
 have hga := h.good _ _ ha
 have hgc := h.good _ _ hc
 simp only [Int.toNat_natCast, ha, hc]
 have e1 := sums_ext (kind := kind) h hga.1 hgc.1 hga.2.1 hgc.2.1
 obtain ⟨L1, hL1⟩ : ∃ L1, L1 = (sumsN L kind a c).2.2 := ⟨_, rfl⟩
 rw [← hL1] at e1
 have l1 := e1.pre.length_le
 have vx := valI_at (v := v) h ha
 have vy := valI_at (v := v) h hc
 have vx1 := valI_ext (v := v) e1 (i := xn) (by omega)
 have vy1 := valI_ext (v := v) e1 (i := yn) (by omega)
 have e2 := both_ext (kind := kind) e1.inv hga.2.1 hgc.2.1
 rw [bAlu2]
 simp only [← hL1]
 split
 ·rename_i ht
  obtain ⟨k1, k2, hr⟩ := sums_res (v := v) h hga.1 hgc.1 hga.2.1 hgc.2.1 hv ht
  rw [vx, vy, nval, if_pos k1, nval, if_pos k2, hL1]
  exact hr
 ·split
  ·rename_i ht
   obtain ⟨p, q, hp, hq, hr⟩ := both_res (v := v) e1.inv hga.2.1 hgc.2.1 hv hvw ht
   rw [vx, vy, nval_asB hga.1 hga.2.1 hp hv hvw, nval_asB hgc.1 hgc.2.1 hq hv hvw]
   exact hr
  ·have kx : a.kind = 0 → valI v L xn = some (fEval a.f v) := fun k => by rw [vx, nval, if_pos k]
   have ky : c.kind = 0 → valI v L yn = some (fEval c.f v) := fun k => by rw [vy, nval, if_pos k]
   split
   ·rename_i ht
    obtain ⟨h1, h2⟩ := plain_res (v := v) (x := (xn : Int)) (y := (yn : Int)) (fun w hw => valI_lt h hw) hgc.1 hgc.2.1 hv ky (fun e => by rw [e]) ht
    refine ⟨xn, h1, by show xn < L1.length; omega, ?_⟩
    rw [← h2]
    exact vx1
   ·split
    ·rename_i ht
     obtain ⟨h1, h2⟩ := plain_res (v := v) (x := (yn : Int)) (y := (xn : Int)) (fun w hw => valI_lt h hw) hga.1 hga.2.1 hv kx (fun e => by rw [e]) ht.2
     refine ⟨yn, h1, by show yn < L1.length; omega, ?_⟩
     rw [aluV_swap ht.1, ← h2]
     exact vy1
    ·have deed : ∀ u w : Nat, u < L.length → w < L.length → Res v (putN L1 (deedNd kind u w)) (aluV kind (valI v L u) (valI v L w)) := fun u w hu hw => by
      have := put_res (v := v) e1.inv (deed_good (kind := kind) (x := u) (y := w) hk (by omega) (by omega))
      have e : nval v (vals v L1) (deedNd kind u w) = aluV kind (valI v L u) (valI v L w) := by
       rw [← valI_ext (v := v) e1 hu, ← valI_ext (v := v) e1 hw, valI_nat, valI_nat]; rfl
      rwa [e] at this
     split
     ·rename_i ht
      rw [aluV_swap ht.1]
      exact deed yn xn (by omega) (by omega)
     ·exact deed xn yn (by omega) (by omega)
theorem var_res {i : Int} (h : Inv L) (hv : v.length = 34) (hvw : ∀ c ∈ v, c < 4294967296) (h0 : 0 ≤ i) (h1 : i < 34) : Res v (varN L i) (some (v[i.toNat]?.getD 0)) := by
 rw [varN, if_pos ⟨h0, h1⟩]
 have := sum_res (v := v) h (varL_len i.toNat) (varL_lt _)
 rw [fEval_var (by omega) hv hvw] at this
 rw [get_in (by omega)]
 exact this
theorem const_res {c : Nat} (h : Inv L) (hv : v.length = 34) (hc : c < 4294967296) : Res v (putN L (sumNd (c :: zeros 34))) (some c) := by
 have := sum_res (v := v) h (f := c :: zeros 34) (by simp) (const_lt hc)
 rwa [fEval_const hc hv] at this
theorem neg_res {x : Int} (h : Inv L) (hv : v.length = 34) (hvw : ∀ c ∈ v, c < 4294967296) (hx : hasI L x = true) : Res v (bNeg L x) ((valI v L x).map negW) := by
 rw [bNeg, if_pos hx]
 obtain ⟨hx0, hx1⟩ : 0 ≤ x ∧ x < L.length := by simpa [hasI] using hx
 obtain ⟨xn, rfl⟩ := Int.eq_ofNat_of_zero_le hx0
 have e := zero_ext h
 obtain ⟨i, h1, h2, h3⟩ := const_res (v := v) h hv (c := 0) (by decide)
 have hl := e.pre.length_le
 have r := alu_res (v := v) (kind := 20) (x := (negN' L).1) (y := (xn : Int)) e.inv hv hvw (by decide) (by rw [negN', h1]; simp [hasI]; exact h2) (by simp [hasI]; omega)
 have e1 : valI v (negN' L).2 (negN' L).1 = some 0 := by rw [negN', h1]; exact h3
 rw [e1, valI_ext e (by omega)] at r
 have e2 : aluV 20 (some 0) (valI v L xn) = (valI v L xn).map negW := by
  cases valI v L xn with
  | none => rfl
  | some w => simp [aluV, doW, negW]
 rwa [e2] at r
end Go.Ev
