/- What arithmetic in a book comes to: plain laws. -/
import Derived.Test.YtnkcdbffakcekaaDoorLowJW
import Derived.Test.YtnkcdbffakcekaaDoorEvNW
import Derived.Test.YtnkcdbffakcekaaDoorInsAW
import Derived.KernelRfl
import Derived.Test.YtnkcdbffakcekaaDoorEvRunCW
set_option linter.unusedVariables false
set_option linter.unusedSimpArgs false
namespace Go.Ev
open Go Go.RowKit
set_option maxRecDepth 10000
set_option maxHeartbeats 4000000
set_option linter.unusedSimpArgs false
set_option linter.unusedVariables false
variable {L L' : List Nd} {v : List Nat}
theorem val_const {c : Nat} (hc : c < 4294967296) (r : Int → Nat) : val [] [c] r = c := by
 rw [val, ← wordOf_self (w := c) hc]
 exact wordOf_ext fun i hi => by simp [sem, idx, wordOf_self (w := c) hc]
theorem val_var (i : Int) (r : Int → Nat) (hr : r i < 4294967296) : val [i] [0, ones] r = r i := by
 rw [val, ← wordOf_self (w := r i) hr]
 refine wordOf_ext fun j hj => ?_
 have e : ones.testBit j = true := by rw [ones, show 4294967295 = 2 ^ 32 - 1 from rfl, Nat.testBit_two_pow_sub_one]; simpa using hj
 cases h : (r i).testBit j <;> simp [sem, idx, h, e]
theorem xor_full {a : Nat} (ha : a < 4294967296) : a ^^^ ones = 4294967295 - a := by
 refine Nat.eq_of_testBit_eq fun j => ?_
 rw [Nat.testBit_xor, ones, show 4294967295 = 2 ^ 32 - 1 from rfl, Nat.testBit_two_pow_sub_one, show 2 ^ 32 - 1 - a = 2 ^ 32 - (a + 1) by omega, Nat.testBit_two_pow_sub_succ ha]
 by_cases hj : j < 32
 ·simp [hj]
 ·simp only [hj, decide_false, Bool.false_and, Bool.xor_false]
  exact Nat.testBit_lt_two_pow (Nat.lt_of_lt_of_le ha (Nat.pow_le_pow_right (n := 2) (i := 32) (by decide) (by omega)))
theorem val_not (i : Int) (r : Int → Nat) (hr : r i < 4294967296) : val [i] [ones, 0] r = 4294967295 - r i := by
 have h := val_do (kind := 164) (fv := [i]) (gv := []) (vs := [i]) (ft := [0, ones]) (gt := [ones]) (tab := [ones, 0]) (.inr (.inr rfl)) (fun p => by cases h : p i <;> simp [sem, idx, h, doW, ones]) r
 rw [val_var i r hr, val_const (by decide)] at h
 simp only [doW] at h
 rw [h]
 simp
 exact xor_full hr
theorem fConst_eq {f : List Nat} {c : Nat} (hf : f.length = 35) (h : fConst f = some c) : f = c :: zeros 34 := by
 obtain ⟨d, t, rfl, ht⟩ := head_tail hf
 rw [fConst] at h
 split at h
 ·rename_i e
  cases h
  rw [← e]; rfl
 ·cases h
theorem fOne_eq {f : List Nat} {i : Nat} (h : fOne f = some i) : f = varL i := by
 have := List.find?_some h
 simpa using this
theorem valI_nat (i : Nat) : valI v L i = (vals v L)[i]?.join := by
 rw [valI]
 by_cases h : i < L.length
 ·have : hasI L i = true := by simp [hasI]; exact h
  rw [if_pos this]; rfl
 ·have : ¬ hasI L i = true := by simp [hasI]; omega
  rw [if_neg this, List.getElem?_eq_none (by rw [vals_len]; omega)]; rfl
theorem nval_pre {a : Nd} {i : Nat} (ha : a.good i) (hl : i ≤ L.length) : nval v (vals v (L.take i)) a = nval v (vals v L) a := by
 rw [nval, nval]
 split
 ·rfl
 ·split
  ·rfl
  ·rcases ha.2.2 with h | h | ⟨_, hx, hy, _⟩
   ·contradiction
   ·contradiction
   ·rw [← vals_take, List.getElem?_take, if_pos hx, List.getElem?_take, if_pos hy]
theorem valI_at {i : Nat} {a : Nd} (h : Inv L) (ha : L[i]? = some a) : valI v L i = nval v (vals v L) a := by
 rw [valI_nat, vals_at ha, nval_pre (h.good i a ha) (by have := (List.getElem?_eq_some_iff.1 ha).1; omega)]
 rfl
theorem valI_ext {k i : Nat} (h : Ext L L' k) (hi : i < L.length) : valI v L' i = valI v L i := by
 rw [valI_nat, valI_nat, pre_get (vals_pre h.pre) (get_in (by rw [vals_len]; exact hi)), get_in (by rw [vals_len]; exact hi)]
theorem nval_asB {a : Nd} {p : List Int × List Nat} {acc : List (Option Nat)} (ha : a.ok) (haw : a.wf) (hp : asB a = some p) (hv : v.length = 34) (hw : ∀ x ∈ v, x < 4294967296) : nval v acc a = some (val p.1 p.2 (asg v)) := by
 by_cases h1 : a.kind = 1
 ·rw [nval, if_neg (by omega), if_pos h1, hp]; rfl
 ·have h0 : a.kind = 0 := by
   by_cases h0 : a.kind = 0
   ·exact h0
   ·rw [asB, if_neg h1, if_neg h0] at hp; cases hp
  have hg : ∀ (i : Nat) (h : i < 34), asg v (i : Int) = v[i]'(by omega) := fun i h => by
   rw [asg, Int.toNat_natCast, List.getD_eq_getElem?_getD, get_in (by omega)]; rfl
  have hgl : ∀ i : Nat, i < 34 → asg v (i : Int) < 4294967296 := fun i h => by rw [hg i h]; exact hw _ (List.getElem_mem _)
  rw [nval, if_pos h0]
  rw [asB, if_neg h1, if_pos h0] at hp
  congr 1
  split at hp
  ·rename_i c hc
   cases hp
   have hlt := fConst_lt hc haw.1
   rw [fConst_eq ha.1 hc, fEval_const hlt hv, val_const hlt]
  ·split at hp
   ·rename_i i hi
    cases hp
    have hl := fOne_lt hi
    rw [fOne_eq hi, fEval_var hl hv hw, val_var _ _ (hgl i hl), hg i hl]
   ·split at hp
    ·rename_i i hi
     cases hp
     have hl := fOne_lt hi
     have e := congrArg (fEval · v) (fOne_eq hi)
     rw [fEval_sub (by simp) ha.1 haw.1 hv, fEval_var hl hv hw, fEval_const (by decide) hv] at e
     have hb := fEval_lt a.f v
     rw [val_not _ _ (hgl i hl), hg i hl, ← e]
     simp only [ones]
     omega
    ·cases hp
def Res (v : List Nat) (p : Int × List Nd) (o : Option Nat) : Prop := ∃ i : Nat, p.1 = i ∧ i < p.2.length ∧ valI v p.2 i = o
theorem put_res {a : Nd} (h : Inv L) (ha : a.good L.length) : Res v (putN L a) (nval v (vals v L) a) := by
 obtain ⟨e, i, h1, h2⟩ := put_ext h ha
 refine ⟨i, h1, (List.getElem?_eq_some_iff.1 h2).1, ?_⟩
 rw [valI_at e.inv h2]
 have : L = (putN L a).2.take L.length := by
  obtain ⟨t, ht⟩ := e.pre
  rw [← ht, List.take_left' rfl]
 conv => rhs; rw [this]
 rw [nval_pre ha e.pre.length_le]
theorem sum_res {f : List Nat} (h : Inv L) (hf : f.length = 35) (hw : ∀ c ∈ f, c < 4294967296) : Res v (putN L (sumNd f)) (some (fEval f v)) := put_res h (sum_good hf hw _)
theorem bits_res {fv : List Int} {ft : List Nat} (h : Inv L) (hR : Right fv ft) (hw : ∀ c ∈ ft, c < 4294967296) (hv : v.length = 34) (hvw : ∀ x ∈ v, x < 4294967296) : Res v (bitsN L fv ft) (some (val fv ft (asg v))) := by
 obtain ⟨e, i, a, h1, h2, h3⟩ := bits_ext h hR hw
 refine ⟨i, h1, (List.getElem?_eq_some_iff.1 h2).1, ?_⟩
 have hg := e.inv.good i a h2
 rw [valI_at e.inv h2, nval_asB hg.1 hg.2.1 h3 hv hvw]
theorem aluV_some {kind : Int} {a c : Nat} (h : (doW kind a c).2 = true) : aluV kind (some a) (some c) = some (doW kind a c).1 := by rw [aluV]; simp only [h, if_true]
theorem doW_const_lsh {k : Nat} : (doW 100 1 k).1 = 2 ^ (k % 32) % 4294967296 := by simp [doW]
theorem sums_res {kind : Int} {a c : Nd} (h : Inv L) (ha : a.ok) (hc : c.ok) (haw : a.wf) (hcw : c.wf) (hv : v.length = 34) (ht : (sumsN L kind a c).2.1 = true) :
  a.kind = 0 ∧ c.kind = 0 ∧ Res v ((sumsN L kind a c).1, (sumsN L kind a c).2.2) (aluV kind (some (fEval a.f v)) (some (fEval c.f v))) := by
 rw [sumsN] at ht ⊢
 split at ht
 case isFalse => simp [noR] at ht
 rename_i hk
 rw [if_pos hk]
 refine ⟨hk.1, hk.2, ?_⟩
 have conv : ∀ (f : List Nat) (n : Nat), f.length = 35 → (∀ c ∈ f, c < 4294967296) → fEval f v = n → (doW kind (fEval a.f v) (fEval c.f v)).2 = true → (doW kind (fEval a.f v) (fEval c.f v)).1 = n →
   Res v ((okP (putN L (sumNd f))).1, (okP (putN L (sumNd f))).2.2) (aluV kind (some (fEval a.f v)) (some (fEval c.f v))) := fun f n hf hw e h1 h2 => by
  rw [aluV_some h1, h2, ← e]
  exact sum_res h hf hw
 by_cases k4 : kind = 4
 ·simp only [k4, if_true] at ht ⊢
  subst k4
  exact conv _ _ (fAdd_len ha.1 hc.1) (fAdd_lt _ _) (fEval_add ha.1 hc.1 hv) (by simp [doW]) (by simp [doW])
 by_cases k20 : kind = 20
 ·simp only [k4, k20, if_true, if_false] at ht ⊢
  subst k20
  exact conv _ _ (fSub_len ha.1 hc.1) (fSub_lt _ _) (fEval_sub ha.1 hc.1 hcw.1 hv) (by simp [doW]) (by simp [doW])
 simp only [k4, k20, if_false] at ht ⊢
 have mul : ∀ k, fConst c.f = some k → kind = 36 → Res v ((okP (putN L (sumNd (fMul a.f k)))).1, (okP (putN L (sumNd (fMul a.f k)))).2.2) (aluV kind (some (fEval a.f v)) (some (fEval c.f v))) := fun k ek k36 => by
  have hlt := fConst_lt ek hcw.1
  have ec : fEval c.f v = k := by rw [fConst_eq hc.1 ek, fEval_const hlt hv]
  subst k36
  exact conv _ _ (fMul_len _ ha.1) (fMul_lt _ _) (fEval_mul k ha.1 hv) (by simp [doW]) (by rw [ec]; simp [doW])
 have lsh : ∀ k, fConst c.f = some k → kind = 100 → Res v ((okP (putN L (sumNd (fMul a.f (doW 100 1 k).1)))).1, (okP (putN L (sumNd (fMul a.f (doW 100 1 k).1)))).2.2) (aluV kind (some (fEval a.f v)) (some (fEval c.f v))) := fun k ek k100 => by
  have hlt := fConst_lt ek hcw.1
  have ec : fEval c.f v = k := by rw [fConst_eq hc.1 ek, fEval_const hlt hv]
  subst k100
  refine conv _ _ (fMul_len _ ha.1) (fMul_lt _ _) (fEval_mul _ ha.1 hv) (by simp [doW]) ?_
  rw [ec, doW_const_lsh]
  simp [doW, Nat.mul_mod]
 split at ht
 ·rename_i u k eu ek
  try simp only [eu, ek]
  split at ht
  ·rename_i k36
   rw [if_pos k36]
   exact mul k ek k36
  ·rename_i k36
   rw [if_neg k36]
   split at ht
   ·rename_i k100
    rw [if_pos k100]
    exact lsh k ek k100
   ·rename_i k100
    rw [if_neg k100]
    simp only at ht
    have hu := fConst_lt eu haw.1
    have hk' := fConst_lt ek hcw.1
    have e1 : fEval a.f v = u := by rw [fConst_eq ha.1 eu, fEval_const hu hv]
    have e2 : fEval c.f v = k := by rw [fConst_eq hc.1 ek, fEval_const hk' hv]
    have hlt := doW32 kind hu hk'
    rw [e1, e2, aluV_some ht]
    have := sum_res (v := v) h (f := (doW kind u k).1 :: zeros 34) (by simp) (const_lt hlt)
    rwa [fEval_const hlt hv] at this
 ·rename_i k eu ek
  try simp only [eu, ek]
  split at ht
  ·rename_i k36
   rw [if_pos k36]
   exact mul k ek k36
  ·rename_i k36
   rw [if_neg k36]
   split at ht
   ·rename_i k100
    rw [if_pos k100]
    exact lsh k ek k100
   ·simp [noR] at ht
 ·rename_i u eu ek
  try simp only [eu, ek]
  split at ht
  ·rename_i k36
   rw [if_pos k36]
   have hu := fConst_lt eu haw.1
   have e1 : fEval a.f v = u := by rw [fConst_eq ha.1 eu, fEval_const hu hv]
   subst k36
   refine conv _ _ (fMul_len _ hc.1) (fMul_lt _ _) (fEval_mul u hc.1 hv) (by simp [doW]) ?_
   rw [e1]; simp [doW, Nat.mul_comm]
  ·simp [noR] at ht
 ·simp [noR] at ht
theorem both_res {kind : Int} {a c : Nd} (h : Inv L) (ha : a.wf) (hc : c.wf) (hv : v.length = 34) (hvw : ∀ x ∈ v, x < 4294967296) (ht : (bothN L kind a c).2.1 = true) :
  ∃ p q, asB a = some p ∧ asB c = some q ∧ Res v ((bothN L kind a c).1, (bothN L kind a c).2.2) (aluV kind (some (val p.1 p.2 (asg v))) (some (val q.1 q.2 (asg v)))) := by
 cases e1 : asB a with
 | none => simp [bothN, e1, noR] at ht
 | some p =>
  cases e2 : asB c with
  | none => simp [bothN, e1, e2, noR] at ht
  | some q =>
   cases e3 : bdo kind p q with
   | none => simp [bothN, e1, e2, e3, noR] at ht
   | some r =>
    refine ⟨p, q, rfl, rfl, ?_⟩
    simp only [bothN, e1, e2, e3, okP]
    obtain ⟨hok, hR, hw, hs⟩ := bdo_some e3
    have hd : ∀ x y, (doW kind x y).2 = true := fun x y => by rcases hok.1 with rfl | rfl | rfl <;> simp [doW]
    rw [aluV_some (hd _ _), ← val_do hok.1 hs]
    exact bits_res h hR hw hv hvw
theorem and_full {a : Nat} (ha : a < 4294967296) : a &&& 4294967295 = a := by
 rw [show 4294967295 = 2 ^ 32 - 1 from rfl, Nat.and_two_pow_sub_one_eq_mod]
 exact Nat.mod_eq_of_lt ha
theorem plain_res {kind : Int} {c : Nd} {x y : Int} {ox oy : Option Nat} (hx : ∀ w, ox = some w → w < 4294967296) (hc : c.ok) (hcw : c.wf) (hv : v.length = 34) (hy : c.kind = 0 → oy = some (fEval c.f v)) (hxy : x = y → ox = oy)
  (ht : (plainN kind (constA c) x y).2 = true) : (plainN kind (constA c) x y).1 = x ∧ ox = aluV kind ox oy := by
 have hk : ∀ k, constA c = some k → oy = some k := fun k hk => by
  rw [constA] at hk
  split at hk
  ·rename_i k0
   rw [hy k0, fConst_eq hc.1 hk, fEval_const (fConst_lt hk hcw.1) hv]
  ·cases hk
 have zero : constA c = some 0 → (∀ w, w < 4294967296 → doW kind w 0 = (w, true)) → ox = aluV kind ox oy := fun h0 hd => by
  rw [hk 0 h0]
  cases ox with
  | none => rfl
  | some w => simp only [aluV, hd w (hx w rfl), if_true]
 have same : x = y → (∀ w, w < 4294967296 → doW kind w w = (w, true)) → ox = aluV kind ox oy := fun h0 hd => by
  rw [← hxy h0]
  cases ox with
  | none => rfl
  | some w => simp only [aluV, hd w (hx w rfl), if_true]
 rw [plainN] at ht ⊢
 split at ht
 ·rename_i hkk
  rw [if_pos hkk]
  refine ⟨rfl, zero (by simpa using ht) fun w hw => ?_⟩
  rcases hkk with rfl | rfl | rfl | rfl <;> simp [doW] <;> omega
 ·rename_i h1
  rw [if_neg h1]
  split at ht
  ·rename_i h2
   rw [if_pos h2]
   subst h2
   refine ⟨rfl, ?_⟩
   simp at ht
   rcases ht with h | h
   ·exact zero h fun w hw => by simp [doW]
   ·exact same h fun w hw => by simp [doW]
  ·rename_i h2
   rw [if_neg h2]
   split at ht
   ·rename_i h3
    rw [if_pos h3]
    subst h3
    exact ⟨rfl, zero (by simpa using ht) fun w hw => by simp [doW]⟩
   ·rename_i h3
    rw [if_neg h3]
    split at ht
    ·rename_i h4
     rw [if_pos h4]
     subst h4
     refine ⟨rfl, ?_⟩
     simp at ht
     rcases ht with h | h
     ·rw [hk _ h]
      cases ox with
      | none => rfl
      | some w => simp [aluV, doW, ones, and_full (hx w rfl)]
     ·exact same h fun w hw => by simp [doW]
    ·simp at ht
theorem doW_swap {kind : Int} (h : swapsB kind = true) (a b : Nat) : doW kind a b = doW kind b a := by
 simp [swapsB] at h
 obtain ⟨h1, h2, h3, h4⟩ := h
 simp only [doW, h1, h2, h3, h4, if_false, Nat.add_comm a b, Nat.mul_comm a b, Nat.or_comm a b, Nat.and_comm a b, Nat.xor_comm a b]
theorem aluV_swap {kind : Int} (h : swapsB kind = true) (o o' : Option Nat) : aluV kind o o' = aluV kind o' o := by
 cases o <;> cases o' <;> simp [aluV]
 rw [doW_swap h]
theorem valI_lt {i : Nat} {w : Nat} (h : Inv L) (hw : valI v L i = some w) : w < 4294967296 := by
 rw [valI_nat] at hw
 cases e : (vals v L)[i]? with
 | none => rw [e] at hw; cases hw
 | some o =>
  rw [e] at hw
  have := vals_lt (k := L.length) (o := o) (i := i) h (by rw [List.take_length]; exact e)
  rw [show o = some w from hw] at this
  exact this
theorem alu_res {kind x y : Int} (h : Inv L) (hv : v.length = 34) (hvw : ∀ c ∈ v, c < 4294967296) (hk : (doW kind 0 1).2 = true) (hx : hasI L x = true) (hy : hasI L y = true) :
  Res v (bAlu L kind x y) (aluV kind (valI v L x) (valI v L y)) := by
 rw [bAlu, if_pos ⟨hk, hx, hy⟩]
 obtain ⟨hx0, hx1⟩ : 0 ≤ x ∧ x < L.length := by simpa [hasI] using hx
 obtain ⟨hy0, hy1⟩ : 0 ≤ y ∧ y < L.length := by simpa [hasI] using hy
 obtain ⟨xn, rfl⟩ := Int.eq_ofNat_of_zero_le hx0
 obtain ⟨yn, rfl⟩ := Int.eq_ofNat_of_zero_le hy0
 obtain ⟨a, ha⟩ : ∃ a, L[xn]? = some a := ⟨_, get_in (by omega)⟩
 obtain ⟨c, hc⟩ : ∃ c, L[yn]? = some c := ⟨_, get_in (by omega)⟩
 have hga := h.good _ _ ha
 have hgc := h.good _ _ hc
 simp only [Int.toNat_natCast, ha, hc]
 have e1 := sums_ext (kind := kind) h hga.1 hgc.1 hga.2.1 hgc.2.1
 obtain ⟨L1, hL1⟩ : ∃ L1, L1 = (sumsN L kind a c).2.2 := ⟨_, rfl⟩
 rw [← hL1] at e1
 have l1 := e1.pre.length_le
 have vx := valI_at (v := v) h ha
 have vy := valI_at (v := v) h hc
 have vx1 := valI_ext (v := v) e1 (i := xn) (by omega)
 have vy1 := valI_ext (v := v) e1 (i := yn) (by omega)
 have e2 := both_ext (kind := kind) e1.inv hga.2.1 hgc.2.1
 rw [bAlu2]
 simp only [← hL1]
 split
 ·rename_i ht
  obtain ⟨k1, k2, hr⟩ := sums_res (v := v) h hga.1 hgc.1 hga.2.1 hgc.2.1 hv ht
  rw [vx, vy, nval, if_pos k1, nval, if_pos k2, hL1]
  exact hr
 ·split
  ·rename_i ht
   obtain ⟨p, q, hp, hq, hr⟩ := both_res (v := v) e1.inv hga.2.1 hgc.2.1 hv hvw ht
   rw [vx, vy, nval_asB hga.1 hga.2.1 hp hv hvw, nval_asB hgc.1 hgc.2.1 hq hv hvw]
   exact hr
  ·have kx : a.kind = 0 → valI v L xn = some (fEval a.f v) := fun k => by rw [vx, nval, if_pos k]
   have ky : c.kind = 0 → valI v L yn = some (fEval c.f v) := fun k => by rw [vy, nval, if_pos k]
   split
   ·rename_i ht
    obtain ⟨h1, h2⟩ := plain_res (v := v) (x := (xn : Int)) (y := (yn : Int)) (fun w hw => valI_lt h hw) hgc.1 hgc.2.1 hv ky (fun e => by rw [e]) ht
    refine ⟨xn, h1, by show xn < L1.length; omega, ?_⟩
    rw [← h2]
    exact vx1
   ·split
    ·rename_i ht
     obtain ⟨h1, h2⟩ := plain_res (v := v) (x := (yn : Int)) (y := (xn : Int)) (fun w hw => valI_lt h hw) hga.1 hga.2.1 hv kx (fun e => by rw [e]) ht.2
     refine ⟨yn, h1, by show yn < L1.length; omega, ?_⟩
     rw [aluV_swap ht.1, ← h2]
     exact vy1
    ·have deed : ∀ u w : Nat, u < L.length → w < L.length → Res v (putN L1 (deedNd kind u w)) (aluV kind (valI v L u) (valI v L w)) := fun u w hu hw => by
      have := put_res (v := v) e1.inv (deed_good (kind := kind) (x := u) (y := w) hk (by omega) (by omega))
      have e : nval v (vals v L1) (deedNd kind u w) = aluV kind (valI v L u) (valI v L w) := by
       rw [← valI_ext (v := v) e1 hu, ← valI_ext (v := v) e1 hw, valI_nat, valI_nat]; rfl
      rwa [e] at this
     split
     ·rename_i ht
      rw [aluV_swap ht.1]
      exact deed yn xn (by omega) (by omega)
     ·exact deed xn yn (by omega) (by omega)
theorem var_res {i : Int} (h : Inv L) (hv : v.length = 34) (hvw : ∀ c ∈ v, c < 4294967296) (h0 : 0 ≤ i) (h1 : i < 34) : Res v (varN L i) (some (v[i.toNat]?.getD 0)) := by
 rw [varN, if_pos ⟨h0, h1⟩]
 have := sum_res (v := v) h (varL_len i.toNat) (varL_lt _)
 rw [fEval_var (by omega) hv hvw] at this
 rw [get_in (by omega)]
 exact this
theorem const_res {c : Nat} (h : Inv L) (hv : v.length = 34) (hc : c < 4294967296) : Res v (putN L (sumNd (c :: zeros 34))) (some c) := by
 have := sum_res (v := v) h (f := c :: zeros 34) (by simp) (const_lt hc)
 rwa [fEval_const hc hv] at this
theorem neg_res {x : Int} (h : Inv L) (hv : v.length = 34) (hvw : ∀ c ∈ v, c < 4294967296) (hx : hasI L x = true) : Res v (bNeg L x) ((valI v L x).map negW) := by
 rw [bNeg, if_pos hx]
 obtain ⟨hx0, hx1⟩ : 0 ≤ x ∧ x < L.length := by simpa [hasI] using hx
 obtain ⟨xn, rfl⟩ := Int.eq_ofNat_of_zero_le hx0
 have e := zero_ext h
 obtain ⟨i, h1, h2, h3⟩ := const_res (v := v) h hv (c := 0) (by decide)
 have hl := e.pre.length_le
 have r := alu_res (v := v) (kind := 20) (x := (negN' L).1) (y := (xn : Int)) e.inv hv hvw (by decide) (by rw [negN', h1]; simp [hasI]; exact h2) (by simp [hasI]; omega)
 have e1 : valI v (negN' L).2 (negN' L).1 = some 0 := by rw [negN', h1]; exact h3
 rw [e1, valI_ext e (by omega)] at r
 have e2 : aluV 20 (some 0) (valI v L xn) = (valI v L xn).map negW := by
  cases valI v L xn with
  | none => rfl
  | some w => simp [aluV, doW, negW]
 rwa [e2] at r
end Go.Ev
/- The values behind an instruction of a window. -/
namespace Go.Ev
open Go Go.RowKit
variable {G : Tbl}
set_option maxRecDepth 10000
set_option maxHeartbeats 4000000
set_option linter.unusedSimpArgs false
set_option linter.unusedVariables false
variable {H : Heap} {b z m : Nat} {L : List Nd}
structure VS where
 L : List Nd
 p : List Int
 st : List Int
section
variable {p st : List Int} {tk : Tk}
end
theorem Bk.setz {z2 k n : Nat} (h : Bk H b z m L) (h2 : H[z2]? = some (some (.zone k))) (hne : z2 ≠ z) : Bk (H.set z2 (some (.zone n))) b z m L := by
 have e1 : z2 ≠ b := fun e => by rw [e, h.hb] at h2; simp [bookC] at h2
 have e2 : z2 ≠ m := fun e => by rw [e, h.hm] at h2; simp at h2
 refine ⟨by rw [List.getElem?_set_ne e1]; exact h.hb, by rw [List.getElem?_set_ne hne]; exact h.hz, by rw [List.getElem?_set_ne e2]; exact h.hm, fun n hn => ?_, h.ok, h.small⟩
 rw [List.length_set] at hn
 rw [map_set', h.shut n hn]
 rfl
section
variable {α : Type} {H l : List α} {n : Nat} (h : H.length = n)
include h
end
end Go.Ev
/- The values of a window. -/
namespace Go.Ev
open Go Go.RowKit
variable {G : Tbl}
set_option maxRecDepth 10000
set_option maxHeartbeats 1000000
set_option linter.unusedSimpArgs false
set_option linter.unusedVariables false
variable {H : Heap} {b z m : Nat} {L : List Nd}
structure VOk (L : List Nd) (s : VS) (k n : Nat) : Prop where
 ext : Ext L s.L k
 len : s.p.length = 18
 st : s.st.length ≤ n
end Go.Ev
/- Windows that are run, and their variables' numbers: plain. -/
namespace Go.Ev
open Go Go.RowKit
variable {G : Tbl}
set_option maxRecDepth 10000
set_option maxHeartbeats 2000000
set_option linter.unusedSimpArgs false
set_option linter.unusedVariables false
def runW (d : Da) : List In4 → St → St × Nat
 | [], s => (s, 0)
 | x :: w, s => if (stepS s x d).2 then ((runW d w (stepS s x d).1).1, (runW d w (stepS s x d).1).2 + 1) else (s, 0)
def stO (v : List Nat) : St := ⟨v.getD 0 0, v.getD 1 0, (v.drop 2).take 16⟩
end Go.Ev
/- A window's values are what it makes of a state: plain laws. -/
namespace Go.Ev
open Go Go.RowKit
set_option maxRecDepth 10000
set_option maxHeartbeats 1000000
set_option linter.unusedSimpArgs false
set_option linter.unusedVariables false
variable {L L' : List Nd} {v : List Nat}
theorem hasI_nat {n : Nat} (h : n < L.length) : hasI L (n : Int) = true := by simp [hasI]; exact h
theorem valI_extI {k : Nat} {x : Int} (e : Ext L L' k) (h : hasI L x = true) : hasI L' x = true ∧ valI v L' x = valI v L x := by
 obtain ⟨h0, h1⟩ : 0 ≤ x ∧ x < L.length := by simpa [hasI] using h
 obtain ⟨n, rfl⟩ := Int.eq_ofNat_of_zero_le h0
 have := e.pre.length_le
 exact ⟨hasI_nat (by omega), valI_ext e (by omega)⟩
theorem Res.has {q : Int × List Nd} {o : Option Nat} (h : Res v q o) : hasI q.2 q.1 = true ∧ valI v q.2 q.1 = o := by
 obtain ⟨n, h1, h2, h3⟩ := h
 rw [h1]
 exact ⟨hasI_nat h2, h3⟩
def pt (t : St) : List Nat := t.a :: t.x :: t.m
structure PV (v : List Nat) (L : List Nd) (p : List Int) (t : St) : Prop where
 len : p.length = 18
 val : ∀ i, i < 18 → hasI L (p.getD i 0) = true ∧ valI v L (p.getD i 0) = some ((pt t).getD i 0)
theorem PV.set {p : List Int} {t t' : St} {k i n : Nat} {x : Int} (h : PV v L p t) (e : Ext L L' k) (hx : hasI L' x = true) (hv : valI v L' x = some n) (hi : i < 18) (hl : (pt t).length = 18) (ht : pt t' = (pt t).set i n) : PV v L' (p.set i x) t' := by
 refine ⟨by rw [List.length_set]; exact h.len, fun j hj => ?_⟩
 rw [ht, List.getD_eq_getElem?_getD, List.getD_eq_getElem?_getD, List.getElem?_set, List.getElem?_set]
 by_cases hij : i = j
 ·subst hij
  simp only [if_true, h.len, hl, hi, Option.getD_some]
  exact ⟨hx, hv⟩
 ·simp only [hij, if_false, ← List.getD_eq_getElem?_getD]
  obtain ⟨h1, h2⟩ := h.val j hj
  obtain ⟨h3, h4⟩ := valI_extI (v := v) e h1
  exact ⟨h3, by rw [h4, h2]⟩
theorem PV.same {p : List Int} {t : St} {k : Nat} (h : PV v L p t) (e : Ext L L' k) : PV v L' p t :=
 ⟨h.len, fun j hj => by obtain ⟨h1, h2⟩ := h.val j hj; obtain ⟨h3, h4⟩ := valI_extI (v := v) e h1; exact ⟨h3, by rw [h4, h2]⟩⟩
end Go.Ev
/- A window's values, from its front to its end: plain laws. -/
namespace Go.Ev
open Go Go.RowKit
set_option maxRecDepth 10000
set_option maxHeartbeats 1000000
set_option linter.unusedSimpArgs false
set_option linter.unusedVariables false
variable {L L' : List Nd} {v : List Nat}
def divN (w : List In4) (n : Nat) : Nat := (w.take n).countP fun x => decide (x.op = 60)
structure WV (v : List Nat) (L : List Nd) (p st : List Int) (w : List In4) (d : Da) (t : St) : Prop where
 num : st.length = divN w w.length
 ahead : ∀ i, i < divN w (runW d w t).2 → ∃ x n, st[i]? = some x ∧ hasI L x = true ∧ valI v L x = some n ∧ n ≠ 0
 stop : (runW d w t).2 < w.length → ∃ x, st[divN w (runW d w t).2]? = some x ∧ hasI L x = true ∧ valI v L x = some 0
 done : (runW d w t).2 = w.length → PV v L p (runW d w t).1
theorem WV.ext {p st : List Int} {w : List In4} {d : Da} {t : St} {k : Nat} (h : WV v L p st w d t) (e : Ext L L' k) : WV v L' p st w d t := by
 have tr : ∀ {x : Int} {o : Option Nat}, hasI L x = true → valI v L x = o → hasI L' x = true ∧ valI v L' x = o := fun a b => by
  obtain ⟨h3, h4⟩ := valI_extI (v := v) e a
  exact ⟨h3, by rw [h4, b]⟩
 refine ⟨h.num, fun i hi => ?_, fun hl => ?_, fun hl => (h.done hl).same e⟩
 ·obtain ⟨x, n, a, b, c, d⟩ := h.ahead i hi
  obtain ⟨h1, h2⟩ := tr b c
  exact ⟨x, n, a, h1, h2, d⟩
 ·obtain ⟨x, a, b, c⟩ := h.stop hl
  obtain ⟨h1, h2⟩ := tr b c
  exact ⟨x, a, h1, h2⟩
end Go.Ev
/- Values as they were made, and in the book. -/
namespace Go.Ev
open Go Go.RowKit
set_option maxRecDepth 10000
set_option maxHeartbeats 4000000
set_option linter.unusedSimpArgs false
set_option linter.unusedVariables false
variable {L L' : List Nd} {v : List Nat}
structure MI (v : List Nat) (s : MS) : Prop where
 inv : Inv s.L
 len : s.ids.length = s.made.length
 ok : mdOk s.made
 rel : ∀ (i : Nat) (x : Int) (a : Md) (o : Option Nat), s.ids[i]? = some x → s.made[i]? = some a → (refs v s.made)[i]? = some o →
  a.kind = 4 ∧ x = -1 ∧ o = none ∨ a.kind ≠ 4 ∧ ∃ n : Nat, x = n ∧ n < s.L.length ∧ valI v s.L n = o
theorem MI.there {s : MS} (h : MI v s) {x : Int} (hx : thereB s.made x = true) : ∃ n m : Nat, x = n ∧ n < s.made.length ∧ atI s.ids x = m ∧ m < s.L.length ∧ valI v s.L m = (refs v s.made)[n]?.join := by
 simp only [thereB, Bool.and_eq_true, decide_eq_true_eq] at hx
 obtain ⟨⟨h0, h1⟩, h2⟩ := hx
 obtain ⟨n, rfl⟩ := Int.eq_ofNat_of_zero_le h0
 have hn : n < s.made.length := by omega
 obtain ⟨a, ha⟩ : ∃ a, s.made[n]? = some a := ⟨_, get_in hn⟩
 obtain ⟨y, hy⟩ : ∃ y, s.ids[n]? = some y := ⟨_, get_in (by rw [h.len]; exact hn)⟩
 obtain ⟨o, ho⟩ : ∃ o, (refs v s.made)[n]? = some o := ⟨_, get_in (by rw [refs_len]; exact hn)⟩
 rw [Int.toNat_natCast, ha] at h2
 simp at h2
 rcases h.rel n y a o hy ha ho with ⟨h4, _⟩ | ⟨_, m, hm, hml, hv⟩
 ·exact absurd h4 h2
 ·refine ⟨n, m, rfl, hn, ?_, hml, ?_⟩
  ·rw [atI, if_pos ⟨h0, by rw [h.len]; exact h1⟩, Int.toNat_natCast, hy, hm]; rfl
  ·rw [hv, ho]; rfl
theorem MI.not_there {s : MS} (h : MI v s) {x : Int} (hx : thereB s.made x = false) : hasI s.L (atI s.ids x) = false := by
 rw [atI]
 split
 ·rename_i hr
  obtain ⟨n, rfl⟩ := Int.eq_ofNat_of_zero_le hr.1
  have hn : n < s.made.length := by rw [← h.len]; omega
  obtain ⟨a, ha⟩ : ∃ a, s.made[n]? = some a := ⟨_, get_in hn⟩
  obtain ⟨y, hy⟩ : ∃ y, s.ids[n]? = some y := ⟨_, get_in (by rw [h.len]; exact hn)⟩
  obtain ⟨o, ho⟩ : ∃ o, (refs v s.made)[n]? = some o := ⟨_, get_in (by rw [refs_len]; exact hn)⟩
  have h4 : a.kind = 4 := by
   have : a.kind ≠ 4 → thereB s.made n = true := fun hk => by simp only [thereB, Int.toNat_natCast, ha]; simp [hk, hn]
   by_cases hk : a.kind = 4
   ·exact hk
   ·rw [this hk] at hx; cases hx
  rcases h.rel n y a o hy ha ho with ⟨_, h5, _⟩ | ⟨h5, _⟩
  ·rw [Int.toNat_natCast, hy, h5]; rfl
  ·exact absurd h4 h5
 ·rfl
theorem bAlu_no {kind x y : Int} (h : ¬ ((doW kind 0 1).2 = true ∧ hasI L x = true ∧ hasI L y = true)) : bAlu L kind x y = (-1, L) := by rw [bAlu, if_neg h]
theorem MI.step {s : MS} (h : MI v s) (hv : v.length = 34) (hvw : ∀ c ∈ v, c < 4294967296) {a : Md} (hc : a.c < 4294967296) : MI v (makeS s a) := by
 have e := make_ext (s := s) (a := a) h.inv hc
 have hln := h.len
 have rl := refs_len (v := v) s.made
 -- it is enough to look at the new one
 have main : ∀ o : Option Nat, rval v (refs v s.made) (nextM s.made a) = o →
   ((nextM s.made a).kind = 4 ∧ (makeR s a).1 = -1 ∧ o = none ∨ (nextM s.made a).kind ≠ 4 ∧ Res v (makeR s a) o) →
   ((nextM s.made a).c < 4294967296 ∧ ((nextM s.made a).kind = 0 ∨ (nextM s.made a).kind = 1 ∧ 0 ≤ (nextM s.made a).i ∧ (nextM s.made a).i < 34 ∨ (nextM s.made a).kind = 2 ∧ 0 ≤ (nextM s.made a).x ∧ (nextM s.made a).x < s.made.length ∧ 0 ≤ (nextM s.made a).y ∧ (nextM s.made a).y < s.made.length ∨ (nextM s.made a).kind = 3 ∧ 0 ≤ (nextM s.made a).x ∧ (nextM s.made a).x < s.made.length ∨ (nextM s.made a).kind = 4)) →
   MI v (makeS s a) := fun o ho hr hm => by
  refine ⟨e.inv, by simp [makeS, hln], fun i b hb => ?_, fun i x b w hx hb hw => ?_⟩
  ·simp only [makeS] at hb
   by_cases hi : i < s.made.length
   ·rw [List.getElem?_append_left hi] at hb
    exact h.ok i b hb
   ·have hl := (List.getElem?_eq_some_iff.1 hb).1
    simp at hl
    obtain rfl : i = s.made.length := by omega
    simp at hb
    subst hb
    exact hm
  ·simp only [makeS] at hx hb hw ⊢
   rw [refs_snoc, ho] at hw
   by_cases hi : i < s.made.length
   ·rw [List.getElem?_append_left hi] at hb
    rw [List.getElem?_append_left (by omega)] at hx
    rw [List.getElem?_append_left (by omega)] at hw
    rcases h.rel i x b w hx hb hw with h1 | ⟨h1, n, h2, h3, h4⟩
    ·exact .inl h1
    ·exact .inr ⟨h1, n, h2, Nat.lt_of_lt_of_le h3 e.pre.length_le, by rw [← h4]; exact valI_ext e h3⟩
   ·have hl := (List.getElem?_eq_some_iff.1 hb).1
    simp at hl
    obtain rfl : i = s.made.length := by omega
    simp at hb
    rw [List.getElem?_append_right (by omega), hln, Nat.sub_self] at hx
    rw [List.getElem?_append_right (by omega), rl, Nat.sub_self] at hw
    simp at hx hw
    subst hb; subst hx; subst hw
    rcases hr with h1 | ⟨h1, n, h2, h3, h4⟩
    ·exact .inl h1
    ·exact .inr ⟨h1, n, h2, h3, h4⟩
 have none4 : nextM s.made a = noMd → (makeR s a).1 = -1 → MI v (makeS s a) := fun h1 h2 => by
  refine main none (by rw [h1]; rfl) (.inl ⟨by rw [h1]; rfl, h2, rfl⟩) ⟨by rw [h1]; exact (by decide : (0 : Nat) < 4294967296), by rw [h1]; exact .inr (.inr (.inr (.inr rfl)))⟩
 by_cases k0 : a.kind = 0
 ·have hn : nextM s.made a = ⟨0, 0, 0, 0, 0, a.c⟩ := by rw [nextM, if_pos k0]
  have hR : makeR s a = putN s.L (sumNd (a.c :: zeros 34)) := by rw [makeR, if_pos k0]
  refine main (some a.c) (by rw [hn]; rfl) (.inr ⟨by rw [hn]; simp, by rw [hR]; exact const_res h.inv hv hc⟩) ⟨by rw [hn]; exact hc, by rw [hn]; exact .inl rfl⟩
 by_cases k1 : a.kind = 1
 ·have hR : makeR s a = varN s.L a.i := by rw [makeR, if_neg k0, if_pos k1]
  by_cases hi : 0 ≤ a.i ∧ a.i < 34
  ·have hn : nextM s.made a = ⟨1, a.i, 0, 0, 0, 0⟩ := by rw [nextM, if_neg k0, if_pos ⟨k1, hi⟩]
   refine main (some (v[a.i.toNat]?.getD 0)) (by rw [hn]; rfl) (.inr ⟨by rw [hn]; simp, by rw [hR]; exact var_res h.inv hv hvw hi.1 hi.2⟩) ⟨by rw [hn]; exact (by decide : (0 : Nat) < 4294967296), by rw [hn]; exact .inr (.inl ⟨rfl, hi⟩)⟩
  ·refine none4 ?_ (by rw [hR, varN, if_neg hi])
   rw [nextM, if_neg k0, if_neg (fun hh => hi hh.2), if_neg (by omega), if_neg (by omega)]
 by_cases k2 : a.kind = 2
 ·have hR : makeR s a = bAlu s.L a.op (atI s.ids a.x) (atI s.ids a.y) := by rw [makeR, if_neg k0, if_neg k1, if_pos k2]
  by_cases hall : (doW a.op 0 1).2 = true ∧ thereB s.made a.x = true ∧ thereB s.made a.y = true
  ·obtain ⟨hk, hx, hy⟩ := hall
   have hn : nextM s.made a = ⟨2, 0, a.op, a.x, a.y, 0⟩ := by rw [nextM, if_neg k0, if_neg (fun hh => k1 hh.1), if_pos ⟨k2, hk, hx, hy⟩]
   obtain ⟨nx, mx, ex, lx, ax, bx, vx⟩ := h.there hx
   obtain ⟨ny, my, ey, ly, ay, b_y, vy⟩ := h.there hy
   have r := alu_res (v := v) (kind := a.op) (x := atI s.ids a.x) (y := atI s.ids a.y) h.inv hv hvw hk (by rw [ax]; simp [hasI]; exact bx) (by rw [ay]; simp [hasI]; exact b_y)
   rw [ax, ay, vx, vy] at r
   refine main (aluV a.op (refs v s.made)[nx]?.join (refs v s.made)[ny]?.join) ?_ (.inr ⟨by rw [hn]; simp, by rw [hR, ax, ay]; exact r⟩) ⟨by rw [hn]; exact (by decide : (0 : Nat) < 4294967296), by rw [hn]; exact .inr (.inr (.inl ⟨rfl, by simp; omega, by simp; omega, by simp; omega, by simp; omega⟩))⟩
   rw [hn, ex, ey]; rfl
  ·refine none4 ?_ ?_
   ·rw [nextM, if_neg k0, if_neg (fun hh => k1 hh.1), if_neg (fun hh => hall hh.2), if_neg (by omega)]
   ·rw [hR, bAlu_no]
    rintro ⟨g1, g2, g3⟩
    refine hall ⟨g1, ?_, ?_⟩
    ·cases e : thereB s.made a.x with
     | true => rfl
     | false => rw [h.not_there e] at g2; cases g2
    ·cases e : thereB s.made a.y with
     | true => rfl
     | false => rw [h.not_there e] at g3; cases g3
 by_cases k3 : a.kind = 3
 ·have hR : makeR s a = bNeg s.L (atI s.ids a.x) := by rw [makeR, if_neg k0, if_neg k1, if_neg k2, if_pos k3]
  cases hx : thereB s.made a.x with
  | true =>
   have hn : nextM s.made a = ⟨3, 0, 0, a.x, 0, 0⟩ := by rw [nextM, if_neg k0, if_neg (fun hh => k1 hh.1), if_neg (fun hh => k2 hh.1), if_pos ⟨k3, hx⟩]
   obtain ⟨nx, mx, ex, lx, ax, bx, vx⟩ := h.there hx
   have r := neg_res (v := v) (x := atI s.ids a.x) h.inv hv hvw (by rw [ax]; simp [hasI]; exact bx)
   rw [ax, vx] at r
   refine main (((refs v s.made)[nx]?.join).map negW) ?_ (.inr ⟨by rw [hn]; simp, by rw [hR, ax]; exact r⟩) ⟨by rw [hn]; exact (by decide : (0 : Nat) < 4294967296), by rw [hn]; exact .inr (.inr (.inr (.inl ⟨rfl, by simp; omega, by simp; omega⟩)))⟩
   rw [hn, ex]; rfl
  | false =>
   refine none4 ?_ ?_
   ·rw [nextM, if_neg k0, if_neg (fun hh => k1 hh.1), if_neg (fun hh => k2 hh.1), if_neg (by simp [hx])]
   ·rw [hR, bNeg, if_neg (by simp [h.not_there hx])]
 ·refine none4 ?_ ?_
  ·rw [nextM, if_neg k0, if_neg (fun hh => k1 hh.1), if_neg (fun hh => k2 hh.1), if_neg (fun hh => k3 hh.1)]
  ·rw [makeR, if_neg k0, if_neg k1, if_neg k2, if_neg k3]
theorem MI.zero : MI v ⟨[], [], []⟩ := ⟨Inv.nil, rfl, fun i a h => by simp at h, fun i x a o h => by simp at h⟩
theorem MI.all (hv : v.length = 34) (hvw : ∀ c ∈ v, c < 4294967296) : ∀ (l : List Md) {s : MS}, MI v s → (∀ a ∈ l, a.c < 4294967296) → MI v (makeAll s l)
 | [], _, h, _ => h
 | a :: l, s, h, hc => MI.all hv hvw l (h.step hv hvw (hc a (by simp))) fun x hx => hc x (by simp [hx])
end Go.Ev
/- Values of sums and of bits are told apart wherever they are not one: plain laws. -/
namespace Go.Ev
open Go Go.RowKit
set_option maxRecDepth 10000
set_option maxHeartbeats 4000000
set_option linter.unusedSimpArgs false
set_option linter.unusedVariables false
variable {L L' L'' : List Nd}
def Nd.pl (a : Nd) : Prop := (a.kind = 0 → a = sumNd a.f) ∧ (a.kind = 1 → ∃ fv ft, a = bitNd fv ft ∧ Right fv ft ∧ fv ≠ [] ∧ ∀ i, fv = [i] → ft ≠ [0, ones] ∧ ft ≠ [ones, 0])
def Grow (L L' : List Nd) : Prop := ∀ a ∈ L', a ∈ L ∨ a.pl
theorem Grow.refl : Grow L L := fun a h => .inl h
theorem Grow.trans (h : Grow L L') (k : Grow L' L'') : Grow L L'' := fun a ha => by
 rcases k a ha with h1 | h1
 ·exact h a h1
 ·exact .inr h1
def Pl (L : List Nd) : Prop := ∀ a ∈ L, a.pl
theorem Pl.nil : Pl [] := fun a h => by cases h
theorem Pl.grow (h : Pl L) (g : Grow L L') : Pl L' := fun a ha => by
 rcases g a ha with h1 | h1
 ·exact h a h1
 ·exact h1
theorem Inv.inj (h : Inv L) {x y : Nat} {a : Nd} (hx : L[x]? = some a) (hy : L[y]? = some a) : x = y := by
 obtain ⟨h1, e1⟩ := List.getElem?_eq_some_iff.1 hx
 obtain ⟨h2, e2⟩ := List.getElem?_eq_some_iff.1 hy
 have hp := List.pairwise_iff_getElem.1 h.one
 rcases Nat.lt_trichotomy x y with hl | hl | hl
 ·exact absurd (e1.trans e2.symm) (hp x y h1 h2 hl)
 ·exact hl
 ·exact absurd (e2.trans e1.symm) (hp y x h2 h1 hl)
/-! Which numbers are sums, and which are bits of some variables. -/
def IsSum (L : List Nd) (x : Int) : Prop := ∃ (n : Nat) (a : Nd), x = n ∧ L[n]? = some a ∧ a.kind = 0
def IsBit (L : List Nd) (x : Int) (P : Int → Prop) : Prop := ∃ (n : Nat) (a : Nd) (p : List Int × List Nat), x = n ∧ L[n]? = some a ∧ asB a = some p ∧ ∀ v ∈ p.1, P v
theorem IsSum.pre {x : Int} (h : IsSum L x) (e : L <+: L') : IsSum L' x := by obtain ⟨n, a, h1, h2, h3⟩ := h; exact ⟨n, a, h1, pre_get e h2, h3⟩
theorem IsBit.pre {x : Int} {P : Int → Prop} (h : IsBit L x P) (e : L <+: L') : IsBit L' x P := by obtain ⟨n, a, p, h1, h2, h3⟩ := h; exact ⟨n, a, p, h1, pre_get e h2, h3⟩
theorem IsBit.mono {x : Int} {P Q : Int → Prop} (h : IsBit L x P) (k : ∀ v, P v → Q v) : IsBit L x Q := by obtain ⟨n, a, p, h1, h2, h3, h4⟩ := h; exact ⟨n, a, p, h1, h2, h3, fun v hv => k v (h4 v hv)⟩
theorem IsSum.has {x : Int} (h : IsSum L x) : hasI L x = true := by obtain ⟨n, a, rfl, h2, _⟩ := h; simp [hasI]; exact (List.getElem?_eq_some_iff.1 h2).1
theorem IsBit.has {x : Int} {P : Int → Prop} (h : IsBit L x P) : hasI L x = true := by obtain ⟨n, a, p, rfl, h2, _⟩ := h; simp [hasI]; exact (List.getElem?_eq_some_iff.1 h2).1
end Go.Ev
/- What was made as a sum, or as bits, is one in the book. -/
namespace Go.Ev
open Go Go.RowKit
variable {G : Tbl}
set_option maxRecDepth 10000
set_option maxHeartbeats 4000000
set_option linter.unusedSimpArgs false
set_option linter.unusedVariables false
variable {L L' : List Nd} {l : List Md}
inductive How (s : MS) (a : Md) : Md → Int × List Nd → Prop
 | none {b p} : b.kind = 4 → How s a b p
 | con {b} : b.kind = 0 → b.c = a.c → How s a b (putN s.L (sumNd (a.c :: zeros 34)))
 | var {b} : b.kind = 1 → 0 ≤ b.i → b.i < 34 → How s a b (varN s.L b.i)
 | alu {b} : b.kind = 2 → (doW b.op 0 1).2 = true → thereB s.made b.x = true → thereB s.made b.y = true → How s a b (bAlu s.L b.op (atI s.ids b.x) (atI s.ids b.y))
 | neg {b} : b.kind = 3 → thereB s.made b.x = true → How s a b (bNeg s.L (atI s.ids b.x))
theorem IsSum.back {n : Nat} (h : IsSum L' n) (e : L <+: L') (hn : n < L.length) : IsSum L n := by
 obtain ⟨m, a, h1, h2, h3⟩ := h
 obtain rfl : n = m := by omega
 have := pre_get e (get_in hn)
 rw [h2] at this
 cases this
 exact ⟨n, _, rfl, get_in hn, h3⟩
theorem IsBit.back {n : Nat} {P : Int → Prop} (h : IsBit L' n P) (e : L <+: L') (hn : n < L.length) : IsBit L n P := by
 obtain ⟨m, a, p, h1, h2, h3⟩ := h
 obtain rfl : n = m := by omega
 have := pre_get e (get_in hn)
 rw [h2] at this
 cases this
 exact ⟨n, _, p, rfl, get_in hn, h3⟩
theorem ahead {s f : MS} {i : Nat} {x : Int} (hM : MI (zeros 34) s) (e1 : s.ids = f.ids.take i) (e2 : s.made = f.made.take i) (hx : thereB s.made x = true) :
  ∃ n m : Nat, ∃ c, x = n ∧ n < i ∧ f.made[n]? = some c ∧ c.kind ≠ 4 ∧ f.ids[n]? = some (m : Int) ∧ atI s.ids x = m ∧ m < s.L.length := by
 obtain ⟨n, m, h1, h2, h3, h4, _⟩ := hM.there hx
 have hni : n < i := by rw [e2, List.length_take] at h2; omega
 obtain ⟨c, hcc⟩ : ∃ c, s.made[n]? = some c := ⟨_, get_in h2⟩
 obtain ⟨y, hy⟩ : ∃ y, s.ids[n]? = some y := ⟨_, get_in (by rw [hM.len]; exact h2)⟩
 have hym : y = m := by
  rw [atI, h1, if_pos ⟨by omega, by rw [hM.len]; omega⟩, Int.toNat_natCast, hy] at h3
  exact h3
 subst h1
 refine ⟨n, m, c, rfl, hni, ?_, ?_, ?_, h3, h4⟩
 ·rw [e2, List.getElem?_take, if_pos hni] at hcc; exact hcc
 ·simp only [thereB, Int.toNat_natCast, hcc, Bool.and_eq_true, decide_eq_true_eq] at hx; exact hx.2
 ·rw [e1, List.getElem?_take, if_pos hni, hym] at hy; exact hy
end Go.Ev
/- One try of decide.Decide. -/
namespace Go.Ev
open Go Go.RowKit
variable {G : Tbl}
set_option maxRecDepth 10000
set_option maxHeartbeats 4000000
set_option linter.unusedSimpArgs false
set_option linter.unusedVariables false
def ansC (c : Int) : Option (List Nat) → List V
 | some r => .int .i64 c :: ((stO r).cs ++ (ofW (r.drop 18)).cs)
 | none => .int .i64 c :: (cnats .u32 (zeros 20) ++ cnats .u64 (zeros 7))
def tryAs : SCode := .region 1 [⟨some 13, .alloc 0 (cnats .u32 (zeros 34)), none⟩, ⟨none, .store 34 (.t 13) (.t 46), none⟩]
def tryBo : SCode := .block 1 (.seq (.region 2 [⟨some 48, .load 34 true false (.t 13), none⟩, ⟨some 49, .pcall 294 [.t 48], none⟩, ⟨some 47, .mv (.t 49), none⟩, ⟨some 50, .ext 0 (.t 47), none⟩, ⟨some 51, .ext 1 (.t 47), none⟩, ⟨some 14, .alloc 0 (cnats .u32 (zeros 18)), none⟩,
 ⟨some 15, .alloc 1 [.int .u32 0, .int .u32 0, .int .u64 0, .int .u64 0, .int .u64 0, .int .u64 0, .int .u64 0, .int .u64 0, .int .u64 0], none⟩, ⟨none, .store 18 (.t 14) (.t 50), none⟩, ⟨none, .store 9 (.t 15) (.t 51), none⟩])
 (.seq (.keep [3, 4, 5, 6, 7, 14, 15]) (.seq (.region 0 [⟨some 52, .load 1 false false (.t 3), none⟩, ⟨some 53, .load 1 false false (.t 4), none⟩, ⟨some 54, .load 1 false false (.t 5), none⟩, ⟨some 55, .load 18 true false (.t 14), none⟩, ⟨some 56, .load 9 true false (.t 15), none⟩,
  ⟨some 57, .pcall 308 [.t 52, .t 53, .t 54, .t 55, .t 56], none⟩]) (.seq (.keep [6, 7, 14, 15, 57]) (.cond (.t 57) (.seq (.region 0 [⟨some 58, .load 18 true false (.t 14), none⟩, ⟨some 59, .load 9 true false (.t 15), none⟩,
   ⟨some 60, .build (ansC 0 none) [(0, 1, .c (.int .i64 1)), (1, 18, .t 58), (19, 9, .t 59)], none⟩, ⟨none, .store 28 (.t 6) (.t 60), none⟩, ⟨none, .store 1 (.t 7) (.c (.int .i64 0)), none⟩]) .ret) .skip)))))
def tryE : List (Nat × V) := [(3, .ptr 0 0), (4, .ptr 1 0), (5, .ptr 2 0), (6, .ptr 3 0), (7, .ptr 4 0)]
structure TryH (N : Heap) (v w : List In4) (live : Nat) : Prop where
 b0 : N[0]? = some (some (.cells [.vs (IL v) .no]))
 b1 : N[1]? = some (some (.cells [.vs (IL w) .no]))
 b2 : N[2]? = some (some (.cells [.int .u32 live]))
 b3 : N[3]? = some (some (.cells (ansC 0 none)))
 b4 : N[4]? = some (some (.cells [.int .i64 0]))
 lo : N[14]? = some (some (.loop tryE [46] tryAs tryBo .ready))
 shut : HShut N
theorem TryH.app {N : Heap} {v w : List In4} {live : Nat} (h : TryH N v w live) {X : Heap} (hX : ∀ n, X.map (Option.map (Blk.cl n)) = X) : TryH (N ++ X) v w live := by
 have lt := (List.getElem?_eq_some_iff.1 h.lo).1
 refine ⟨?_, ?_, ?_, ?_, ?_, ?_, h.shut.app hX⟩
 all_goals rw [List.getElem?_append_left (by omega)]
 ·exact h.b0
 ·exact h.b1
 ·exact h.b2
 ·exact h.b3
 ·exact h.b4
 ·exact h.lo
end Go.Ev
/- A filter with another window: splice.Put. -/
namespace Go.Ev
open Go Go.RowKit
variable {G : Tbl}
set_option maxRecDepth 10000
set_option maxHeartbeats 2000000
set_option linter.unusedSimpArgs false
set_option linter.unusedVariables false
def adjN (a e less i d : Nat) : Nat := if i < a ∧ e ≤ i + 1 + d then d - less else d
def putI (a e less i : Nat) (x : In4) : In4 := if x.op = 5 then { x with k := adjN a e less i x.k } else if isBr x.op then { x with jt := (adjN a e less i x.jt.toNat : Nat), jf := (adjN a e less i x.jf.toNat : Nat) } else x
def pre (f : List In4) (a e less m : Nat) : List In4 := (List.range m).map fun i => putI a e less i (f.getD i RET)
end Go.Ev
/- A filter's free pieces: splice.Pieces, hurdleref22.Pieces. -/
namespace Go.Ev
open Go Go.RowKit
variable {G : Tbl}
set_option maxRecDepth 10000
set_option maxHeartbeats 2000000
set_option linter.unusedSimpArgs false
set_option linter.unusedVariables false
abbrev Pc := Nat × Nat
def rowsV (l : List Pc) : List (List V) := l.map fun p => [.int .i64 (p.1 : Int), .int .i64 (p.2 : Int)]
@[simp] theorem rowsV_length (l : List Pc) : (rowsV l).length = l.length := by simp [rowsV]
@[simp] theorem rowsV_nil : rowsV [] = [] := rfl
@[simp] theorem rowsV_snoc (l : List Pc) (a m : Nat) : rowsV l ++ [[V.int .i64 (a : Int), .int .i64 (m : Int)]] = rowsV (l ++ [(a, m)]) := by simp [rowsV]
@[simp] theorem rowsV_get (l : List Pc) (i : Nat) : (rowsV l)[i]? = (l[i]?).map fun p => [.int .i64 (p.1 : Int), .int .i64 (p.2 : Int)] := by simp [rowsV]
@[simp] theorem rowsV_sz (l : List Pc) : (∀ f ∈ rowsV l, f.length = 2) = True := by
 simp only [eq_iff_iff, iff_true]
 intro f hf
 simp only [rowsV, List.mem_map] at hf
 obtain ⟨x, _, rfl⟩ := hf
 rfl
def rowsW (t : Tk) (l : List Pc) : List (List V) := l.map fun p => [.vs [[.int .i64 (p.1 : Int)], [.int .i64 (p.2 : Int)]] t]
@[simp] theorem rowsW_length (t : Tk) (l : List Pc) : (rowsW t l).length = l.length := by simp [rowsW]
@[simp] theorem rowsW_nil (t : Tk) : rowsW t [] = [] := rfl
@[simp] theorem rowsW_get (t : Tk) (l : List Pc) (i : Nat) : (rowsW t l)[i]? = (l[i]?).map fun p => [.vs [[.int .i64 (p.1 : Int)], [.int .i64 (p.2 : Int)]] t] := by simp [rowsW]
@[simp] theorem rowsW_sz (t : Tk) (l : List Pc) : (∀ f ∈ rowsW t l, f.length = 1) = True := by
 simp only [eq_iff_iff, iff_true]
 intro f hf
 simp only [rowsW, List.mem_map] at hf
 obtain ⟨x, _, rfl⟩ := hf
 rfl
end Go.Ev
/- Filters without what is never come to: plain laws. -/
namespace Go.Ev
open Go Go.RowKit
set_option maxRecDepth 10000
set_option maxHeartbeats 4000000
set_option linter.unusedSimpArgs false
set_option linter.unusedVariables false
def clsB : List In4 → List Bool → Prop
 | x :: f, b :: m => (b = true → ∀ o ∈ offs x, m[o]? = some true) ∧ clsB f m
 | [], [] => True
 | _, _ => False
end Go.Ev
/- The parts of windows of sums, and of bits: plain laws. -/
namespace Go.Ev
open Go Go.RowKit
set_option maxRecDepth 10000
set_option maxHeartbeats 2000000
set_option linter.unusedSimpArgs false
set_option linter.unusedVariables false
variable {G : Tbl} {L L' : List Nd}
def Lasts (F : Nat → List Nd → Int → Prop) : Prop := ∀ i L L' x, F i L x → L <+: L' → F i L' x
def AllN (F : Nat → List Nd → Int → Prop) (n : Nat) (L : List Nd) (p : List Int) : Prop := p.length = 18 ∧ ∀ i < n, F i L (p.getD i 0)
theorem AllN.pre {F : Nat → List Nd → Int → Prop} {n : Nat} {p : List Int} (h : AllN F n L p) (hF : Lasts F) (e : L <+: L') : AllN F n L' p := ⟨h.1, fun i hi => hF i _ _ _ (h.2 i hi) e⟩
theorem AllN.set {F : Nat → List Nd → Int → Prop} {n i : Nat} {p : List Int} {x : Int} (h : AllN F n L p) (hF : Lasts F) (e : L <+: L') (hx : F i L' x) : AllN F n L' (p.set i x) := by
 refine ⟨by rw [List.length_set]; exact h.1, fun j hj => ?_⟩
 by_cases hij : i = j
 ·subst hij
  by_cases hl : i < p.length
  ·rw [List.getD_eq_getElem?_getD, List.getElem?_set_self hl]; exact hx
  ·rw [List.set_eq_of_length_le (by omega)]; exact hF _ _ _ _ (h.2 i hj) e
 ·rw [List.getD_eq_getElem?_getD, List.getElem?_set_ne hij, ← List.getD_eq_getElem?_getD]; exact hF _ _ _ _ (h.2 j hj) e
end Go.Ev
/- The examples of layer 19; the laws SearchSound, SearchMore. -/
namespace Go.Ev
open Go Go.RowKit
variable {G : Tbl}
set_option maxRecDepth 10000
set_option maxHeartbeats 4000000
set_option linter.unusedSimpArgs false
set_option linter.unusedVariables false
def sA (a : Nat) : St := ⟨a, 0, zeros 16⟩
end Go.Ev
/- Tables of rules: plain laws. -/
namespace Go.Ev
open Go Go.RowKit
set_option maxRecDepth 10000
set_option maxHeartbeats 4000000
set_option linter.unusedSimpArgs false
set_option linter.unusedVariables false
structure TR where
 fr : List In4
 to : List In4
 lv : Nat
def bytes4 (k : Nat) : List UInt8 := (List.range 4).map fun i => UInt8.ofNat (k / 2 ^ (8 * i) % 256)
def encI (x : In4) : List UInt8 := [UInt8.ofNat (x.op.toNat % 256), UInt8.ofNat (x.op.toNat / 256 % 256), UInt8.ofNat (x.jt.toNat % 256), UInt8.ofNat (x.jf.toNat % 256)] ++ bytes4 x.k
def encW (w : List In4) : List UInt8 := w.flatMap encI
def TR.by (r : TR) : List UInt8 := bytes4 r.lv ++ ([UInt8.ofNat (r.fr.length % 256), UInt8.ofNat (r.to.length % 256)] ++ (encW r.fr ++ encW r.to))
end Go.Ev
/- Bytes of windows: the code. -/
namespace Go.Ev
open Go Go.RowKit
variable {G : Tbl}
set_option maxRecDepth 10000
set_option maxHeartbeats 8000000
set_option linter.unusedSimpArgs false
set_option linter.unusedVariables false
theorem convU8m (a : Nat) : convI .u8 (a : Int) = ((a % 256 : Nat) : Int) := by
 unfold convI
 simp [IntKind.wrap, IntKind.bits, IntKind.signed]
def encN (x : In4) : List Nat := [x.op.toNat % 256, x.op.toNat / 256 % 256, x.jt.toNat % 256, x.jf.toNat % 256] ++ lowL x.k 4
theorem encN_len (x : In4) : (encN x).length = 8 := by simp [encN, lowL]
def encNW (w : List In4) : List Nat := w.flatMap encN
theorem encNW_len : ∀ w : List In4, (encNW w).length = 8 * w.length
 | [] => rfl
 | x :: w => by rw [encNW, List.flatMap_cons, List.length_append, encN_len, ← encNW, encNW_len w, List.length_cons]; omega
theorem encNW_snoc (w : List In4) (x : In4) : encNW (w ++ [x]) = encNW w ++ encN x := by simp [encNW]
theorem right_rng {x : In4} (h : rightI x = true) : (0 ≤ x.op ∧ x.op ≤ 255) ∧ (0 ≤ x.jt ∧ x.jt ≤ 255) ∧ 0 ≤ x.jf ∧ x.jf ≤ 255 := by
 cases hr : shapeOf x.op with
 | none => simp [rightI, hr] at h
 | some r =>
  obtain ⟨h1, h2⟩ := shape_some hr
  have h3 : ∀ r ∈ shapeRows, 0 ≤ r.1 ∧ r.1 ≤ 255 := by decide
  have h4 := h3 r h2
  rw [h1] at h4
  refine ⟨h4, ?_⟩
  rw [rightI, hr] at h
  simp only [Bool.and_eq_true] at h
  obtain ⟨_, h⟩ := h
  split at h
  ·simp only [decide_eq_true_eq] at h; omega
  ·simp only [decide_eq_true_eq] at h; omega
theorem check_ok [HasIns G] [HasEnc G] (w : List In4) (hw : w.length ≤ 4096) (hk : ∀ x ∈ w, x.k < 4294967296) (hr : ∀ x ∈ w, rightI x = true) : FP G 350 [FL w] (.int .i64 0) := by
 refine FP_of HasEnc.h_codec_check (Nat.le_of_ble_eq_true rfl) ?_
 have h1 : ((4096 : Int) < (w.length : Int)) = False := eq_false (by omega)
 simp [FL, h1]
 refine W_up w.length (fun i => [(8, FL w), (9, .int .i64 w.length), (10, .int .i64 i)]) (fun _ => []) (fun _ => True) ?_ ?_
 ·simp [keep_cl, trunc, FL]
 intro i hi _
 by_cases hlt : i < w.length
 ·obtain ⟨x, hfx⟩ : ∃ x, x = w[i] := ⟨_, rfl⟩
  have hgg := FL_get hlt
  rw [← hfx] at hgg
  have hri := hr x (by rw [hfx]; exact List.getElem_mem hlt)
  have hxl : x.cs.length = 4 := rfl
  have hxt : x.cs.take 4 = x.cs := rfl
  simp (disch := omega) [ltT, FL, hgg, hfx.symm, hxl, hxt]
  refine callP_of (RightI_ok x) ?_
  simp (disch := omega) [hri, hlt, add1', keep_cl, trunc, -Int.natCast_add]
 ·have hne : i = w.length := by omega
  subst hne
  simp
theorem Encode_ok [HasIns G] [HasEnc G] (w : List In4) (hw : w.length ≤ 4096) (hk : ∀ x ∈ w, x.k < 4294967296) (hr : ∀ x ∈ w, rightI x = true) : FP G 351 [FL w] (.tup [.vs (nats .u8 (encNW w)) .no, .int .i64 0]) := by
 refine FP_of HasEnc.h_codec_Encode (Nat.le_of_ble_eq_true rfl) ?_
 have hck := check_ok (G := G) w hw hk hr
 simp [FL]
 refine callP_of hck ?_
 simp
 obtain ⟨T, hT⟩ : ∃ T : Nat → List Nat, ∀ j, T j = encNW (w.take j) := ⟨_, fun _ => rfl⟩
 have hT0 : T 0 = [] := by rw [hT]; rfl
 refine W_up w.length (fun i => [(5, .vs (nats .u8 (T i)) (.own 0)), (14, FL w), (15, .int .i64 w.length), (16, .int .i64 i)]) (fun i => [some (.zone (T i).length)]) (fun _ => True) ?_ ?_
 ·simp [keep_cl, trunc, FL, hT0]
 intro i hi _
 by_cases hlt : i < w.length
 ·obtain ⟨x, hfx⟩ : ∃ x, x = w[i] := ⟨_, rfl⟩
  have hgg := FL_get hlt
  rw [← hfx] at hgg
  have hxk : x.k < 4294967296 := hk x (by rw [hfx]; exact List.getElem_mem hlt)
  obtain ⟨r1, r2, r3⟩ := right_rng (hr x (by rw [hfx]; exact List.getElem_mem hlt))
  have hTs : T (i + 1) = T i ++ encN x := by
   rw [hT, hT, List.take_add_one, List.getElem?_eq_getElem hlt, Option.toList_some, encNW_snoc, hfx]
  have hTl : (T i).length = 8 * i := by rw [hT, encNW_len, List.length_take]; omega
  obtain ⟨o, ho⟩ : ∃ o : Nat, x.op = o := ⟨x.op.toNat, by omega⟩
  obtain ⟨jt, hjt⟩ : ∃ o : Nat, x.jt = o := ⟨x.jt.toNat, by omega⟩
  obtain ⟨jf, hjf⟩ : ∃ o : Nat, x.jf = o := ⟨x.jf.toNat, by omega⟩
  obtain ⟨k, hxk2⟩ : ∃ k, x.k = k := ⟨_, rfl⟩
  have hcs : x.cs = [.int .i64 o, .int .i64 jt, .int .i64 jf, .int .u32 k] := by rw [In4.cs, ho, hjt, hjf, hxk2]
  have hen : encN x = [o % 256, o / 256 % 256, jt % 256, jf % 256] ++ lowL k 4 := by rw [encN, ho, hjt, hjf, hxk2]; rfl
  have hs8 : shrI .i64 (o : Int) 8 = ((o / 256 : Nat) : Int) := shr64 (j := 8) (by decide)
  obtain ⟨U, hU⟩ : ∃ U : List Nat, U = T i ++ [o % 256, o / 256 % 256, jt % 256, jf % 256] := ⟨_, rfl⟩
  have hUl : U.length = 8 * i + 4 := by rw [hU, List.length_append, hTl]; rfl
  have hap : nats .u8 (T i) ++ [[V.int .u8 (o % 256 : Nat)], [V.int .u8 (o / 256 % 256 : Nat)], [V.int .u8 (jt % 256 : Nat)], [V.int .u8 (jf % 256 : Nat)]] = nats .u8 U := by
   rw [hU]; simp [nats]
  simp (disch := omega) [ltT, FL, hgg, hfx.symm, hcs, convU8m, hs8, hap, hTl, hUl, leTn, keep_cl, -Int.natCast_add, -Int.natCast_ediv, -Int.natCast_emod]
  refine W_up 4 (fun j => [(5, .vs (nats .u8 (U ++ lowL k j)) (.own 0)), (7, .ptr 1 0), (14, FL w), (15, .int .i64 w.length), (16, .int .i64 i), (36, .int .i64 j)])
   (fun j => [some (.zone (8 * i + 4 + j)), some (.cells [.int .i64 o, .int .i64 jt, .int .i64 jf, .int .u32 k]), none]) (fun _ => True) ?_ ?_
  ·have hl0 : lowL k 0 = [] := rfl
   simp [keep_cl, trunc, FL, hl0]
  intro j hj _
  by_cases hj4 : j < 4
  ·have m1 : mulI .i64 8 (j : Int) = ((8 * j : Nat) : Int) := by unfold mulI; exact IntWalk.i64_in _ ⟨by omega, by omega⟩
   have m2 : shrI .u32 (k : Int) ((8 * j : Nat) : Int) = ((k / 256 ^ j : Nat) : Int) := by
    rw [shr32 (by omega), Nat.pow_mul]
   have m0 : (((8 * j : Nat) : Int) < 0) = False := eq_false (by omega)
   have hls : nats .u8 (U ++ lowL k j) ++ [[V.int .u8 (k / 256 ^ j % 256 : Nat)]] = nats .u8 (U ++ lowL k (j + 1)) := by
    rw [lowL_succ]; simp [nats]
   have hll : (U ++ lowL k j).length = 8 * i + 4 + j := by rw [List.length_append, hUl, lowL_len]
   simp (disch := omega) [ltT, m0, m1, m2, convU8m, hls, hll, leTn, add1', hj4, keep_cl, trunc, FL, -Int.natCast_add, -Int.natCast_mul, -Int.natCast_ediv, -Int.natCast_emod, -Int.natCast_pow]
   omega
  ·have hne : j = 4 := by omega
   subst hne
   have hfin : U ++ lowL k 4 = T (i + 1) := by rw [hTs, hen, hU, List.append_assoc]
   have hTl2 : (T (i + 1)).length = 8 * i + 4 + 4 := by rw [← hfin, List.length_append, hUl, lowL_len]
   simp (disch := omega) [hfin, hTl2, hlt, add1', keep_cl, trunc, FL, -Int.natCast_add]
 ·have hne : i = w.length := by omega
  subst hne
  have : T w.length = encNW w := by rw [hT, List.take_length]
  simp [this]
end Go.Ev
/- Bytes read as a filter: contract, for bytes that are a filter's. -/
namespace Go.Ev
open Go Go.RowKit
variable {G : Tbl}
set_option maxRecDepth 10000
set_option maxHeartbeats 8000000
set_option linter.unusedSimpArgs false
set_option linter.unusedVariables false
theorem or_byte (k i : Nat) (hi : i < 4) (hk : k < 4294967296) : orI .u32 ((k % 256 ^ i : Nat) : Int) (shlI .u32 ((k / 256 ^ i % 256 : Nat) : Int) ((8 * i : Nat) : Int)) = ((k % 256 ^ (i + 1) : Nat) : Int) := by
 rw [shl32 (by omega)]
 have e : 256 ^ i = 2 ^ (8 * i) := by rw [Nat.pow_mul]
 have hm : k / 256 ^ i % 256 < 256 := Nat.mod_lt _ (by decide)
 have h2 : k / 256 ^ i % 256 * 2 ^ (8 * i) < 4294967296 := by
  have : i = 0 ∨ i = 1 ∨ i = 2 ∨ i = 3 := by omega
  rcases this with rfl | rfl | rfl | rfl <;> simp at hm ⊢ <;> omega
 have h1 : k % 256 ^ i < 2 ^ 32 := Nat.lt_of_le_of_lt (Nat.mod_le _ _) hk
 rw [Nat.mod_eq_of_lt h2, or32 h1 h2]
 have h3 : k % 256 ^ i < 2 ^ (8 * i) := by rw [e]; exact Nat.mod_lt _ (Nat.two_pow_pos _)
 rw [Nat.mul_comm, Nat.or_comm, ← Nat.two_pow_add_eq_or_of_lt h3]
 congr 1
 rw [Nat.pow_succ, Nat.mod_mul, e]
 omega
theorem Decode_ok [HasIns G] [HasDcd G] (f : List In4) (hl : f.length ≤ 4096) (hk : ∀ x ∈ f, x.k < 4294967296) (hr : ∀ x ∈ f, rightI x = true) : FP G 429 [.vs (nats .u8 (encNW f)) .no] (.tup [FL f, .int .i64 0]) := by
 refine FP_of HasDcd.h_codec_Decode (Nat.le_of_ble_eq_true rfl) ?_
 have hn := encNW_len f
 obtain ⟨N, hN⟩ : ∃ N, N = (encNW f).length := ⟨_, rfl⟩
 have g1 : (32768 < (N : Int)) = False := eq_false (by omega)
 have g2 : remI (N : Int) 8 = 0 := by
  have := rem64 (a := N) (b := 8)
  rw [show ((8 : Nat) : Int) = 8 from rfl] at this
  rw [this]; omega
 have hnl : (nats .u8 (encNW f)).length = N := by rw [nats_length, hN]
 obtain ⟨B, hB⟩ : ∃ B : Nat → List Nat, ∀ k, B k = encNW (f.drop k) := ⟨_, fun _ => rfl⟩
 have hB0 : B 0 = encNW f := by rw [hB, List.drop_zero]
 have hBl : ∀ k, (B k).length = 8 * (f.length - k) := fun k => by rw [hB, encNW_len, List.length_drop]
 rw [← hB0] at hnl ⊢
 have hBN : (B 0).length = N := by rw [← nats_length .u8, hnl]
 simp [hBN, g1, g2]
 refine W_up f.length (fun k => [(0, .vs (nats .u8 (B k)) .no), (4, .vs (IL (f.take k)) (.own 0))]) (fun k => [some (.zone k)]) (fun _ => True) ?_ ?_
 ·simp [keep_cl, trunc]
 intro k hk' _
 have hbl := hBl k
 by_cases hlt : k < f.length
 ·obtain ⟨x, hx⟩ : ∃ x, x = f[k] := ⟨_, rfl⟩
  have hg : f[k]? = some x := by rw [List.getElem?_eq_getElem hlt, hx]
  have hxm := List.mem_of_getElem? hg
  have hxk := hk x hxm
  obtain ⟨⟨o1, o2⟩, ⟨o3, o4⟩, o5, o6⟩ := right_rng (hr x hxm)
  obtain ⟨op, hop⟩ : ∃ n : Nat, x.op = n := ⟨x.op.toNat, by omega⟩
  obtain ⟨jt, hjt⟩ : ∃ n : Nat, x.jt = n := ⟨x.jt.toNat, by omega⟩
  obtain ⟨jf, hjf⟩ : ∃ n : Nat, x.jf = n := ⟨x.jf.toNat, by omega⟩
  have hBs : B k = encN x ++ B (k + 1) := by rw [hB, hB, List.drop_eq_getElem_cons hlt, ← hx, encNW, List.flatMap_cons]; rfl
  have hE : encN x = [op, 0, jt, jf, x.k % 256, x.k / 256 % 256, x.k / 256 ^ 2 % 256, x.k / 256 ^ 3 % 256] := by
   simp [encN, lowL, List.range, List.range.loop, hop, hjt, hjf]
   omega
  have b0 : (B k)[0]? = some op := by rw [hBs, hE]; rfl
  have b1 : (B k)[1]? = some 0 := by rw [hBs, hE]; rfl
  have b2 : (B k)[2]? = some jt := by rw [hBs, hE]; rfl
  have b3 : (B k)[3]? = some jf := by rw [hBs, hE]; rfl
  have bk : ∀ i, i < 4 → (B k)[4 + i]? = some (x.k / 256 ^ i % 256) := by
   intro i hi
   rw [hBs, hE]
   have : i = 0 ∨ i = 1 ∨ i = 2 ∨ i = 3 := by omega
   rcases this with rfl | rfl | rfl | rfl <;> simp
  have f0 := (List.getElem?_eq_some_iff.1 b0).2
  have f1 := (List.getElem?_eq_some_iff.1 b1).2
  have f2 := (List.getElem?_eq_some_iff.1 b2).2
  have f3 := (List.getElem?_eq_some_iff.1 b3).2
  have hpos : (0 < (B k).length) = True := eq_true (by omega)
  have hd8 : (B k).drop 8 = B (k + 1) := by rw [hBs, List.drop_left' (encN_len x)]
  have c : ∀ b : Nat, b < 256 → convI .i64 (b : Int) = (b : Int) := fun b hb => IntWalk.i64_in _ ⟨by omega, by omega⟩
  have c32 : ∀ b : Nat, b < 256 → convI .u32 (b : Int) = (b : Int) := fun b hb => IntWalk.u32_in _ ⟨by omega, by omega⟩
  have c0 := c op (by omega)
  have c2 := c jt (by omega)
  have c3 := c jf (by omega)
  have s0 : shlI .i64 0 8 = 0 := by decide
  have cz : convI .i64 0 = 0 := by decide
  have or0 : orI .i64 (op : Int) 0 = (op : Int) := by
   have := or64 (a := op) (b := 0) (by omega) (by decide)
   simpa using this
  simp (disch := omega) [hpos, b0, b1, b2, b3, f0, f1, f2, f3, get_in, c0, c2, c3, cz, s0, or0]
  have wR := RightI_ok (G := G) x
  rw [hr x hxm] at wR
  have hxc : x.cs = [.int .i64 (op : Int), .int .i64 (jt : Int), .int .i64 (jf : Int), .int .u32 (x.k : Int)] := by rw [In4.cs, hop, hjt, hjf]
  simp only [IV, hxc] at wR
  obtain ⟨Kf, hKf⟩ : ∃ Kf : Nat → Nat, ∀ i, Kf i = x.k % 256 ^ i := ⟨_, fun _ => rfl⟩
  have hK0 : Kf 0 = 0 := by rw [hKf]; simp [Nat.mod_one]
  have hK4 : Kf 4 = x.k := by rw [hKf]; exact Nat.mod_eq_of_lt hxk
  refine W_up 4 (fun i => [(0, .vs (nats .u8 (B k)) .no), (4, .vs (IL (f.take k)) (.own 0)), (5, .ptr 1 0), (40, .int .i64 i)]) (fun i => [some (.zone k), some (.cells [.int .i64 op, .int .i64 jt, .int .i64 jf, .int .u32 (Kf i)])]) (fun _ => True) ?_ ?_
  ·simp [keep_cl, trunc, hK0, f0, f1, f2, f3, c0, c2, c3, cz, s0, or0]
  intro i hi _
  by_cases hi4 : i < 4
  ·have hb := bk i hi4
   have hm : x.k / 256 ^ i % 256 < 256 := Nat.mod_lt _ (by decide)
   have ob := or_byte x.k i hi4 hxk
   rw [← hKf, ← hKf] at ob
   obtain ⟨bb, hbb⟩ : ∃ bb, bb = x.k / 256 ^ i % 256 := ⟨_, rfl⟩
   rw [← hbb] at hb hm ob
   have m8 : mulI .i64 8 (i : Int) = ((8 * i : Nat) : Int) := by
    unfold mulI
    rw [show ((8 : Int) * (i : Int)) = ((8 * i : Nat) : Int) by omega]
    exact IntWalk.i64_in _ ⟨by omega, by omega⟩
   have a4 : addI .i64 4 (i : Int) = ((4 + i : Nat) : Int) := by rw [addI64] <;> omega
   have cb := c32 bb hm
   have fb := (List.getElem?_eq_some_iff.1 hb).2
   have h8i : (((8 * i : Nat) : Int) < 0) = False := eq_false (by omega)
   have hi4' : ((i : Int) < 4) = True := eq_true (by omega)
   simp (disch := omega) [hi4', h8i, hb, fb, get_in, m8, a4, cb, ob, keep_cl, trunc, add1', hi4, -Int.natCast_add, -Int.natCast_mul]
  ·have : i = 4 := by omega
   subst this
   simp (disch := omega) [hK4, keep_cl, trunc]
   refine callP_of wR ?_
   have hby : ((k + 1) * 32 ≤ 140737488355328) = True := eq_true (by omega)
   have htl : (f.take k).length = k := by rw [List.length_take]; omega
   have hsn : IL (f.take k) ++ [[.int .i64 (op : Int), .int .i64 (jt : Int), .int .i64 (jf : Int), .int .u32 (x.k : Int)]] = IL (f.take (k + 1)) := by rw [← hxc, IL_snoc, List.take_add_one, hg]; rfl
   have h8 : ((8 : Int) ≤ ((B k).length : Int)) = True := eq_true (by omega)
   have hnb : nats .u8 (B (k + 1)) = (nats .u8 (B k)).drop 8 := by rw [nats_drop, hd8]
   have htb : (B (k + 1)).take ((B k).length - 8) = B (k + 1) := List.take_of_length_le (by rw [← hd8, List.length_drop]; omega)
   simp (disch := omega) [keep_cl, trunc, hby, htl, hsn, h8, nats_drop, nats_take, hd8, htb, hlt]
 ·have : k = f.length := by omega
  subst this
  have h0 : (0 < (B f.length).length) = False := eq_false (by omega)
  simp (disch := omega) [h0, keep_cl, trunc, FL]
end Go.Ev
/- Layer 13: the law LowerSound. -/
namespace Go.Ev
open Go Go.RowKit
variable {G : Tbl}
set_option maxRecDepth 10000
set_option maxHeartbeats 8000000
set_option linter.unusedSimpArgs false
set_option linter.unusedVariables false
theorem okAll_right : ∀ {f : List In4}, okAll f = true → ∀ x ∈ f, rightI x = true
 | [], _, x, h => by simp at h
 | y :: f, ho, x, h => by
  simp only [okAll, Bool.and_eq_true] at ho
  rcases List.mem_cons.1 h with rfl | h
  ·have := ho.1
   simp only [oneB, Bool.and_eq_true] at this
   exact this.1.1.1
  ·exact okAll_right ho.2 x h
theorem LowerSound_ok [HasIns G] [HasCheck G] [HasEnc G] [HasDcd G] [HasR2 G] [HasR3 G] [HasR5 G] [HasWText G] [HasName G] [HasPol G] [HasCode G] [HasMk G] [HasCondR G] [HasCondN G] [HasDataL G] [HasLow G]
  [HasR1t G] [HasR9a G] [HasR8 G] [HasR10 G] [HasR13m G] [HasL10g G] [HasL13 G] (hkn : FP G 443 [] (.bool true)) (p : Po) (hp : p.wf) : FP G 448 [.agg p.cs] (.bool true) := by
 refine FP_of HasL13.h_hurdlelaw13_LowerSound (Nat.le_of_ble_eq_true rfl) ?_
 have w1 := Great10_ok (G := G) p hp.1 (wf_len hp)
 have w2 := Lower_ok (G := G) p hp
 have w3 := polRightR_ok (G := G) p hp.1 (wf_act hp) hp.2.2
 simp only [Po.cs] at w1 w2 w3
 simp [Po.cs]
 refine callP_of w1 ?_
 cases hg : greatP p with
 | true =>
  simp
  refine callP_of hkn ?_
  simp
 | false =>
  simp
  refine callP_of w3 ?_
  cases hr : rightP p with
  | false =>
   simp
   refine callP_of hkn ?_
   simp
  | true =>
   obtain ⟨a1, a2, a3, a4, _⟩ := low_all hp hr
   obtain ⟨hf, hl64, hc4⟩ := right_fine hp hr
   have a6 : ∀ x ∈ lowerL p, rightI x = true := by
    have := a2
    simp only [soundF, Bool.and_eq_true] at this
    exact okAll_right this.1.2
   have hm := most_ok hf
   have w4 := Encode_ok (G := G) (lowerL p) a1 a3 a6
   have w5 := Decode_ok (G := G) (lowerL p) a1 a3 a6
   have w6 := Sound_ok (G := G) (lowerL p) (by unfold maxLen; omega) a3
   have w7 := SoundR_ok (G := G) (lowerL p) (by unfold maxLen; omega) a3
   have w8 := Most_ok (G := G) p (by omega) (fun r hr => by have := hc4 r hr; omega)
   have w9 := Same03_ok (G := G) (lowerL p) (lowerL p) (by omega)
   rw [a2] at w6 w7
   have hm' : (((lowerL p).length : Int) ≤ ((mostP p : Nat) : Int)) = True := eq_true (by omega)
   simp only [FL, Po.cs] at w4 w5 w6 w7 w8 w9
   simp
   refine callP_of w2 ?_
   simp [hr, FL]
   refine callP_of w4 ?_
   simp
   refine callP_of w5 ?_
   simp [FL]
   refine callP_of w6 ?_
   simp
   refine callP_of w7 ?_
   simp
   refine callP_of w8 ?_
   simp [hm]
   refine callP_of w9 ?_
   simp
   refine callP_of hkn ?_
   simp
end Go.Ev
