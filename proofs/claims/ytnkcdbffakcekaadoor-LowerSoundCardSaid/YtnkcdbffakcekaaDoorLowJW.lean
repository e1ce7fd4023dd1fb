/- The maps of a policy's rules: plain. -/
import Derived.Test.YtnkcdbffakcekaaDoorLowCW
import Derived.Test.YtnkcdbffakcekaaDoorEvRunCW
import Derived.Test.YtnkcdbffakcekaaDoorInsAW
import Derived.Test.YtnkcdbffakcekaaDoorEvNW
set_option linter.unusedVariables false
set_option linter.unusedSimpArgs false
namespace Go.Ev
open Go Go.RowKit
variable {G : Tbl}
set_option maxRecDepth 10000
set_option maxHeartbeats 4000000
set_option linter.unusedSimpArgs false
set_option linter.unusedVariables false
theorem archsOf_snoc (l : List Ru) (r : Ru) : archsOf (l ++ [r]) = addNew (archsOf l) r.arch := by simp [archsOf, firsts_snoc]
theorem nrsOf_snoc (l : List Ru) (r : Ru) (a : Nat) : nrsOf (l ++ [r]) a = if r.arch = a then addNew (nrsOf l a) r.nr else nrsOf l a := by
 unfold nrsOf
 rw [List.filter_append, List.map_append]
 by_cases h : r.arch = a
 ·have e : [r].filter (fun r => decide (r.arch = a)) = [r] := by simp [h]
  rw [e, if_pos h]; simp [firsts_snoc]
 ·have e : [r].filter (fun r => decide (r.arch = a)) = [] := by simp [h]
  rw [e, if_neg h]; simp
theorem rulesAt_snoc (l : List Ru) (r : Ru) (a n : Nat) : rulesAt (l ++ [r]) a n = if r.arch = a ∧ r.nr = n then rulesAt l a n ++ [r] else rulesAt l a n := by
 unfold rulesAt
 rw [List.filter_append]
 by_cases h : r.arch = a ∧ r.nr = n
 ·have e : [r].filter (fun r => decide (r.arch = a ∧ r.nr = n)) = [r] := by simp [h]
  rw [e, if_pos h]
 ·have e : [r].filter (fun r => decide (r.arch = a ∧ r.nr = n)) = [] := by
   rw [List.filter_cons, if_neg (by simpa using h)]; rfl
  rw [e, if_neg h]; simp
theorem archs_mem {l : List Ru} {a : Nat} : a ∈ archsOf l ↔ ∃ r ∈ l, r.arch = a := by rw [archsOf, firsts_mem, List.mem_map]
theorem nrs_mem {l : List Ru} {a n : Nat} : n ∈ nrsOf l a ↔ ∃ r ∈ l, r.arch = a ∧ r.nr = n := by
 rw [nrsOf, firsts_mem, List.mem_map]
 constructor
 ·rintro ⟨r, hr, h⟩
  rw [List.mem_filter] at hr
  exact ⟨r, hr.1, by simpa using hr.2, h⟩
 ·rintro ⟨r, hr, h1, h2⟩
  exact ⟨r, List.mem_filter.2 ⟨hr, by simpa using h1⟩, h2⟩
abbrev EN := Nat × List Nat × Nat
abbrev EO := (Nat × Nat) × List Ru × Nat
structure InvL (l : List Ru) (of : List EO) (nrs : List EN) (ms : List Nat) (Z : Heap) : Prop where
 ms_eq : ms = archsOf l
 nk : nrs.map (·.1) = archsOf l
 nv : ∀ e ∈ nrs, e.2.1 = nrsOf l e.1
 ok : (of.map (·.1)).Nodup
 om : ∀ k, k ∈ of.map (·.1) ↔ ∃ r ∈ l, (r.arch, r.nr) = k
 ov : ∀ e ∈ of, e.2.1 = rulesAt l e.1.1 e.1.2
 nz : ∀ e ∈ nrs, Z[e.2.2]? = some (some (.zone e.2.1.length))
 oz : ∀ e ∈ of, Z[e.2.2]? = some (some (.zone e.2.1.length))
 dz : (nrs.map (·.2.2) ++ of.map (·.2.2)).Nodup
 cz : ∀ n, Z.map (Option.map (Blk.cl n)) = Z
theorem mem_set' {α : Type} {l : List α} {j : Nat} {a e : α} (h : e ∈ l.set j a) : e = a ∨ ∃ i, i ≠ j ∧ l[i]? = some e := by
 obtain ⟨i, hi⟩ := List.getElem?_of_mem h
 rw [List.getElem?_set] at hi
 by_cases hj : j = i
 ·rw [if_pos hj] at hi
  split at hi
  ·left; exact (Option.some.inj hi).symm
  ·cases hi
 ·rw [if_neg hj] at hi
  exact .inr ⟨i, Ne.symm hj, hi⟩
theorem map_set_same {α β : Type} (f : α → β) {l : List α} {j : Nat} {a b : α} (h : l[j]? = some a) (hf : f b = f a) : (l.set j b).map f = l.map f := by
 apply List.ext_getElem?
 intro i
 simp only [List.getElem?_map, List.getElem?_set]
 by_cases hj : j = i
 ·subst hj
  rw [if_pos rfl, h]
  have := (List.getElem?_eq_some_iff.1 h).1
  rw [if_pos this]; simp [hf]
 ·rw [if_neg hj]
theorem nodup_ne {α β : Type} {f : α → β} {l : List α} {i j : Nat} {a b : α} (hn : (l.map f).Nodup) (hi : l[i]? = some a) (hj : l[j]? = some b) (h : i ≠ j) : f a ≠ f b := by
 intro e
 have h1 := (List.getElem?_eq_some_iff.1 hi).1
 refine h ((List.getElem?_inj (l := l.map f) (by simpa using h1) hn).1 ?_)
 rw [List.getElem?_map, List.getElem?_map, hi, hj, Option.map_some, Option.map_some, e]
theorem app_old {Z r : Heap} {z : Nat} {x : Option Blk} (h : Z[z]? = some x) : (Z ++ r)[z]? = some x := by
 rw [List.getElem?_append_left (List.getElem?_eq_some_iff.1 h).1]; exact h
theorem app_cz {Z r : Heap} (h : ∀ n, Z.map (Option.map (Blk.cl n)) = Z) (hr : ∀ n, r.map (Option.map (Blk.cl n)) = r) : ∀ n, (Z ++ r).map (Option.map (Blk.cl n)) = Z ++ r := fun n => by rw [List.map_append, h, hr]
theorem set_cz {Z : Heap} {z m : Nat} (h : ∀ n, Z.map (Option.map (Blk.cl n)) = Z) : ∀ n, (Z.set z (some (.zone m))).map (Option.map (Blk.cl n)) = Z.set z (some (.zone m)) := fun n => by rw [map_set', h]; rfl
section
variable {l : List Ru} {of : List EO} {nrs : List EN} {ms : List Nat} {Z R : Heap} {r : Ru}
theorem InvL.oz_lt (h : InvL l of nrs ms Z) {e : EO} (he : e ∈ of) : e.2.2 < Z.length := (List.getElem?_eq_some_iff.1 (h.oz e he)).1
theorem InvL.nz_lt (h : InvL l of nrs ms Z) {e : EN} (he : e ∈ nrs) : e.2.2 < Z.length := (List.getElem?_eq_some_iff.1 (h.nz e he)).1
theorem InvL.more (h : InvL l of nrs ms Z) (hr : ∀ n, R.map (Option.map (Blk.cl n)) = R) : InvL l of nrs ms (Z ++ R) :=
 ⟨h.ms_eq, h.nk, h.nv, h.ok, h.om, h.ov, fun e he => app_old (h.nz e he), fun e he => app_old (h.oz e he), h.dz, app_cz h.cz hr⟩
theorem InvL.oldC (h : InvL l of nrs ms Z) {j z : Nat} {rl : List Ru} (hj : of[j]? = some ((r.arch, r.nr), rl, z)) : InvL (l ++ [r]) (of.set j ((r.arch, r.nr), rl ++ [r], z)) nrs ms (Z.set z (some (.zone (rl.length + 1)))) := by
 have hm := List.mem_of_getElem? hj
 obtain ⟨r', hr', hk'⟩ := (h.om (r.arch, r.nr)).1 (List.mem_map.2 ⟨_, hm, rfl⟩)
 simp only [Prod.mk.injEq] at hk'
 have ha : r.arch ∈ archsOf l := archs_mem.2 ⟨r', hr', hk'.1⟩
 have hn : r.nr ∈ nrsOf l r.arch := nrs_mem.2 ⟨r', hr', hk'⟩
 have ea : archsOf (l ++ [r]) = archsOf l := by rw [archsOf_snoc, addNew, if_pos ha]
 have en : ∀ a, nrsOf (l ++ [r]) a = nrsOf l a := fun a => by
  rw [nrsOf_snoc]
  split
  ·rename_i e; subst e; rw [addNew, if_pos hn]
  ·rfl
 have hd := h.dz
 rw [List.nodup_append] at hd
 obtain ⟨d1, d2, d3⟩ := hd
 have hzlt := h.oz_lt hm
 have m1 : (of.set j ((r.arch, r.nr), rl ++ [r], z)).map (·.1) = of.map (·.1) := map_set_same (·.1) hj (by rfl)
 have m2 : (of.set j ((r.arch, r.nr), rl ++ [r], z)).map (·.2.2) = of.map (·.2.2) := map_set_same (·.2.2) hj (by rfl)
 refine ⟨by rw [ea]; exact h.ms_eq, by rw [ea]; exact h.nk, fun e he => by rw [en]; exact h.nv e he, ?_, fun k => ?_, fun e he => ?_, fun e he => ?_, fun e he => ?_, ?_, set_cz h.cz⟩
 ·rw [m1]; exact h.ok
 ·rw [m1, h.om]
  constructor
  ·rintro ⟨x, hx, e⟩; exact ⟨x, by simp [hx], e⟩
  ·rintro ⟨x, hx, e⟩
   rcases List.mem_append.1 hx with hx | hx
   ·exact ⟨x, hx, e⟩
   ·rw [List.mem_singleton] at hx; subst hx
    exact ⟨r', hr', by rw [← e]; simp [hk']⟩
 ·rcases mem_set' he with rfl | ⟨i, hi, hg⟩
  ·simp only
   rw [rulesAt_snoc, if_pos ⟨rfl, rfl⟩, ← h.ov _ hm]
  ·have := nodup_ne h.ok hg hj hi
   rw [rulesAt_snoc, if_neg (fun q => this (Prod.ext q.1.symm q.2.symm))]
   exact h.ov e (List.mem_of_getElem? hg)
 ·have : e.2.2 ≠ z := d3 _ (List.mem_map.2 ⟨e, he, rfl⟩) _ (List.mem_map.2 ⟨_, hm, rfl⟩)
  rw [List.getElem?_set_ne (Ne.symm this)]; exact h.nz e he
 ·rcases mem_set' he with rfl | ⟨i, hi, hg⟩
  ·simp only
   rw [List.getElem?_set_self hzlt]; simp
  ·have := nodup_ne d2 hg hj hi
   rw [List.getElem?_set_ne (Ne.symm this)]; exact h.oz e (List.mem_of_getElem? hg)
 ·rw [m2]; exact h.dz
theorem InvL.newC (h : InvL l of nrs ms Z) (hk : (r.arch, r.nr) ∉ of.map (·.1)) {j z z2 : Nat} {ns : List Nat} (hj : nrs[j]? = some (r.arch, ns, z)) (hz2 : Z[z2]? = some (some (.zone 1))) (hz2n : z2 ∉ nrs.map (·.2.2) ++ of.map (·.2.2)) :
  InvL (l ++ [r]) (of ++ [((r.arch, r.nr), [r], z2)]) (nrs.set j (r.arch, ns ++ [r.nr], z)) ms (Z.set z (some (.zone (ns.length + 1)))) := by
 have hm := List.mem_of_getElem? hj
 have ha : r.arch ∈ archsOf l := by rw [← h.nk]; exact List.mem_map.2 ⟨_, hm, rfl⟩
 have hn : r.nr ∉ nrsOf l r.arch := fun hc => by
  obtain ⟨x, hx, e⟩ := nrs_mem.1 hc
  exact hk ((h.om _).2 ⟨x, hx, Prod.ext e.1 e.2⟩)
 have h0 : rulesAt l r.arch r.nr = [] := at_none hn
 have ea : archsOf (l ++ [r]) = archsOf l := by rw [archsOf_snoc, addNew, if_pos ha]
 have hd := h.dz
 rw [List.nodup_append] at hd
 obtain ⟨d1, d2, d3⟩ := hd
 rw [List.mem_append, not_or] at hz2n
 have hzlt := h.nz_lt hm
 have m1 : (nrs.set j (r.arch, ns ++ [r.nr], z)).map (·.1) = nrs.map (·.1) := map_set_same (·.1) hj (by rfl)
 have m2 : (nrs.set j (r.arch, ns ++ [r.nr], z)).map (·.2.2) = nrs.map (·.2.2) := map_set_same (·.2.2) hj (by rfl)
 have hzz : z2 ≠ z := fun e => hz2n.1 (by rw [e]; exact List.mem_map.2 ⟨_, hm, rfl⟩)
 refine ⟨by rw [ea]; exact h.ms_eq, by rw [m1, ea]; exact h.nk, fun e he => ?_, ?_, fun k => ?_, fun e he => ?_, fun e he => ?_, fun e he => ?_, ?_, set_cz h.cz⟩
 ·rcases mem_set' he with rfl | ⟨i, hi, hg⟩
  ·simp only
   rw [nrsOf_snoc, if_pos rfl, addNew, if_neg hn, ← h.nv _ hm]
  ·have hkn : (nrs.map (·.1)).Nodup := by rw [h.nk]; exact firsts_nodup _
   have := nodup_ne hkn hg hj hi
   rw [nrsOf_snoc, if_neg (Ne.symm this)]
   exact h.nv e (List.mem_of_getElem? hg)
 ·rw [List.map_append, List.nodup_append]
  exact ⟨h.ok, by simp, fun x hx y hy e => hk (by simp at hy; rw [e, hy] at hx; exact hx)⟩
 ·rw [List.map_append, List.mem_append, h.om]
  constructor
  ·rintro (⟨x, hx, e⟩ | hx)
   ·exact ⟨x, by simp [hx], e⟩
   ·simp at hx; exact ⟨r, by simp, hx.symm⟩
  ·rintro ⟨x, hx, e⟩
   rcases List.mem_append.1 hx with hx | hx
   ·exact .inl ⟨x, hx, e⟩
   ·rw [List.mem_singleton] at hx; subst hx
    exact .inr (by simp [← e])
 ·rcases List.mem_append.1 he with he | he
  ·have : e.1 ≠ (r.arch, r.nr) := fun q => hk (by rw [← q]; exact List.mem_map.2 ⟨e, he, rfl⟩)
   rw [rulesAt_snoc, if_neg (fun q => this (Prod.ext q.1.symm q.2.symm))]
   exact h.ov e he
  ·rw [List.mem_singleton] at he; subst he
   simp only
   rw [rulesAt_snoc, if_pos ⟨rfl, rfl⟩, h0]; rfl
 ·rcases mem_set' he with rfl | ⟨i, hi, hg⟩
  ·simp only
   rw [List.getElem?_set_self hzlt]; simp
  ·have := nodup_ne d1 hg hj hi
   rw [List.getElem?_set_ne (Ne.symm this)]; exact h.nz e (List.mem_of_getElem? hg)
 ·rcases List.mem_append.1 he with he | he
  ·have : z ≠ e.2.2 := d3 _ (List.mem_map.2 ⟨_, hm, rfl⟩) _ (List.mem_map.2 ⟨e, he, rfl⟩)
   rw [List.getElem?_set_ne this]; exact h.oz e he
  ·rw [List.mem_singleton] at he; subst he
   simp only
   rw [List.getElem?_set_ne hzz.symm]; exact hz2
 ·rw [m2, List.map_append, ← List.append_assoc, List.nodup_append]
  exact ⟨h.dz, by simp, fun x hx y hy e => by
   simp at hy
   rw [e, hy] at hx
   rcases List.mem_append.1 hx with hx | hx
   ·exact hz2n.1 hx
   ·exact hz2n.2 hx⟩
theorem InvL.newA (h : InvL l of nrs ms Z) (ha : r.arch ∉ nrs.map (·.1)) {z z2 : Nat} (hz : Z[z]? = some (some (.zone 1))) (hz2 : Z[z2]? = some (some (.zone 1))) (hzn : z ∉ nrs.map (·.2.2) ++ of.map (·.2.2)) (hz2n : z2 ∉ nrs.map (·.2.2) ++ of.map (·.2.2)) (hzz : z ≠ z2) :
  InvL (l ++ [r]) (of ++ [((r.arch, r.nr), [r], z2)]) (nrs ++ [(r.arch, [r.nr], z)]) (ms ++ [r.arch]) Z := by
 rw [h.nk] at ha
 have hk : (r.arch, r.nr) ∉ of.map (·.1) := fun hc => by
  obtain ⟨x, hx, e⟩ := (h.om _).1 hc
  exact ha (archs_mem.2 ⟨x, hx, (Prod.mk.inj e).1⟩)
 have hn0 : nrsOf l r.arch = [] := by
  rw [List.eq_nil_iff_forall_not_mem]
  intro n hn
  obtain ⟨x, hx, e⟩ := nrs_mem.1 hn
  exact ha (archs_mem.2 ⟨x, hx, e.1⟩)
 have h0 : rulesAt l r.arch r.nr = [] := at_none (by rw [hn0]; simp)
 have ea : archsOf (l ++ [r]) = archsOf l ++ [r.arch] := by rw [archsOf_snoc, addNew, if_neg ha]
 have hd := h.dz
 rw [List.nodup_append] at hd
 obtain ⟨d1, d2, d3⟩ := hd
 rw [List.mem_append, not_or] at hz2n hzn
 refine ⟨by rw [ea, h.ms_eq], by rw [List.map_append, h.nk, ea]; rfl, fun e he => ?_, ?_, fun k => ?_, fun e he => ?_, fun e he => ?_, fun e he => ?_, ?_, h.cz⟩
 ·rcases List.mem_append.1 he with he | he
  ·have : r.arch ≠ e.1 := fun q => ha (by rw [q, ← h.nk]; exact List.mem_map.2 ⟨e, he, rfl⟩)
   rw [nrsOf_snoc, if_neg this]; exact h.nv e he
  ·rw [List.mem_singleton] at he; subst he
   simp only
   rw [nrsOf_snoc, if_pos rfl, hn0]; rfl
 ·rw [List.map_append, List.nodup_append]
  exact ⟨h.ok, by simp, fun x hx y hy e => hk (by simp at hy; rw [e, hy] at hx; exact hx)⟩
 ·rw [List.map_append, List.mem_append, h.om]
  constructor
  ·rintro (⟨x, hx, e⟩ | hx)
   ·exact ⟨x, by simp [hx], e⟩
   ·simp at hx; exact ⟨r, by simp, hx.symm⟩
  ·rintro ⟨x, hx, e⟩
   rcases List.mem_append.1 hx with hx | hx
   ·exact .inl ⟨x, hx, e⟩
   ·rw [List.mem_singleton] at hx; subst hx
    exact .inr (by simp [← e])
 ·rcases List.mem_append.1 he with he | he
  ·have : e.1 ≠ (r.arch, r.nr) := fun q => hk (by rw [← q]; exact List.mem_map.2 ⟨e, he, rfl⟩)
   rw [rulesAt_snoc, if_neg (fun q => this (Prod.ext q.1.symm q.2.symm))]
   exact h.ov e he
  ·rw [List.mem_singleton] at he; subst he
   simp only
   rw [rulesAt_snoc, if_pos ⟨rfl, rfl⟩, h0]; rfl
 ·rcases List.mem_append.1 he with he | he
  ·exact h.nz e he
  ·rw [List.mem_singleton] at he; subst he; exact hz
 ·rcases List.mem_append.1 he with he | he
  ·exact h.oz e he
  ·rw [List.mem_singleton] at he; subst he; exact hz2
 ·rw [List.map_append, List.map_append, List.nodup_append]
  refine ⟨?_, ?_, ?_⟩
  ·rw [List.nodup_append]
   exact ⟨d1, by simp, fun x hx y hy e => by simp at hy; rw [e, hy] at hx; exact hzn.1 hx⟩
  ·rw [List.nodup_append]
   exact ⟨d2, by simp, fun x hx y hy e => by simp at hy; rw [e, hy] at hx; exact hz2n.2 hx⟩
  ·intro x hx y hy e
   rcases List.mem_append.1 hx with hx | hx <;> rcases List.mem_append.1 hy with hy | hy
   ·exact d3 x hx y hy e
   ·simp at hy; rw [e, hy] at hx; exact hz2n.1 hx
   ·simp at hx; rw [← e, hx] at hy; exact hzn.2 hy
   ·simp at hx hy; rw [hx, hy] at e; exact hzz e
end
end Go.Ev
/- A policy made a filter: its maps. -/
namespace Go.Ev
open Go Go.RowKit
variable {G : Tbl}
set_option maxRecDepth 10000
set_option maxHeartbeats 8000000
set_option linter.unusedSimpArgs false
set_option linter.unusedVariables false
def NxK {S : Type} (m : S → Nat) (E : S → List (Nat × V)) (B : S → Heap) (P : S → Prop) (l : List Nat) (k : Nat) (s : S) (e1 : Env) (H1 : Heap) : Prop :=
 ∃ s' kk, m s' < m s ∧ P s' ∧ k ≤ kk ∧ kk ≤ H1.length ∧ (keepE l e1).cl kk = mkE (E s') ∧ trunc kk H1 = B s'
def QSK {S : Type} (G : Tbl) (K : List Kt) (Q : Ex → Env → Heap → Prop) (l : List Nat) (k : Nat) (m : S → Nat) (E : S → List (Nat × V)) (B : S → Heap) (P : S → Prop) (s : S) (x : Ex) (e1 : Env) (H1 : Heap) : Prop :=
 match x with
 | .nx => NxK m E B P l k s e1 H1
 | x => Wr G x K e1 H1 Q
section
variable {K : List Kt} {Q : Ex → Env → Heap → Prop} {e : Env} {H : Heap} {l : List Nat} {k : Nat} {S : Type} {m : S → Nat} {E : S → List (Nat × V)} {B : S → Heap} {P : S → Prop} {s : S}
@[simp] theorem QSK_nx : QSK G K Q l k m E B P s .nx e H = NxK m E B P l k s e H := rfl
@[simp] theorem QSK_exit (i : Nat) : QSK G K Q l k m E B P s (.exit i) e H = Wr G (.exit i) K e H Q := rfl
@[simp] theorem QSK_ret : QSK G K Q l k m E B P s .ret e H = Wr G .ret K e H Q := rfl
theorem W_stateK {c : SCode} (m : S → Nat) (E : S → List (Nat × V)) (B : S → Heap) (P : S → Prop) (s0 : S)
  (h0 : P s0 ∧ (keepE l e).cl H.length = mkE (E s0) ∧ trunc H.length H = B s0)
  (hr : ∀ s, P s → W G c [] (mkE (E s)) (B s) (QSK G K Q l H.length m E B P s)) : W G (.loop l c) K e H Q := by
 refine W_loopK (fun k e H => ∃ s, k = m s ∧ P s ∧ e = mkE (E s) ∧ H = B s) (m s0) ⟨s0, rfl, h0.1, h0.2.1, h0.2.2⟩ ?_
 rintro k e' H' ⟨s, rfl, hp, rfl, rfl⟩
 obtain ⟨x, e1, H1, hb, hq⟩ := hr s hp
 refine ⟨x, e1, H1, hb, ?_⟩
 cases x with
 | nx => obtain ⟨s', kk, h1, h2, h3, h4, h5, h6⟩ := hq; exact ⟨m s', kk, h1, h3, h4, s', rfl, h2, h5, h6⟩
 | exit id => exact hq
 | ret => exact hq
end
def vN (e : EN) : V × V := (.int .u32 (e.1 : Int), .vs (nats .u32 e.2.1) (.own (e.2.2 + 9)))
def vO (e : EO) : V × V := (.agg [.int .u32 (e.1.1 : Int), .int .u32 (e.1.2 : Int)], .vs (RL e.2.1) (.own (e.2.2 + 9)))
def LH (p : Po) (c : List In4) (of nrs : List (V × V)) (m : Nat) (Z : Heap) : Heap :=
 [some (.cells p.cs), some (mkrC c .no), some (.cells [.ptr 1 0]), some (.cells [.int .i64 1]), some (.map of), some (.cells [.mp 4]), some (.map nrs), some (.cells [.mp 6]), some (.zone m)] ++ Z
section
variable {p : Po} {c : List In4} {of nrs : List (V × V)} {m : Nat} {Z : Heap}
theorem LH_len : (LH p c of nrs m Z).length = Z.length + 9 := by simp [LH]
theorem LH_app (r : Heap) : LH p c of nrs m Z ++ r = LH p c of nrs m (Z ++ r) := by simp [LH]
theorem LH_1 : (LH p c of nrs m Z)[1]? = some (some (.cells [.vs (IL c) .no, .int .i64 0])) := rfl
theorem LH_2 : (LH p c of nrs m Z)[2]? = some (some (.cells [.ptr 1 0])) := rfl
theorem LH_3 : (LH p c of nrs m Z)[3]? = some (some (.cells [.int .i64 1])) := rfl
theorem LH_4 : (LH p c of nrs m Z)[4]? = some (some (.map of)) := rfl
theorem LH_5 : (LH p c of nrs m Z)[5]? = some (some (.cells [.mp 4])) := rfl
theorem LH_6 : (LH p c of nrs m Z)[6]? = some (some (.map nrs)) := rfl
theorem LH_7 : (LH p c of nrs m Z)[7]? = some (some (.cells [.mp 6])) := rfl
theorem LH_8 : (LH p c of nrs m Z)[8]? = some (some (.zone m)) := rfl
theorem LH_z (z : Nat) : (LH p c of nrs m Z)[z + 9]? = Z[z]? := by
 rw [LH, List.getElem?_append_right (by simp)]
 simp
theorem LH_s4 (of' : List (V × V)) : (LH p c of nrs m Z).set 4 (some (.map of')) = LH p c of' nrs m Z := rfl
theorem LH_s6 (nrs' : List (V × V)) : (LH p c of nrs m Z).set 6 (some (.map nrs')) = LH p c of nrs' m Z := rfl
theorem LH_s8 (m' : Nat) : (LH p c of nrs m Z).set 8 (some (.zone m')) = LH p c of nrs m' Z := rfl
theorem LH_sz (z : Nat) (x : Option Blk) : (LH p c of nrs m Z).set (z + 9) x = LH p c of nrs m (Z.set z x) := by
 rw [LH, List.set_append_right _ _ (by simp)]
 simp [LH]
end
section
variable {p : Po} {c : List In4} {of : List EO} {nrs : List EN} {m : Nat} {Z : Heap}
theorem clL_cs (n : Nat) (r : Ru) : clL n r.cs = r.cs := by
 rw [clL_eq_map]; simp [Ru.cs, V.cl, Tk.cl]
theorem LH_shut (hZ : ∀ n, Z.map (Option.map (Blk.cl n)) = Z) (h1 : ∀ e ∈ of, e.2.2 < Z.length) (h2 : ∀ e ∈ nrs, e.2.2 < Z.length) : HShut (LH p c (of.map vO) (nrs.map vN) m Z) := by
 intro n hn
 rw [LH_len] at hn
 have e1 : (of.map vO).map (fun q => (q.1.cl n, q.2.cl n)) = of.map vO := by
  rw [List.map_map]
  refine List.map_congr_left fun e he => ?_
  have := h1 e he
  simp [vO, V.cl, clL, Tk.cl, show e.2.2 + 9 < n by omega]
 have e2 : (nrs.map vN).map (fun q => (q.1.cl n, q.2.cl n)) = nrs.map vN := by
  rw [List.map_map]
  refine List.map_congr_left fun e he => ?_
  have := h2 e he
  simp [vN, V.cl, clL, Tk.cl, show e.2.2 + 9 < n by omega]
 unfold LH
 rw [List.map_append, hZ]
 congr 1
 simp [mkrC, Blk.cl, Po.cs, clL, V.cl, Tk.cl, show 1 < n by omega, show 4 < n by omega, show 6 < n by omega]
 exact ⟨by simpa using e1, by simpa using e2⟩
theorem mf_none {ks : Ky} {k : V} : ∀ {es : List (V × V)} (i : Nat), (∀ p ∈ es, keyEq ks k p.1 = some false) → mfind ks k es i = some none
 | [], _, _ => rfl
 | q :: es, i, h => by
  simp only [mfind, h q (by simp)]
  exact mf_none (i + 1) fun p hp => h p (by simp [hp])
theorem mf_some {ks : Ky} {k : V} : ∀ {es : List (V × V)} (i j : Nat) {q : V × V}, es[j]? = some q → keyEq ks k q.1 = some true → (∀ j' < j, ∀ p, es[j']? = some p → keyEq ks k p.1 = some false) → mfind ks k es i = some (some (i + j, q.2))
 | [], _, _, _, h, _, _ => by simp at h
 | x :: es, i, 0, q, h, ht, _ => by
  simp at h; subst h
  simp only [mfind, ht, Nat.add_zero]
 | x :: es, i, j + 1, q, h, ht, hf => by
  have h0 := hf 0 (by omega) x rfl
  simp only [mfind, h0]
  have := mf_some (i + 1) j (q := q) (by simpa using h) ht (fun j' hj p hp => hf (j' + 1) (by omega) p (by simpa using hp))
  rw [this, show i + 1 + j = i + (j + 1) by omega]
theorem keyN (a b : Nat) : keyEq (.sc .int) (.int .u32 (a : Int)) (.int .u32 (b : Int)) = some (decide (a = b)) := by
 simp [keyEq, eqk]
 rw [Bool.eq_iff_iff]; simp
theorem keyO (a n b k : Nat) : keyEq (.row [.int, .int]) (.agg [.int .u32 (a : Int), .int .u32 (n : Int)]) (.agg [.int .u32 (b : Int), .int .u32 (k : Int)]) = some (decide (a = b ∧ n = k)) := by
 simp [keyEq, eqks, eqk]
 rw [Bool.eq_iff_iff]; simp
theorem findN_no {a : Nat} (h : a ∉ nrs.map (·.1)) : mfind (.sc .int) (.int .u32 (a : Int)) (nrs.map vN) 0 = some none := by
 refine mf_none 0 fun q hq => ?_
 obtain ⟨e, he, rfl⟩ := List.mem_map.1 hq
 rw [vN, keyN, decide_eq_false]
 exact fun hc => h (hc ▸ List.mem_map.2 ⟨e, he, rfl⟩)
theorem findN {j a z : Nat} {l : List Nat} (hn : (nrs.map (·.1)).Nodup) (h : nrs[j]? = some (a, l, z)) : mfind (.sc .int) (.int .u32 (a : Int)) (nrs.map vN) 0 = some (some (j, .vs (nats .u32 l) (.own (z + 9)))) := by
 have := mf_some (ks := .sc .int) (k := .int .u32 (a : Int)) (es := nrs.map vN) 0 j (q := vN (a, l, z)) (by simp [h]) (by rw [vN, keyN]; simp) (fun j' hj q hq => by
  rw [List.getElem?_map, Option.map_eq_some_iff] at hq
  obtain ⟨e, he, rfl⟩ := hq
  rw [vN, keyN, decide_eq_false]
  exact fun hc => nodup_ne hn he h (by omega) hc.symm)
 rw [this, Nat.zero_add]; rfl
theorem findO_no {a n : Nat} (h : (a, n) ∉ of.map (·.1)) : mfind (.row [.int, .int]) (.agg [.int .u32 (a : Int), .int .u32 (n : Int)]) (of.map vO) 0 = some none := by
 refine mf_none 0 fun q hq => ?_
 obtain ⟨e, he, rfl⟩ := List.mem_map.1 hq
 rw [vO, keyO, decide_eq_false]
 exact fun hc => h (List.mem_map.2 ⟨e, he, Prod.ext hc.1.symm hc.2.symm⟩)
theorem findO {j a n z : Nat} {l : List Ru} (hn : (of.map (·.1)).Nodup) (h : of[j]? = some ((a, n), l, z)) : mfind (.row [.int, .int]) (.agg [.int .u32 (a : Int), .int .u32 (n : Int)]) (of.map vO) 0 = some (some (j, .vs (RL l) (.own (z + 9)))) := by
 have := mf_some (ks := .row [.int, .int]) (k := .agg [.int .u32 (a : Int), .int .u32 (n : Int)]) (es := of.map vO) 0 j (q := vO ((a, n), l, z)) (by simp [h]) (by rw [vO, keyO]; simp) (fun j' hj q hq => by
  rw [List.getElem?_map, Option.map_eq_some_iff] at hq
  obtain ⟨e, he, rfl⟩ := hq
  rw [vO, keyO, decide_eq_false]
  exact fun hc => nodup_ne hn he h (by omega) (Prod.ext hc.1.symm hc.2.symm))
 rw [this, Nat.zero_add]; rfl
end
end Go.Ev
/- Policies by the document: contracts. -/
namespace Go.Ev
open Go Go.RowKit
variable {G : Tbl}
set_option maxRecDepth 10000
set_option maxHeartbeats 4000000
set_option linter.unusedSimpArgs false
set_option linter.unusedVariables false
theorem digits_ok [HasR1t G] : ∀ (m n : Nat), m ≤ 100 → n < 16 ^ (m + 1) → n < 18446744073709551616 → ∃ s, s.length ≤ m + 1 ∧ FP G 430 [.int .u64 n] (.str s)
 | m, n, hmm, hm, hn => by
  obtain ⟨d, hd⟩ : ∃ d, d = n % 16 := ⟨_, rfl⟩
  have hd16 : d < 16 := by omega
  have r1 : remI (n : Int) 16 = ((d : Nat) : Int) := by rw [hd]; exact rem64 (b := 16)
  have q1 : quoI .u64 (n : Int) 16 = ((n / 16 : Nat) : Int) := quoU64' (b := 16) hn
  have a1 : addI .u64 48 (d : Int) = ((48 + d : Nat) : Int) := IntWalk.u64_in _ ⟨by omega, by omega⟩
  have a2 : addI .u64 87 (d : Int) = ((87 + d : Nat) : Int) := IntWalk.u64_in _ ⟨by omega, by omega⟩
  have c1 := convU8 (a := 48 + d) (by omega)
  have c2 := convU8 (a := 87 + d) (by omega)
  by_cases h16 : n < 16
  ·have hl : ((n : Int) < 16) = True := eq_true (by omega)
   by_cases h9 : 9 < d
   ·have h9' : (9 < (d : Int)) = True := eq_true (by omega)
    refine ⟨[UInt8.ofNat (87 + d)], by simp, FP_of HasR1t.h_hurdleref01_digits (Nat.le_of_ble_eq_true rfl) ?_⟩
    simp [r1, q1, a1, a2, c1, c2, h9', hl, chunks, keep_cl, trunc, -Int.natCast_add]
   ·have h9' : (9 < (d : Int)) = False := eq_false (by omega)
    refine ⟨[UInt8.ofNat (48 + d)], by simp, FP_of HasR1t.h_hurdleref01_digits (Nat.le_of_ble_eq_true rfl) ?_⟩
    simp [r1, q1, a1, a2, c1, c2, h9', hl, chunks, keep_cl, trunc, -Int.natCast_add]
  ·cases m with
   | zero => simp at hm; omega
   | succ m =>
   have hl : ((n : Int) < 16) = False := eq_false (by omega)
   obtain ⟨s, hs, ih⟩ := digits_ok m (n / 16) (by omega) (by rw [Nat.pow_succ] at hm; omega) (by omega)
   by_cases h9 : 9 < d
   ·have h9' : (9 < (d : Int)) = True := eq_true (by omega)
    refine ⟨s ++ [UInt8.ofNat (87 + d)], by simp; omega, FP_of HasR1t.h_hurdleref01_digits (Nat.le_of_ble_eq_true rfl) ?_⟩
    simp [r1, q1, a1, a2, c1, c2, h9', hl, chunks, keep_cl, trunc, -Int.natCast_add]
    refine callP_of ih ?_
    simp [show (s.length ≤ 9223372036854775806) = True from eq_true (by omega)]
   ·have h9' : (9 < (d : Int)) = False := eq_false (by omega)
    refine ⟨s ++ [UInt8.ofNat (48 + d)], by simp; omega, FP_of HasR1t.h_hurdleref01_digits (Nat.le_of_ble_eq_true rfl) ?_⟩
    simp [r1, q1, a1, a2, c1, c2, h9', hl, chunks, keep_cl, trunc, -Int.natCast_add]
    refine callP_of ih ?_
    simp [show (s.length ≤ 9223372036854775806) = True from eq_true (by omega)]
theorem TextR_ok [HasR1t G] (n : Nat) (hn : n < 18446744073709551616) : ∃ s, s.length ≤ 18 ∧ FP G 431 [.int .u64 n] (.str (48 :: 120 :: s)) := by
 obtain ⟨s, hs, h⟩ := digits_ok (G := G) 15 n (by decide) (by simpa using hn) hn
 refine ⟨s, by omega, FP_of HasR1t.h_hurdleref01_Text (Nat.le_of_ble_eq_true rfl) ?_⟩
 simp
 refine callP_of h ?_
 simp [show (2 + s.length ≤ 9223372036854775807) = True from eq_true (by omega)]
theorem ActionR_ok [HasR1t G] [HasR9a G] (v : Nat) (hv : v < 4294967296) : ∃ s, FP G 432 [.int .u32 v] (.str s) ∧ s.isEmpty = !actB v := by
 by_cases h1 : 327680 ≤ v
 ·have h1' : (327680 ≤ (v : Int)) = True := eq_true (by omega)
  by_cases h2 : v ≤ 331775
  ·have h2' : ((v : Int) ≤ 331775) = True := eq_true (by omega)
   obtain ⟨s, hs, hT⟩ := TextR_ok (G := G) (v - 327680) (by omega)
   have e1 : subI .u32 (v : Int) 327680 = ((v - 327680 : Nat) : Int) := by
    rw [show ((v : Int) = ((v : Nat) : Int)) from rfl, subU hv]; omega
   have e2 : convI .u64 ((v - 327680 : Nat) : Int) = ((v - 327680 : Nat) : Int) := IntWalk.u64_in _ ⟨by omega, by omega⟩
   refine ⟨[101, 114, 114, 111, 114, 58] ++ (48 :: 120 :: s), FP_of HasR9a.h_hurdleref09_Action (Nat.le_of_ble_eq_true rfl) ?_, ?_⟩
   ·simp [h1', h2', e1, e2]
    refine callP_of hT ?_
    simp [show (6 + (s.length + 1 + 1) ≤ 9223372036854775807) = True from eq_true (by omega)]
    done
   ·have : actB v = true := by simp [actB]; omega
    rw [this]; rfl
  ·have h2' : ((v : Int) ≤ 331775) = False := eq_false (by omega)
   have b0 : ((v : Int) == 0) = false := by simp; omega
   have b1 : ((v : Int) == 196608) = false := by simp; omega
   by_cases h3 : v = 2147221504
   ·subst h3
    refine ⟨[108, 111, 103], FP_of HasR9a.h_hurdleref09_Action (Nat.le_of_ble_eq_true rfl) ?_, by decide⟩
    simp
   ·by_cases h4 : v = 2147418112
    ·subst h4
     refine ⟨[97, 108, 108, 111, 119], FP_of HasR9a.h_hurdleref09_Action (Nat.le_of_ble_eq_true rfl) ?_, by decide⟩
     simp
    ·have b2 : ((v : Int) == 2147221504) = false := by simp; omega
     have b3 : ((v : Int) == 2147418112) = false := by simp; omega
     refine ⟨[], FP_of HasR9a.h_hurdleref09_Action (Nat.le_of_ble_eq_true rfl) ?_, ?_⟩
     ·simp [h1', h2', b0, b1, b2, b3]
     ·have : actB v = false := by simp [actB]; omega
      rw [this]; rfl
 ·have h1' : (327680 ≤ (v : Int)) = False := eq_false (by omega)
  by_cases h3 : v = 0
  ·subst h3
   refine ⟨[107, 105, 108, 108], FP_of HasR9a.h_hurdleref09_Action (Nat.le_of_ble_eq_true rfl) ?_, by decide⟩
   simp
  ·by_cases h4 : v = 196608
   ·subst h4
    refine ⟨[116, 114, 97, 112], FP_of HasR9a.h_hurdleref09_Action (Nat.le_of_ble_eq_true rfl) ?_, by decide⟩
    simp
   ·have b0 : ((v : Int) == 0) = false := by simp; omega
    have b1 : ((v : Int) == 196608) = false := by simp; omega
    have b2 : ((v : Int) == 2147221504) = false := by simp; omega
    have b3 : ((v : Int) == 2147418112) = false := by simp; omega
    refine ⟨[], FP_of HasR9a.h_hurdleref09_Action (Nat.le_of_ble_eq_true rfl) ?_, ?_⟩
    ·simp [h1', b0, b1, b2, b3]
    ·have : actB v = false := by simp [actB]; omega
     rw [this]; rfl
theorem polRightR_ok [HasR1t G] [HasR9a G] [HasR8 G] [HasR10 G] (p : Po) (hl : p.rules.length ≤ maxLen) (hr : ∀ r ∈ p.rules, r.conds.length ≤ maxLen ∧ r.act < 4294967296) (hd : p.dflt < 4294967296) : FP G 436 [.agg p.cs] (.bool (rightP p)) := by
 refine FP_of HasR10.h_hurdleref10_Right (Nat.le_of_ble_eq_true rfl) ?_
 obtain ⟨s, hA, he⟩ := ActionR_ok (G := G) p.dflt hd
 unfold maxLen at hl
 by_cases h64 : p.rules.length ≤ 64
 ·have h64' : (64 < (p.rules.length : Int)) = False := eq_false (by omega)
  simp [Po.cs, h64']
  refine callP_of hA ?_
  cases hb : actB p.dflt with
  | false =>
   rw [hb] at he
   simp [rightP, hb, he]
  | true =>
   rw [hb] at he
   simp [he]
   refine W_up p.rules.length (fun i => [(1, .ptr 0 0), (3, .int .i64 i)]) (fun _ => [some (.cells p.cs)]) (fun i => (p.rules.take i).all mayB = true) ?_ ?_
   ·simp [keep_cl, trunc, Po.cs]
   intro i hi hp
   by_cases hlt : i < p.rules.length
   ·obtain ⟨x, hx⟩ : ∃ x, x = p.rules[i] := ⟨_, rfl⟩
    have hg : p.rules[i]? = some x := by rw [List.getElem?_eq_getElem hlt, hx]
    have hgc := RL_get hg
    have hget : (RL p.rules)[i]'(by simpa using hlt) = x.cs := by rw [List.getElem?_eq_getElem (by simpa using hlt)] at hgc; exact Option.some.inj hgc
    have hxm := hr x (List.mem_of_getElem? hg)
    obtain ⟨s2, hA2, he2⟩ := ActionR_ok (G := G) x.act hxm.2
    simp only [Ru.cs] at hgc hget
    have ht : (p.rules.take (i + 1)).all mayB = ((p.rules.take i).all mayB && mayB x) := by rw [List.take_add_one, hg]; simp
    have hno : mayB x = false → rightP p = false := fun h => by
     have : p.rules.all mayB = false := by
      rw [List.all_eq_false]; exact ⟨x, List.mem_of_getElem? hg, by simp [h]⟩
     simp [rightP, this]
    by_cases h4 : x.conds.length ≤ 4
    ·have h4' : (4 < (x.conds.length : Int)) = False := eq_false (by omega)
     simp (disch := omega) [ltT, get_in, hgc, hget, Po.cs, hlt, h4']
     refine callP_of hA2 ?_
     cases hb2 : actB x.act with
     | false =>
      rw [hb2] at he2
      simp [hno (by simp [mayB, hb2]), he2]
     | true =>
      rw [hb2] at he2
      simp [he2]
      refine W_up x.conds.length (fun k => [(1, .ptr 0 0), (3, .int .i64 i), (4, .ptr 1 0), (5, .int .i64 k)]) (fun _ => [some (.cells p.cs), some (.cells x.cs)]) (fun k => (x.conds.take k).all Cd.right = true) ?_ ?_
      ·simp [keep_cl, trunc, Po.cs, Ru.cs]
      intro k hk hq
      by_cases hlk : k < x.conds.length
      ·obtain ⟨y, hy⟩ : ∃ y, y = x.conds[k] := ⟨_, rfl⟩
       have hgy : x.conds[k]? = some y := by rw [List.getElem?_eq_getElem hlk, hy]
       have hgyc := CL_get hgy
       have hgety : (CL x.conds)[k]'(by simpa using hlk) = y.cs := by rw [List.getElem?_eq_getElem (by simpa using hlk)] at hgyc; exact Option.some.inj hgyc
       have hcr := CondRR_ok (G := G) y
       simp only [Cd.cs] at hcr hgyc hgety
       have htk : (x.conds.take (k + 1)).all Cd.right = ((x.conds.take k).all Cd.right && y.right) := by rw [List.take_add_one, hgy]; simp
       simp (disch := omega) [ltT, get_in, hgyc, hgety, Po.cs, Ru.cs, hlk]
       refine callP_of hcr ?_
       cases hyr : y.right with
       | false =>
        have : x.conds.all Cd.right = false := by
         rw [List.all_eq_false]; exact ⟨y, List.mem_of_getElem? hgy, by simp [hyr]⟩
        simp [hno (by simp [mayB, this])]
       | true =>
        simp (disch := omega) [keep_cl, trunc, add1', hlk, Po.cs, Ru.cs, -Int.natCast_add]
        have : (x.conds.take (k + 1)).all Cd.right = true := by rw [htk, hq, hyr]; rfl
        simpa using this
      ·have : k = x.conds.length := by omega
       subst this
       rw [List.take_length] at hq
       have hm : mayB x = true := by simp [mayB, hq, hb2, h4]
       simp (disch := omega) [ltF, keep_cl, trunc, add1', hlt, Po.cs, Ru.cs, -Int.natCast_add]
       have : (p.rules.take (i + 1)).all mayB = true := by rw [ht, hp, hm]; rfl
       simpa using this
    ·have h4' : (4 < (x.conds.length : Int)) = True := eq_true (by omega)
     simp (disch := omega) [ltT, get_in, hgc, hget, Po.cs, hlt, h4']
     simp [hno (by simp [mayB, h4])]
   ·have : i = p.rules.length := by omega
    subst this
    rw [List.take_length] at hp
    simp (disch := omega) [ltF, keep_cl, trunc, Po.cs, rightP, hp, hb, h64]
 ·have h64' : (64 < (p.rules.length : Int)) = True := eq_true (by omega)
  simp [Po.cs, h64', rightP, h64]
def judgeD (d : Da) (p : Po) : Nat := ((p.rules.find? (fitsB d)).map (·.act)).getD p.dflt
def greatP (p : Po) : Bool := p.rules.any (fun r => decide (20 < r.conds.length)) || decide (100 < p.rules.length)
theorem Great10_ok [HasL10g G] (p : Po) (hl : p.rules.length ≤ maxLen) (hr : ∀ r ∈ p.rules, r.conds.length ≤ maxLen) : FP G 442 [.agg p.cs] (.bool (greatP p)) := by
 refine FP_of HasL10g.h_hurdlelaw10_Great (Nat.le_of_ble_eq_true rfl) ?_
 unfold maxLen at hl
 simp [Po.cs]
 refine W_up p.rules.length (fun i => [(1, .ptr 0 0), (3, .int .i64 i)]) (fun _ => [some (.cells p.cs)]) (fun i => (p.rules.take i).any (fun r => decide (20 < r.conds.length)) = false) ?_ ?_
 ·simp [keep_cl, trunc, Po.cs]
 intro i hi hp
 by_cases hlt : i < p.rules.length
 ·obtain ⟨x, hx⟩ : ∃ x, x = p.rules[i] := ⟨_, rfl⟩
  have hg : p.rules[i]? = some x := by rw [List.getElem?_eq_getElem hlt, hx]
  have hgc := RL_get hg
  have hget : (RL p.rules)[i]'(by simpa using hlt) = x.cs := by rw [List.getElem?_eq_getElem (by simpa using hlt)] at hgc; exact Option.some.inj hgc
  simp only [Ru.cs] at hgc hget
  have ht : (p.rules.take (i + 1)).any (fun r => decide (20 < r.conds.length)) = ((p.rules.take i).any (fun r => decide (20 < r.conds.length)) || decide (20 < x.conds.length)) := by rw [List.take_add_one, hg]; simp
  by_cases h20 : 20 < x.conds.length
  ·have h20' : (20 < (x.conds.length : Int)) = True := eq_true (by omega)
   have hgr : greatP p = true := by
    have : p.rules.any (fun r => decide (20 < r.conds.length)) = true := List.any_eq_true.2 ⟨x, List.mem_of_getElem? hg, by simpa using h20⟩
    simp [greatP, this]
   simp (disch := omega) [ltT, get_in, hgc, hget, Po.cs, hlt, h20', hgr]
  ·have h20' : (20 < (x.conds.length : Int)) = False := eq_false (by omega)
   have ht' : (p.rules.take (i + 1)).any (fun r => decide (20 < r.conds.length)) = false := by rw [ht, hp]; simpa using h20
   simp (disch := omega) [ltT, get_in, hgc, hget, Po.cs, hlt, h20', keep_cl, trunc, add1', -Int.natCast_add]
   simpa using ht'
 ·have : i = p.rules.length := by omega
  subst this
  rw [List.take_length] at hp
  have e : (100 < (p.rules.length : Int)) = (100 < p.rules.length) := by rw [eq_iff_iff]; omega
  simp (disch := omega) [ltF, keep_cl, trunc, Po.cs, greatP, hp, e]
end Go.Ev
/- A policy made a filter: contract. -/
namespace Go.Ev
open Go Go.RowKit
variable {G : Tbl}
set_option maxRecDepth 10000
set_option maxHeartbeats 8000000
set_option linter.unusedSimpArgs false
set_option linter.unusedVariables false
def Ru.wf (r : Ru) : Prop := r.conds.length ≤ maxLen ∧ (∀ x ∈ r.conds, x.ok) ∧ r.arch < 4294967296 ∧ r.nr < 4294967296 ∧ r.act < 4294967296
def Po.wf (p : Po) : Prop := p.rules.length ≤ maxLen ∧ (∀ r ∈ p.rules, r.wf) ∧ p.dflt < 4294967296
theorem right_fine {p : Po} (h : p.wf) (hr : rightP p = true) : p.fine ∧ p.rules.length ≤ 64 ∧ ∀ r ∈ p.rules, r.conds.length ≤ 4 := by
 simp only [rightP, Bool.and_eq_true, decide_eq_true_eq, List.all_eq_true, mayB] at hr
 obtain ⟨⟨h1, h2⟩, h3⟩ := hr
 exact ⟨⟨fun r hr => ⟨fun x hx => ⟨(h1 r hr).1.1 x hx, (h.2.1 r hr).2.1 x hx⟩, (h.2.1 r hr).2.2⟩, h.2.2⟩, h3, fun r hr => (h1 r hr).2⟩
theorem rootsL_snoc (rs : List Ru) (o : Nat) (a : Nat) : ∀ (l : List Nat) (c : List In4), rootsL rs o (l ++ [a]) c = (archC rs o a (rootsL rs o l c).1, (rootsL rs o l c).2 ++ [(a, (archC rs o a (rootsL rs o l c).1).length)])
 | [], c => rfl
 | m :: l, c => by
  have ih := rootsL_snoc rs o a l (archC rs o m c)
  simp only [List.cons_append, rootsL, ih]
theorem chainL_snoc (x : Nat × Nat) : ∀ (l : List (Nat × Nat)) (s : CLb), chainL (l ++ [x]) s = (branchL (chainL l s).1 21 x.1 x.2 (chainL l s).2, (branchL (chainL l s).1 21 x.1 x.2 (chainL l s).2).length)
 | [], s => rfl
 | y :: l, s => by
  have ih := chainL_snoc x l (branchL s.1 21 y.1 y.2 s.2, (branchL s.1 21 y.1 y.2 s.2).length)
  simp only [List.cons_append, chainL, ih]
structure LwSt where
 i : Nat
 of : List EO
 nrs : List EN
 ms : List Nat
 Z : Heap
theorem Lower_ok [HasWText G] [HasName G] [HasPol G] [HasIns G] [HasCode G] [HasMk G] [HasCondR G] [HasCondN G] [HasDataL G] [HasLow G] (p : Po) (hp : p.wf) :
  FP G 428 [.agg p.cs] (.tup [FL (if rightP p then lowerL p else []), .int .i64 (if rightP p then 0 else 1)]) := by
 refine FP_of HasLow.h_lower_Lower (Nat.le_of_ble_eq_true rfl) ?_
 have wr := polRight_ok (G := G) p hp.1 (fun r hr => ⟨(hp.2.1 r hr).1, (hp.2.1 r hr).2.2.2.2⟩) hp.2.2
 simp only [Po.cs] at wr
 simp [Po.cs]
 refine callP_of wr ?_
 cases hr : rightP p with
 | false => simp [FL]
 | true =>
  obtain ⟨hf, hl, hcl⟩ := right_fine hp hr
  have hk0 : Mkr [some (.cells p.cs), some (mkrC [] .full), some (.cells [.ptr 1 0]), none] 1 [] .full := ⟨rfl, .inr rfl, by intro n hn; simp at hn; simp [mkrC, Blk.cl, Po.cs, clL, V.cl, Tk.cl, show 1 < n by omega]⟩
  have w0 := addM_ok (G := G) hk0 6 p.dflt (.inr (.inl rfl)) (by simp)
  obtain ⟨c0, hc0⟩ : ∃ c0, c0 = putF [] 6 p.dflt := ⟨_, rfl⟩
  have hc0l : c0.length = 1 := by rw [hc0]; rfl
  rw [← hc0] at w0
  rw [hc0l] at w0
  simp only [mkrC, Po.cs, IL_nil] at w0
  simp
  refine callSF_of w0 ?_
  simp [mkSet, mkrC]
  have hpl : (RL p.rules).length = p.rules.length := by simp
  refine W_stateK (fun s : LwSt => p.rules.length - s.i) (fun s => [(4, .ptr 2 0), (5, .ptr 3 0), (6, .ptr 5 0), (7, .ptr 7 0), (8, .vs (nats .u32 s.ms) (.own 8)), (31, .vs (RL p.rules) .no), (32, .int .i64 p.rules.length), (33, .int .i64 s.i)])
   (fun s => LH p c0 (s.of.map vO) (s.nrs.map vN) s.ms.length s.Z) (fun s => s.i ≤ p.rules.length ∧ InvL (p.rules.take s.i) s.of s.nrs s.ms s.Z) ⟨0, [], [], [], []⟩ ?_ ?_
  ·refine ⟨⟨Nat.zero_le _, ⟨rfl, rfl, by simp, by simp, by simp, by simp, by simp, by simp, by simp, fun _ => rfl⟩⟩, ?_⟩
   simp [keep_cl, trunc, LH, mkrC, Po.cs]
   done
  rintro ⟨i, of, nrs, ms, Z⟩ ⟨hi, inv⟩
  simp only at hi inv ⊢
  have hsh : ∀ r : Heap, (∀ n, r.map (Option.map (Blk.cl n)) = r) → HShut (LH p c0 (of.map vO) (nrs.map vN) ms.length (Z ++ r)) := fun r hr => LH_shut (inv.more hr).cz (fun e he => (inv.more hr).oz_lt he) (fun e he => (inv.more hr).nz_lt he)
  by_cases hlt : i < p.rules.length
  ·obtain ⟨r, hr0⟩ : ∃ r, r = p.rules[i] := ⟨_, rfl⟩
   have hg : p.rules[i]? = some r := by rw [List.getElem?_eq_getElem hlt, hr0]
   have hgc := RL_get hg
   have hget : (RL p.rules)[i]'(by simpa using hlt) = r.cs := by rw [List.getElem?_eq_getElem (by simpa using hlt)] at hgc; exact Option.some.inj hgc
   have htk : p.rules.take (i + 1) = p.rules.take i ++ [r] := by rw [List.take_add_one, hg]; rfl
   have gk : ∀ (R : Heap) (k : Nat), (Z ++ R)[Z.length + k]? = R[k]? := fun R k => by rw [List.getElem?_append_right (by omega)]; congr 1; omega
   have gk0 : ∀ (R : Heap), (Z ++ R)[Z.length]? = R[0]? := fun R => gk R 0
   have sk : ∀ (R : Heap) (k : Nat) (x : Option Blk), (Z ++ R).set (Z.length + k) x = Z ++ R.set k x := fun R k x => by rw [List.set_append_right _ _ (by omega)]; congr 2; omega
   have sk0 : ∀ (R : Heap) (x : Option Blk), (Z ++ R).set Z.length x = Z ++ R.set 0 x := fun R x => sk R 0 x
   simp only [Ru.cs] at hgc hget
   have hrlen : ∀ a n, (rulesAt (p.rules.take i) a n).length ≤ 64 := fun a n => by have h1 := List.length_filter_le (fun r : Ru => decide (r.arch = a ∧ r.nr = n)) (p.rules.take i); have h2 := List.length_take_le i p.rules; unfold rulesAt; omega
   have hRLs : ∀ l : List Ru, (∀ f ∈ RL l, f.length = 4) = True := fun l => eq_true (fun f hf => by simp only [RL, List.mem_map] at hf; obtain ⟨x, _, rfl⟩ := hf; rfl)
   have hRL1 : ∀ l : List Ru, RL l ++ [[.int .u32 (r.arch : Int), .int .u32 (r.nr : Int), .vs (CL r.conds) .no, .int .u32 (r.act : Int)]] = RL (l ++ [r]) := fun l => by simp [RL, Ru.cs]
   have hkk := keyO r.arch r.nr r.arch r.nr
   simp only [and_self, decide_true] at hkk
   have hkn := keyN r.arch r.arch
   simp only [decide_true] at hkn
   have fin : ∀ (of' : List EO) (nrs' : List EN) (ms' : List Nat) (Z' : Heap) (e1 : Env) (H1 : Heap), InvL (p.rules.take (i + 1)) of' nrs' ms' Z' → H1 = LH p c0 (of'.map vO) (nrs'.map vN) ms'.length Z' →
     (keepE [4, 5, 6, 7, 8, 31, 32, 33] e1).cl (Z'.length + 9) = mkE [(4, .ptr 2 0), (5, .ptr 3 0), (6, .ptr 5 0), (7, .ptr 7 0), (8, .vs (nats .u32 ms') (.own 8)), (31, .vs (RL p.rules) .no), (32, .int .i64 p.rules.length), (33, .int .i64 (i + 1 : Nat))] →
     NxK (fun s : LwSt => p.rules.length - s.i) (fun s => [(4, .ptr 2 0), (5, .ptr 3 0), (6, .ptr 5 0), (7, .ptr 7 0), (8, .vs (nats .u32 s.ms) (.own 8)), (31, .vs (RL p.rules) .no), (32, .int .i64 p.rules.length), (33, .int .i64 s.i)])
      (fun s => LH p c0 (s.of.map vO) (s.nrs.map vN) s.ms.length s.Z) (fun s => s.i ≤ p.rules.length ∧ InvL (p.rules.take s.i) s.of s.nrs s.ms s.Z) [4, 5, 6, 7, 8, 31, 32, 33] 9 ⟨i, of, nrs, ms, Z⟩ e1 H1 := by
    intro of' nrs' ms' Z' e1 H1 hi' hH he
    subst hH
    have hs := (LH_shut (p := p) (c := c0) (m := ms'.length) hi'.cz (fun e he => hi'.oz_lt he) (fun e he => hi'.nz_lt he)).self
    rw [LH_len] at hs
    exact ⟨⟨i + 1, of', nrs', ms', Z'⟩, Z'.length + 9, by simp only; omega, ⟨hlt, hi'⟩, by omega, by rw [LH_len]; exact Nat.le_refl _, he, hs⟩
   simp (disch := omega) [ltT, get_in, hgc, hget, hlt, LH_app, LH_len, LH_z, LH_sz, gk, gk0, sk, sk0]
   by_cases hin : (r.arch, r.nr) ∈ of.map (·.1)
   ·obtain ⟨e, he, hek⟩ := List.mem_map.1 hin
    obtain ⟨j, hj⟩ := List.getElem?_of_mem he
    obtain ⟨⟨ea, en⟩, rl, z⟩ := e
    simp only [Prod.mk.injEq] at hek
    obtain ⟨rfl, rfl⟩ := hek
    have hfo := findO inv.ok hj
    have hrl := inv.ov _ he
    simp only at hrl
    have hrl64 : rl.length ≤ 64 := by rw [hrl]; exact hrlen _ _
    have hrl0 : (rl.length == 0) = false := by
     obtain ⟨x, hx, hxe⟩ := (inv.om (r.arch, r.nr)).1 hin
     have : x ∈ rl := by rw [hrl, rulesAt]; exact List.mem_filter.2 ⟨hx, by simpa using hxe⟩
     have := List.length_pos_of_mem this
     exact beq_false_of_ne (by omega)
    have hrl0' : ((rl.length : Int) == 0) = false := beqF (by have := ne_of_beq_false hrl0; omega)
    have hz := inv.oz _ he
    simp only at hz
    have hzl := inv.oz_lt he
    simp only at hzl
    have gz : ∀ R : Heap, (Z ++ R)[z]? = some (some (.zone rl.length)) := fun R => app_old hz
    have sz : ∀ (R : Heap) (x : Option Blk), (Z ++ R).set z x = Z.set z x ++ R := fun R x => List.set_append_left _ _ hzl
    have hjo : (of.map vO)[j]? = some (.agg [.int .u32 (r.arch : Int), .int .u32 (r.nr : Int)], .vs (RL rl) (.own (z + 9))) := by rw [List.getElem?_map, hj]; rfl
    have e1 : (of.map vO).set j (.agg [.int .u32 (r.arch : Int), .int .u32 (r.nr : Int)], .vs (RL rl) (.own (z + 9))) = of.map vO := set_same hjo
    have e2 : (of.map vO).set j (.agg [.int .u32 (r.arch : Int), .int .u32 (r.nr : Int)], .vs (RL (rl ++ [r])) (.own (z + 9))) = (of.set j ((r.arch, r.nr), rl ++ [r], z)).map vO := by rw [List.map_set]; rfl
    have hby : ((rl.length + 1) * 40 ≤ 140737488355328) = True := eq_true (by omega)
    simp (disch := omega) [LH_5, LH_4, LH_app, LH_len, LH_z, LH_sz, LH_s4, gk, gk0, sk, sk0, gz, sz, hfo, hkk, hrl0', e1, e2, hjo, hby, hRLs, hRL1]
    refine fin (of.set j ((r.arch, r.nr), rl ++ [r], z)) nrs ms (Z.set z (some (.zone (rl.length + 1))) ++ [some (.cells r.cs), some (.cells [.int .u32 (r.arch : Int), .int .u32 (r.nr : Int)]), none]) _ _ ?_ ?_ ?_
    ·rw [htk, ← sz]
     exact (inv.more (R := [some (.cells r.cs), some (.cells [.int .u32 (r.arch : Int), .int .u32 (r.nr : Int)]), none]) (fun n => by simp [Blk.cl, clL_cs, clL, V.cl])).oldC hj
    ·rw [List.map_set]; rfl
    ·simp (disch := omega) [keep_cl, ltTn, add1', -Int.natCast_add]
   ·have hfo := findO_no hin
    have hF2 : (Z.length + 2 ≤ Z.length) = False := eq_false (by omega)
    have hF21 : (Z.length + 2 ≤ Z.length + 1) = False := eq_false (by omega)
    have hF3 : (Z.length + 3 ≤ Z.length) = False := eq_false (by omega)
    have hF31 : (Z.length + 3 ≤ Z.length + 1) = False := eq_false (by omega)
    have hmo : (of.map vO ++ [(V.agg [.int .u32 (r.arch : Int), .int .u32 (r.nr : Int)], V.vs [] .full)])[of.length]? = some (V.agg [.int .u32 (r.arch : Int), .int .u32 (r.nr : Int)], V.vs [] .full) := by rw [List.getElem?_append_right (by simp)]; simp
    have hms : ∀ v, (of.map vO ++ [(V.agg [.int .u32 (r.arch : Int), .int .u32 (r.nr : Int)], V.vs [] .full)]).set of.length (V.agg [.int .u32 (r.arch : Int), .int .u32 (r.nr : Int)], v) = of.map vO ++ [(V.agg [.int .u32 (r.arch : Int), .int .u32 (r.nr : Int)], v)] := fun v => by rw [List.set_append_right _ _ (by simp)]; simp
    by_cases hia : r.arch ∈ nrs.map (·.1)
    ·obtain ⟨e, he, hek⟩ := List.mem_map.1 hia
     obtain ⟨j, hj⟩ := List.getElem?_of_mem he
     obtain ⟨ea, ns, z⟩ := e
     simp only at hek
     subst hek
     have hfn := findN (by rw [inv.nk]; exact firsts_nodup _) hj
     have hns := inv.nv _ he
     simp only at hns
     have hns0 : ((ns.length : Int) == 0) = false := by
      have : r.arch ∈ archsOf (p.rules.take i) := by rw [← inv.nk]; exact hia
      have := List.length_pos_iff.2 (nrs_ne this)
      rw [← hns] at this
      exact beqF (by omega)
     have hns64 : ns.length ≤ 64 := by
      have h1 := foldNew_len (((p.rules.take i).filter fun x => decide (x.arch = r.arch)).map (·.nr)) []
      have h2 := List.length_filter_le (fun x : Ru => decide (x.arch = r.arch)) (p.rules.take i)
      have h3 := List.length_take_le i p.rules
      simp only [List.length_map, List.length_nil, Nat.zero_add] at h1
      have : ns.length ≤ ((p.rules.take i).filter fun x => decide (x.arch = r.arch)).length := by rw [hns]; exact h1
      omega
     have hz := inv.nz _ he
     simp only at hz
     have hzl := inv.nz_lt he
     simp only at hzl
     have gz : ∀ R : Heap, (Z ++ R)[z]? = some (some (.zone ns.length)) := fun R => app_old hz
     have sz : ∀ (R : Heap) (x : Option Blk), (Z ++ R).set z x = Z.set z x ++ R := fun R x => List.set_append_left _ _ hzl
     have gk' : ∀ (x : Option Blk) (R : Heap) (k : Nat), (Z.set z x ++ R)[Z.length + k]? = R[k]? := fun x R k => by rw [List.getElem?_append_right (by simp), List.length_set]; congr 1; omega
     have gk0' : ∀ (x : Option Blk) (R : Heap), (Z.set z x ++ R)[Z.length]? = R[0]? := fun x R => gk' x R 0
     have sk' : ∀ (y : Option Blk) (R : Heap) (k : Nat) (x : Option Blk), (Z.set z y ++ R).set (Z.length + k) x = Z.set z y ++ R.set k x := fun y R k x => by rw [List.set_append_right _ _ (by simp), List.length_set]; congr 2; omega
     have hby : ((ns.length + 1) * 4 ≤ 140737488355328) = True := eq_true (by omega)
     have e3 : (nrs.map vN).set j (.int .u32 (r.arch : Int), .vs (nats .u32 (ns ++ [r.nr])) (.own (z + 9))) = (nrs.set j (r.arch, ns ++ [r.nr], z)).map vN := by rw [List.map_set]; rfl
     simp (disch := omega) [LH_5, LH_4, LH_6, LH_7, LH_8, LH_app, LH_len, LH_z, LH_sz, LH_s4, LH_s6, LH_s8, gk, gk0, sk, sk0, gz, sz, gk', gk0', sk', hfo, hkk, hkn, hfn, hns0, hmo, hms, e3, hby, hRLs, hRL1, hF2, hF21, hF3, hF31]
     have hlts : ∀ q ∈ nrs.map (·.2.2) ++ of.map (·.2.2), q < Z.length := by
      intro q hq
      rcases List.mem_append.1 hq with hq | hq
      ·obtain ⟨e, he, rfl⟩ := List.mem_map.1 hq; exact inv.nz_lt he
      ·obtain ⟨e, he, rfl⟩ := List.mem_map.1 hq; exact inv.oz_lt he
     refine fin (of ++ [((r.arch, r.nr), [r], Z.length + 3)]) (nrs.set j (r.arch, ns ++ [r.nr], z)) ms (Z.set z (some (.zone (ns.length + 1))) ++ [some (.cells r.cs), some (.cells [.int .u32 (r.arch : Int), .int .u32 (r.nr : Int)]), none, some (.zone 1)]) _ _ ?_ ?_ ?_
     ·rw [htk, ← sz]
      exact (inv.more (R := [some (.cells r.cs), some (.cells [.int .u32 (r.arch : Int), .int .u32 (r.nr : Int)]), none, some (.zone 1)]) (fun n => by simp [Blk.cl, clL_cs, clL, V.cl])).newC hin hj (by rw [gk]; rfl) (fun h => by have := hlts _ h; omega)
     ·rw [List.map_set, List.map_append]; rfl
     ·simp (disch := omega) [keep_cl, ltTn, add1', -Int.natCast_add]
    ·have hfn := findN_no hia
     have hms64 : ms.length ≤ 64 := by
      have h1 := archs_len (p.rules.take i)
      have h3 := List.length_take_le i p.rules
      rw [inv.ms_eq]; omega
     have hby : ((ms.length + 1) * 4 ≤ 140737488355328) = True := eq_true (by omega)
     have hF4 : (Z.length + 4 ≤ Z.length) = False := eq_false (by omega)
     have hF41 : (Z.length + 4 ≤ Z.length + 1) = False := eq_false (by omega)
     simp (disch := omega) [LH_5, LH_4, LH_6, LH_7, LH_8, LH_app, LH_len, LH_z, LH_sz, LH_s4, LH_s6, LH_s8, gk, gk0, sk, sk0, hfo, hkk, hkn, hfn, hmo, hms, hby, hRLs, hRL1, hF2, hF21, hF3, hF31, hF4, hF41]
     have hlts : ∀ q ∈ nrs.map (·.2.2) ++ of.map (·.2.2), q < Z.length := by
      intro q hq
      rcases List.mem_append.1 hq with hq | hq
      ·obtain ⟨e, he, rfl⟩ := List.mem_map.1 hq; exact inv.nz_lt he
      ·obtain ⟨e, he, rfl⟩ := List.mem_map.1 hq; exact inv.oz_lt he
     refine fin (of ++ [((r.arch, r.nr), [r], Z.length + 4)]) (nrs ++ [(r.arch, [r.nr], Z.length + 3)]) (ms ++ [r.arch]) (Z ++ [some (.cells r.cs), some (.cells [.int .u32 (r.arch : Int), .int .u32 (r.nr : Int)]), none, some (.zone 1), some (.zone 1)]) _ _ ?_ ?_ ?_
     ·rw [htk]
      exact (inv.more (R := [some (.cells r.cs), some (.cells [.int .u32 (r.arch : Int), .int .u32 (r.nr : Int)]), none, some (.zone 1), some (.zone 1)]) (fun n => by simp [Blk.cl, clL_cs, clL, V.cl])).newA hia (by rw [gk]; rfl) (by rw [gk]; rfl) (fun h => by have := hlts _ h; omega) (fun h => by have := hlts _ h; omega) (by omega)
     ·rw [List.map_append, List.map_append, List.length_append]; rfl
     ·simp (disch := omega) [keep_cl, ltTn, add1', -Int.natCast_add]
  ·have hin : i = p.rules.length := by omega
   subst hin
   rw [List.take_length] at inv
   have hs0 := (hsh [] (fun _ => rfl)).self
   simp only [List.append_nil, LH_len] at hs0
   simp (disch := omega) [ltF, keep_cl, ltTn, LH_len, hs0, LH_app]
   have hcost := lowCost_le hl hcl
   unfold lowCost at hcost
   have hms : ms = archsOf p.rules := inv.ms_eq
   have hmsl : ms.length ≤ 64 := by have := archs_len p.rules; rw [← hms] at this; omega
   obtain ⟨S, hS⟩ : ∃ S : Nat → List In4 × List (Nat × Nat), ∀ k, S k = rootsL p.rules 1 (ms.take k) c0 := ⟨_, fun _ => rfl⟩
   have hS0 : S 0 = (c0, []) := by rw [hS]; rfl
   have hSl : S ms.length = rootsL p.rules 1 (archsOf p.rules) c0 := by rw [hS, List.take_length, hms]
   have ho1 : 1 ≤ 1 ∧ 1 ≤ c0.length := ⟨Nat.le_refl _, by omega⟩
   have hSc : ∀ k, Came c0 ((S k).1, 1) (costRt p.rules (ms.take k)) ∧ labs (S k).1 (S k).2 ∧ (S k).2.map (·.1) = ms.take k := fun k => by
    rw [hS]
    exact roots_came hf.1 (fun a ha => by rw [hms] at ha; exact List.mem_of_mem_take ha) ho1
   have hshS : ∀ (c' : List In4) (r : Heap), (∀ n, r.map (Option.map (Blk.cl n)) = r) → HShut (LH p c' (of.map vO) (nrs.map vN) ms.length (Z ++ r)) := fun c' r hr => LH_shut (inv.more hr).cz (fun e he => (inv.more hr).oz_lt he) (fun e he => (inv.more hr).nz_lt he)
   have hMk : ∀ (c' : List In4) (r : Heap), (∀ n, r.map (Option.map (Blk.cl n)) = r) → Mkr (LH p c' (of.map vO) (nrs.map vN) ms.length (Z ++ r)) 1 c' .no := fun c' r hr => ⟨rfl, .inl rfl, hshS c' r hr⟩
   have hset : ∀ (c' c2 : List In4) (Z' : Heap), mkSet (LH p c' (of.map vO) (nrs.map vN) ms.length Z') 1 c2 = LH p c2 (of.map vO) (nrs.map vN) ms.length Z' := fun c' c2 Z' => rfl
   have gk : ∀ (R : Heap) (k : Nat), (Z ++ R)[Z.length + k]? = R[k]? := fun R k => by rw [List.getElem?_append_right (by omega)]; congr 1; omega
   have gk0 : ∀ (R : Heap), (Z ++ R)[Z.length]? = R[0]? := fun R => gk R 0
   have sk0 : ∀ (R : Heap) (x : Option Blk), (Z ++ R).set Z.length x = Z ++ R.set 0 x := fun R x => by rw [List.set_append_right _ _ (by omega), Nat.sub_self]
   have trS : ∀ (c' : List In4) (k : Nat) (r : Heap), trunc (Z.length + 1 + 9) (LH p c' (of.map vO) (nrs.map vN) ms.length (Z ++ some (.zone k) :: r)) = LH p c' (of.map vO) (nrs.map vN) ms.length (Z ++ [some (.zone k)]) := fun c' k r => by
    have := (hshS c' [some (.zone k)] (fun _ => rfl)).back r
    rw [LH_app, LH_len, List.length_append, List.append_assoc] at this
    exact this
   refine W_up ms.length (fun k => [(4, .ptr 2 0), (5, .ptr 3 0), (12, .fn 425 [.ptr 7 0, .ptr 2 0, .ptr 5 0, .ptr 3 0]), (13, .vs (EL (S k).2) (.own (Z.length + 9))), (79, .vs (nats .u32 ms) (.own 8)), (80, .int .i64 ms.length), (81, .int .i64 k)])
    (fun k => LH p (S k).1 (of.map vO) (nrs.map vN) ms.length (Z ++ [some (.zone k)])) (fun _ => True) ?_ ?_
   ·simp (disch := omega) [keep_cl, ltTn, LH_len, hS0, trS, show EL [] = [] from rfl]
   intro k hk _
   by_cases hlk : k < ms.length
   ·obtain ⟨a, ha0⟩ : ∃ a, a = ms[k] := ⟨_, rfl⟩
    have hga : ms[k]? = some a := by rw [List.getElem?_eq_getElem hlk, ha0]
    have hgn : (nats .u32 ms)[k]? = some [.int .u32 (a : Int)] := by simp [hga]
    have hge : (nats .u32 ms)[k]'(by simpa using hlk) = [.int .u32 (a : Int)] := by rw [List.getElem?_eq_getElem (by simpa using hlk)] at hgn; exact Option.some.inj hgn
    have ham : a ∈ archsOf p.rules := by rw [← hms]; exact List.mem_of_getElem? hga
    have hst : S (k + 1) = (archC p.rules 1 a (S k).1, (S k).2 ++ [(a, (archC p.rules 1 a (S k).1).length)]) := by rw [hS, hS, List.take_add_one, hga]; exact rootsL_snoc _ _ _ _ _
    obtain ⟨j1, j2, j3⟩ := hSc k
    have hln : (S k).2.length = k := by rw [← List.length_map (f := (·.1)), j3, List.length_take]; omega
    have hct := sumF_take (costA p.rules) ms k a hga
    rw [show sumF (costA p.rules) ms = costRt p.rules (archsOf p.rules) by rw [hms]; rfl] at hct
    have gj := j1.grown.len
    obtain ⟨⟨c1, es1⟩, hs1⟩ : ∃ s, s = S k := ⟨_, rfl⟩
    rw [← hs1] at hst gj j1 hln ⊢
    simp only [costRt] at hst gj hln hcost hct
    have hNj : ∃ j z : Nat, nrs[j]? = some (a, nrsOf p.rules a, z) := by
     have : a ∈ nrs.map (·.1) := by rw [inv.nk]; exact ham
     obtain ⟨e, he, hek⟩ := List.mem_map.1 this
     obtain ⟨j, hj⟩ := List.getElem?_of_mem he
     have hv := inv.nv e he
     obtain ⟨e1, e2, e3⟩ := e
     simp only at hek hv
     subst hek
     exact ⟨j, e3, by rw [hj, hv]⟩
    obtain ⟨jn, zn, hjn⟩ := hNj
    have hznl := inv.nz_lt (List.mem_of_getElem? hjn)
    simp only at hznl
    have hH1 : Holds1 (nrs.map vN) a (nrsOf p.rules a) (LH p c1 (of.map vO) (nrs.map vN) ms.length (Z ++ [some (.zone k), none])).length :=
     ⟨jn, .own (zn + 9), findN (by rw [inv.nk]; exact firsts_nodup _) hjn, fun m hm => by rw [LH_len] at hm; simp at hm; simp [Tk.cl]; omega⟩
    have hH2 : ∀ n ∈ nrsOf p.rules a, Holds2 (of.map vO) a n (rulesAt p.rules a n) (LH p c1 (of.map vO) (nrs.map vN) ms.length (Z ++ [some (.zone k), none])).length := fun n hn => by
     have : (a, n) ∈ of.map (·.1) := (inv.om _).2 (by obtain ⟨x, hx, e1, e2⟩ := nrs_mem.1 hn; exact ⟨x, hx, Prod.ext e1 e2⟩)
     obtain ⟨e, he, hek⟩ := List.mem_map.1 this
     obtain ⟨j, hj⟩ := List.getElem?_of_mem he
     have hv := inv.ov e he
     have hzl := inv.oz_lt he
     obtain ⟨e1, e2, e3⟩ := e
     simp only at hek hv hzl
     subst hek
     simp only at hv
     subst hv
     exact ⟨j, .own (e3 + 9), findO inv.ok hj, fun m hm => by rw [LH_len] at hm; simp at hm; simp [Tk.cl]; omega⟩
    have wb := beginM_ok (G := G) (rs := p.rules) (a := a) (o := 1) (hMk c1 [some (.zone k), none] (fun _ => rfl)) (pn := 7) (pm := 2) (po := 5) (px := 3) (mn := 6) (mo := 4) LH_7 LH_2 LH_5 LH_3 LH_6 LH_4 hH1 hH2 hf.1 ham (by omega) ⟨Nat.le_refl _, by omega⟩ (by omega)
    rw [hset] at wb
    obtain ⟨r1, H2, hB, hr1, hH2'⟩ := wb
    have hby : ((k + 1) * 16 ≤ 140737488355328) = True := eq_true (by omega)
    have hsn := EL_snoc es1 (a, (archC p.rules 1 a c1).length)
    simp only at hsn
    simp (disch := omega) [ltT, get_in, hgn, hge, hlk, LH_app, LH_len]
    refine callV_of (H1 := H2) (by simpa using hB) (fun h => by simp at h) ?_
    rw [hr1, hH2']
    simp (disch := omega) [EL_sz, LH_z, LH_sz, gk0, sk0, hln, hby, hsn, keep_cl, ltTn, add1', hst, trS, hlk, -Int.natCast_add]
   ·have hkn : k = ms.length := by omega
    subst hkn
    rw [hSl]
    have hms2 : ms.length = (rootsL p.rules 1 (archsOf p.rules) c0).2.length := by
     obtain ⟨_, _, h3⟩ := hSc ms.length
     rw [hSl, List.take_length] at h3
     have := congrArg List.length h3
     simpa using this.symm
    obtain ⟨q1, q2, q3⟩ := roots_came (rs := p.rules) (o := 1) hf.1 (l := archsOf p.rules) (c := c0) (fun _ h => h) ho1
    have hkq : ∀ e ∈ (rootsL p.rules 1 (archsOf p.rules) c0).2, e.1 < 4294967296 := by
     intro e he
     have : e.1 ∈ archsOf p.rules := by rw [← q3]; exact List.mem_map.2 ⟨e, he, rfl⟩
     obtain ⟨r, hr, h⟩ := archs_mem.1 this
     rw [← h]; exact (hf.1 r hr).2.1
    have hlow : lowerL p = if (rootsL p.rules 1 (archsOf p.rules) c0).2 = [] then (chainL (rootsL p.rules 1 (archsOf p.rules) c0).2 ((rootsL p.rules 1 (archsOf p.rules) c0).1, 1)).1 else putF (chainL (rootsL p.rules 1 (archsOf p.rules) c0).2 ((rootsL p.rules 1 (archsOf p.rules) c0).1, 1)).1 32 4 := by rw [hc0]; rfl
    rw [hlow]
    have gq := q1.grown.len
    have hac : (archsOf p.rules).length = ms.length := by rw [hms]
    obtain ⟨⟨cR, es⟩, hRs⟩ : ∃ s, s = rootsL p.rules 1 (archsOf p.rules) c0 := ⟨_, rfl⟩
    rw [← hRs] at q1 q2 q3 hkq gq hms2 ⊢
    have q1l := q1.lab
    simp only at gq hms2 q2 hkq q1l hcost ⊢
    obtain ⟨T, hT⟩ : ∃ T : Nat → CLb, ∀ k, T k = chainL (es.take k) (cR, 1) := ⟨_, fun _ => rfl⟩
    have hT0 : T 0 = (cR, 1) := by rw [hT]; rfl
    have hTl : T es.length = chainL es (cR, 1) := by rw [hT, List.take_length]
    have hTc : ∀ k, Came cR (T k) (3 * es.length) := fun k => by
     rw [hT]
     exact (chain_came (s := (cR, 1)) (fun e he => q2 e (List.mem_of_mem_take he)) (fun e he => hkq e (List.mem_of_mem_take he)) q1l).mono (by rw [List.length_take]; omega)
    have hel : es.length = ms.length := hms2.symm
    simp (disch := omega) [ltF, keep_cl, ltTn, LH_len, trS, LH_3, hel]
    have hM := fun c' => hMk c' [some (.zone ms.length)] (fun _ => rfl)
    refine W_up ms.length (fun k => [(4, .ptr 2 0), (13, .vs (EL es) (.own (Z.length + 9))), (16, .int .i64 (T k).2), (95, .vs (EL es) (.own (Z.length + 9))), (96, .int .i64 ms.length), (97, .int .i64 k)])
     (fun k => LH p (T k).1 (of.map vO) (nrs.map vN) ms.length (Z ++ [some (.zone ms.length)])) (fun _ => True) ?_ ?_
    ·simp (disch := omega) [keep_cl, ltTn, LH_len, hT0, trS, hel]
    intro k hk _
    by_cases hlk : k < ms.length
    ·have hlk' : k < es.length := by omega
     obtain ⟨x, hx0⟩ : ∃ x, x = es[k]'hlk' := ⟨_, rfl⟩
     have hgx : es[k]? = some x := by rw [List.getElem?_eq_getElem hlk', hx0]
     have hgc := EL_get hgx
     have hge : (EL es)[k]'(by simpa using hlk') = [.int .u32 (x.1 : Int), .int .i64 (x.2 : Int)] := by rw [List.getElem?_eq_getElem (by simpa using hlk')] at hgc; exact Option.some.inj hgc
     have hTs : T (k + 1) = (branchL (T k).1 21 x.1 x.2 (T k).2, (branchL (T k).1 21 x.1 x.2 (T k).2).length) := by rw [hT, hT, List.take_add_one, hgx]; exact chainL_snoc _ _ _
     have tc := chain_came (l := es.take k) (s := (cR, 1)) (fun e he => q2 e (List.mem_of_mem_take he)) (fun e he => hkq e (List.mem_of_mem_take he)) q1l
     rw [← hT] at tc
     have gt := tc.grown.len
     have lt := tc.lab
     rw [List.length_take] at gt
     have lx := q2 x (List.mem_of_getElem? hgx)
     simp only at lx gt
     obtain ⟨⟨c1, o1⟩, hs1⟩ : ∃ s, s = T k := ⟨_, rfl⟩
     rw [← hs1] at hTs gt lt ⊢
     simp only at gt lt hTs
     have wb := branchM_ok (G := G) (hMk c1 [some (.zone ms.length), some (.cells [.int .u32 (x.1 : Int), .int .i64 (x.2 : Int)])] (fun n => rfl)) 21 x.1 x.2 o1 (.inl rfl) ⟨lx.1, by omega⟩ lt (by omega)
     rw [hset] at wb
     simp (disch := omega) [ltT, get_in, hgc, hge, hlk, LH_app, LH_len, LH_z, LH_sz, gk, gk0, LH_2]
     refine callSF_of wb ?_
     simp (disch := omega) [keep_cl, ltTn, add1', hTs, trS, hlk, -Int.natCast_add]
    ·have hkn2 : k = ms.length := by omega
     subst hkn2
     have hTe : T ms.length = chainL es (cR, 1) := by rw [← hel]; exact hTl
     by_cases hes : es = []
     ·have hm0 : ms.length = 0 := by rw [← hel, hes]; rfl
      have hm0' : (0 < ms.length) = False := eq_false (by omega)
      rw [if_pos hes]
      rw [hTe]
      generalize chainL es (cR, 1) = s2
      simp (disch := omega) [ltF, keep_cl, ltTn, LH_len, trS, hel, hm0', LH_1, LH_2, FL]
     ·have hm0 : ms.length ≠ 0 := by rw [← hel]; exact fun h => hes (List.length_eq_zero_iff.1 h)
      have hm0' : ((0 : Int) < (ms.length : Int)) = True := eq_true (by omega)
      have tc := (hTc ms.length).grown.len
      rw [hTe] at tc
      rw [if_neg hes]
      rw [hTe]
      generalize chainL es (cR, 1) = s2 at *
      have wa := addM_ok (G := G) (hM s2.1) 32 4 (.inr (.inr ⟨rfl, by decide, by decide⟩)) (by omega)
      rw [hset] at wa
      simp (disch := omega) [ltF, keep_cl, ltTn, LH_len, trS, hel, hm0', LH_1, LH_2]
      refine callSF_of wa ?_
      simp (disch := omega) [ltF, keep_cl, ltTn, LH_len, trS, hel, hm0', LH_1, LH_2, FL]
end Go.Ev
/- Arguments of the statements: policies. -/
namespace Go.Ev
open Go Go.RowKit
set_option linter.unusedSimpArgs false
set_option linter.unusedVariables false
theorem cond_list : ∀ {es : List (List V)}, (∀ x ∈ es, HasTy (.agg [.int .i64, .int .i64, .int .u64, .int .u64]) x) → ∃ f : List Cd, es = CL f ∧ ∀ x ∈ f, x.ok
 | [], _ => ⟨[], rfl, by simp⟩
 | e :: es, h => by
  obtain ⟨x, rfl, hx⟩ := cond_cells (h e (by simp))
  obtain ⟨f, rfl, hf⟩ := cond_list (es := es) fun y hy => h y (by simp [hy])
  refine ⟨x :: f, by simp [CL], fun y hy => ?_⟩
  simp only [List.mem_cons] at hy
  rcases hy with rfl | hy
  ·exact hx
  ·exact hf y hy
theorem rule_cellsP {cs : List V} (h : HasTy (.agg [.int .u32, .int .u32, .sl (.agg [.int .i64, .int .i64, .int .u64, .int .u64]), .int .u32]) cs) : ∃ r : Ru, cs = r.cs ∧ r.wf := by
 unfold HasTy HasTys at h
 obtain ⟨a, b, rfl, h1, h⟩ := h
 unfold HasTys at h
 obtain ⟨c, d, rfl, h2, h⟩ := h
 unfold HasTys at h
 obtain ⟨f, g, rfl, h3, h⟩ := h
 unfold HasTys at h
 obtain ⟨k, l, rfl, h4, h⟩ := h
 unfold HasTys at h
 subst h
 obtain ⟨n1, rfl, w1⟩ := u32_cell h1
 obtain ⟨n2, rfl, w2⟩ := u32_cell h2
 obtain ⟨n4, rfl, w4⟩ := u32_cell h4
 rw [HasTy] at h3
 obtain ⟨es, rfl, hl, he⟩ := h3
 obtain ⟨cd, rfl, hc⟩ := cond_list he
 exact ⟨⟨n1, n2, cd, n4⟩, rfl, by simpa using hl, hc, w1, w2, w4⟩
theorem rule_listP : ∀ {es : List (List V)}, (∀ x ∈ es, HasTy (.agg [.int .u32, .int .u32, .sl (.agg [.int .i64, .int .i64, .int .u64, .int .u64]), .int .u32]) x) → ∃ f : List Ru, es = RL f ∧ ∀ x ∈ f, x.wf
 | [], _ => ⟨[], rfl, by simp⟩
 | e :: es, h => by
  obtain ⟨x, rfl, hx⟩ := rule_cellsP (h e (by simp))
  obtain ⟨f, rfl, hf⟩ := rule_listP (es := es) fun y hy => h y (by simp [hy])
  refine ⟨x :: f, by simp [RL], fun y hy => ?_⟩
  simp only [List.mem_cons] at hy
  rcases hy with rfl | hy
  ·exact hx
  ·exact hf y hy
theorem pol_arg {v : V} (h : ArgIs (.agg [.sl (.agg [.int .u32, .int .u32, .sl (.agg [.int .i64, .int .i64, .int .u64, .int .u64]), .int .u32]), .int .u32]) v) : ∃ p : Po, v = .agg p.cs ∧ p.wf := by
 unfold ArgIs at h
 obtain ⟨cs, rfl, h⟩ := h
 unfold HasTy HasTys at h
 obtain ⟨a, b, rfl, h1, h⟩ := h
 unfold HasTys at h
 obtain ⟨c, d, rfl, h2, h⟩ := h
 unfold HasTys at h
 subst h
 rw [HasTy] at h1
 obtain ⟨es, rfl, hl, he⟩ := h1
 obtain ⟨rs, rfl, hr⟩ := rule_listP he
 obtain ⟨n, rfl, hn⟩ := u32_cell h2
 exact ⟨⟨rs, n⟩, rfl, by simpa using hl, hr, hn⟩
end Go.Ev
/- Which instructions are a window: window.Right, hurdleref17.Right; and hurdleref03.Same. -/
namespace Go.Ev
open Go Go.RowKit
variable {G : Tbl}
set_option maxRecDepth 10000
set_option maxHeartbeats 2000000
set_option linter.unusedSimpArgs false
set_option linter.unusedVariables false
def RET : In4 := ⟨22, 0, 0, 0⟩
@[simp] theorem cs_take4 (x : In4) : x.cs.take 4 = x.cs := rfl
theorem aeq4 (x y : In4) : eqks [.int, .int, .int, .int] x.cs y.cs = some (decide (x = y)) := by
 obtain ⟨a, b, c, d⟩ := x
 obtain ⟨a', b', c', d'⟩ := y
 simp only [In4.cs, eqks, eqk, if_true, Bool.and_true, Option.some.injEq, In4.mk.injEq]
 rw [Bool.eq_iff_iff]
 simp only [Bool.and_eq_true, beq_iff_eq, decide_eq_true_eq]
 omega
theorem Same03_ok [HasR3 G] (f g : List In4) (hf : f.length ≤ 1000000) : FP G 201 [FL f, FL g] (.bool (decide (f = g))) := by
 refine FP_of HasR3.h_hurdleref03_Same (Nat.le_of_ble_eq_true rfl) ?_
 by_cases hl : f.length = g.length
 ·have hz : ((f.length : Int) != (g.length : Int)) = false := by simp [hl]
  simp [FL, hz]
  refine W_up f.length (fun i => [(0, FL f), (1, FL g), (5, .int .i64 i)]) (fun _ => []) (fun i => f.take i = g.take i) ?_ ?_
  ·simp [keep_cl, trunc, FL]
  intro i hi hp
  by_cases hlt : i < f.length
  ·obtain ⟨x, hfx⟩ : ∃ x, x = f[i] := ⟨_, rfl⟩
   have hlt2 : i < g.length := by omega
   obtain ⟨y, hfy⟩ : ∃ y, y = g[i] := ⟨_, rfl⟩
   have hgg := FL_get hlt
   have hgg2 := FL_get hlt2
   rw [← hfx] at hgg
   rw [← hfy] at hgg2
   have hfx := hfx.symm
   have hfy := hfy.symm
   have ha := aeq4 x y
   by_cases hxy : x = y
   ·rw [decide_eq_true hxy] at ha
    have hp' : f.take (i + 1) = g.take (i + 1) := by
     rw [List.take_add_one, List.take_add_one, hp, List.getElem?_eq_getElem hlt, List.getElem?_eq_getElem hlt2, hfx, hfy, hxy]
    simp (disch := omega) [ltT, FL, hgg, hgg2, hfx, hfy, ha, hlt, add1', keep_cl, trunc, hp', -Int.natCast_add]
   ·rw [decide_eq_false hxy] at ha
    have hne : ¬ f = g := by
     rintro rfl
     exact hxy (hfx.symm.trans hfy)
    simp (disch := omega) [ltT, FL, hgg, hgg2, hfx, hfy, ha, hne, -Int.natCast_add]
  ·have hne : i = f.length := by omega
   subst hne
   rw [List.take_length, hl, List.take_length] at hp
   simp [FL, hp]
 ·have hz : ((f.length : Int) != (g.length : Int)) = true := by simp; omega
  have : ¬ f = g := fun h => hl (by rw [h])
  simp [FL, hz, this]
end Go.Ev
/- Records with another word; and branches whose ways are swapped. -/
namespace Go.Ev
open Go Go.RowKit
variable {G : Tbl}
set_option maxRecDepth 10000
set_option maxHeartbeats 2000000
set_option linter.unusedSimpArgs false
set_option linter.unusedVariables false
def two (w : List Nat) (i : Nat) : Nat := w.getD i 0 + w.getD (i + 1) 0 * 4294967296
def ofW (w : List Nat) : Da := ⟨w.getD 0 0, w.getD 1 0, two w 2, (List.range 6).map fun i => two w (4 + 2 * i)⟩
end Go.Ev
/- What run.Run and hurdleref06.Run compute. -/
namespace Go.Ev
open Go Go.RowKit
variable {G : Tbl}
set_option maxRecDepth 10000
set_option maxHeartbeats 2000000
set_option linter.unusedSimpArgs false
set_option linter.unusedVariables false
def St0 : St := ⟨0, 0, zeros 16⟩
theorem st0_ok : St0.ok := ⟨by decide, by decide, by simp [St0], fun w hw => by
 simp only [St0, zeros, List.mem_replicate] at hw
 omega⟩
end Go.Ev
/- Layer 13: the law LowerMeans. -/
namespace Go.Ev
open Go Go.RowKit
variable {G : Tbl}
set_option maxRecDepth 10000
set_option maxHeartbeats 8000000
set_option linter.unusedSimpArgs false
set_option linter.unusedVariables false
theorem wf_len {p : Po} (hp : p.wf) : ∀ r ∈ p.rules, r.conds.length ≤ maxLen := fun r hr => (hp.2.1 r hr).1
theorem wf_act {p : Po} (hp : p.wf) : ∀ r ∈ p.rules, r.conds.length ≤ maxLen ∧ r.act < 4294967296 := fun r hr => ⟨(hp.2.1 r hr).1, (hp.2.1 r hr).2.2.2.2⟩
theorem low_all {p : Po} (hp : p.wf) (hr : rightP p = true) : (lowerL p).length ≤ 4096 ∧ soundF (lowerL p) = true ∧ (∀ y ∈ lowerL p, y.k < 4294967296) ∧ (∀ d : Da, d.ok → (run d (lowerL p) St0).1 = judgeD d p) ∧ (lowerL p).length ≤ 1 + lowCost p := by
 obtain ⟨hf, hl, hc⟩ := right_fine hp hr
 obtain ⟨h1, h2, h3⟩ := lower_came hf
 have hcost := lowCost_le hl hc
 have g := h1.len
 have hl0 : (putF [] 6 p.dflt).length = 1 := rfl
 refine ⟨by omega, (h2 hcost).1, (h2 hcost).2, fun d hd => ?_, by omega⟩
 have := h3 d hd St0 st0_ok
 rw [sfx_all] at this
 rw [this]
 exact judge_find d p.dflt p.rules
end Go.Ev
/- How many instructions are promised. -/
namespace Go.Ev
open Go Go.RowKit
variable {G : Tbl}
set_option maxRecDepth 10000
set_option maxHeartbeats 8000000
set_option linter.unusedSimpArgs false
set_option linter.unusedVariables false
def newM (l : List Ru) (r : Ru) : Bool := l.all fun x => decide (x.arch ≠ r.arch)
def newC (l : List Ru) (r : Ru) : Bool := l.all fun x => decide (¬ (x.arch = r.arch ∧ x.nr = r.nr))
def ruleW (l : List Ru) (r : Ru) : Nat := 3 + 16 * r.conds.length + (if newM l r then 4 else 0) + (if newC l r then 8 else 0)
def mostF (rs : List Ru) : Nat → Nat
 | 0 => 8
 | i + 1 => mostF rs i + match rs[i]? with | some r => ruleW (rs.take i) r | none => 0
def mostP (p : Po) : Nat := if p.rules.length = 0 then 1 else mostF p.rules p.rules.length
def calls (rs : List Ru) : Nat := sumF (fun a => (nrsOf rs a).length) (archsOf rs)
theorem newM_iff {l : List Ru} {r : Ru} : newM l r = true ↔ r.arch ∉ archsOf l := by
 rw [newM, List.all_eq_true, archs_mem]
 constructor
 ·rintro h ⟨x, hx, e⟩
  have := h x hx
  simp [e] at this
 ·intro h x hx
  simp only [decide_eq_true_eq]
  exact fun e => h ⟨x, hx, e⟩
theorem newC_iff {l : List Ru} {r : Ru} : newC l r = true ↔ r.nr ∉ nrsOf l r.arch := by
 rw [newC, List.all_eq_true, nrs_mem]
 constructor
 ·rintro h ⟨x, hx, e⟩
  have := h x hx
  simp [e] at this
 ·intro h x hx
  simp only [decide_eq_true_eq]
  exact fun e => h ⟨x, hx, e⟩
theorem sumF_snoc {α : Type} (g : α → Nat) : ∀ (l : List α) (a : α), sumF g (l ++ [a]) = sumF g l + g a
 | [], a => by simp [sumF]
 | x :: l, a => by simp only [List.cons_append, sumF, sumF_snoc g l a]; omega
theorem sumF_upd {f g : Nat → Nat} {a : Nat} : ∀ {l : List Nat}, l.Nodup → a ∈ l → (∀ x, x ≠ a → g x = f x) → g a = f a + 1 → sumF g l = sumF f l + 1
 | [], _, h, _, _ => by simp at h
 | x :: l, hn, hm, h1, h2 => by
  rw [List.nodup_cons] at hn
  by_cases e : x = a
  ·subst e
   have : sumF g l = sumF f l := sumF_congr fun y hy => h1 y (fun e => hn.1 (e ▸ hy))
   simp only [sumF, this, h2]; omega
  ·have := sumF_upd hn.2 ((List.mem_cons.1 hm).resolve_left (Ne.symm e)) h1 h2
   simp only [sumF, this, h1 x e]; omega
theorem calls_snoc (l : List Ru) (r : Ru) : calls (l ++ [r]) = calls l + if newC l r then 1 else 0 := by
 unfold calls
 rw [archsOf_snoc]
 by_cases hm : r.arch ∈ archsOf l
 ·rw [addNew, if_pos hm]
  by_cases hc : newC l r = true
  ·rw [if_pos hc]
   refine sumF_upd (firsts_nodup _) hm (fun x hx => ?_) ?_
   ·rw [nrsOf_snoc, if_neg (Ne.symm hx)]
   ·rw [nrsOf_snoc, if_pos rfl, addNew, if_neg (newC_iff.1 hc), List.length_append]; rfl
  ·rw [if_neg hc]
   refine sumF_congr fun x _ => ?_
   rw [nrsOf_snoc]
   split
   ·rename_i e
    subst e
    rw [addNew, if_pos (Classical.byContradiction fun h => hc (newC_iff.2 h))]
   ·rfl
 ·rw [addNew, if_neg hm, sumF_snoc]
  have h0 : nrsOf l r.arch = [] := by
   rw [List.eq_nil_iff_forall_not_mem]
   intro n hn
   obtain ⟨x, hx, e⟩ := nrs_mem.1 hn
   exact hm (archs_mem.2 ⟨x, hx, e.1⟩)
  have hc : newC l r = true := newC_iff.2 (by rw [h0]; simp)
  rw [if_pos hc, nrsOf_snoc, if_pos rfl, h0]
  have : sumF (fun a => (nrsOf (l ++ [r]) a).length) (archsOf l) = sumF (fun a => (nrsOf l a).length) (archsOf l) := sumF_congr fun x hx => by
   have hne : ¬ r.arch = x := fun e => hm (by rw [e]; exact hx)
   rw [nrsOf_snoc, if_neg hne]
  rw [this]; rfl
theorem wsum_snoc (w : Ru → Nat) : ∀ (l : List Ru) (r : Ru), wsum w (l ++ [r]) = wsum w l + w r
 | [], r => by simp [wsum]
 | x :: l, r => by simp only [List.cons_append, wsum, wsum_snoc w l r]; omega
theorem mostF_eq (rs : List Ru) : ∀ i, i ≤ rs.length → mostF rs i = 8 + wsum (fun r => 3 + 16 * r.conds.length) (rs.take i) + 4 * (archsOf (rs.take i)).length + 8 * calls (rs.take i)
 | 0, _ => by simp [mostF, wsum, archsOf, firsts, calls, sumF]
 | i + 1, h => by
  have ih := mostF_eq rs i (by omega)
  have hg : rs[i]? = some rs[i] := List.getElem?_eq_getElem (by omega)
  have ht : rs.take (i + 1) = rs.take i ++ [rs[i]] := by rw [List.take_add_one, hg]; rfl
  have ha : (archsOf (rs.take (i + 1))).length = (archsOf (rs.take i)).length + if newM (rs.take i) rs[i] then 1 else 0 := by
   rw [ht, archsOf_snoc, addNew]
   by_cases hm : (rs[i]).arch ∈ archsOf (rs.take i)
   ·rw [if_pos hm, if_neg (fun h => newM_iff.1 h hm)]; rfl
   ·rw [if_neg hm, if_pos (newM_iff.2 hm)]; simp
  rw [mostF, ih, hg, ha, ht, wsum_snoc, calls_snoc]
  simp only [ruleW]
  split <;> split <;> omega
theorem costRt_le (rs : List Ru) : costRt rs (archsOf rs) ≤ wsum costW rs + 6 * calls rs := by
 have h1 : ∀ l : List Nat, sumF (costA rs) l = sumF (fun a => costE (rulesAt rs a) (sortS (nrsOf rs a))) l + 6 * sumF (fun a => (nrsOf rs a).length) l := by
  intro l
  induction l with
  | nil => rfl
  | cons a l ih => simp only [sumF, ih, costA]; omega
 have h2 : ∀ a, costE (rulesAt rs a) (sortS (nrsOf rs a)) ≤ wsum costW (rs.filter fun r => decide (r.arch = a)) := fun a => by
  have h1 := parts_le costW (·.nr) (l := sortS (nrsOf rs a)) ((sortS_perm _).nodup_iff.2 (firsts_nodup _)) (rs.filter fun r => decide (r.arch = a))
  have e : costE (rulesAt rs a) (sortS (nrsOf rs a)) = sumF (fun n => wsum costW ((rs.filter fun r => decide (r.arch = a)).filter fun r => decide (r.nr = n))) (sortS (nrsOf rs a)) :=
   sumF_congr fun n _ => by rw [costR_w, rulesAt_eq]
  rw [e]; exact h1
 have h3 := sumF_le (l := archsOf rs) fun a _ => h2 a
 have h4 := parts_le costW (·.arch) (l := archsOf rs) (firsts_nodup _) rs
 unfold costRt calls
 rw [h1]
 omega
theorem most_ok {p : Po} (hf : p.fine) : (lowerL p).length ≤ mostP p := by
 have g := (lower_came hf).1.len
 have h1 := costRt_le p.rules
 have h2 := wsum_le (w := costW) (v := fun r => 3 + 16 * r.conds.length) (l := p.rules) fun r _ => by simp only [costW]; omega
 have hl0 : (putF [] 6 p.dflt).length = 1 := rfl
 unfold mostP
 split
 ·rename_i h
  have hr : p.rules = [] := List.length_eq_zero_iff.1 h
  have : lowerL p = putF [] 6 p.dflt := by unfold lowerL; rw [hr]; rfl
  rw [this]; exact Nat.le_refl _
 ·rw [mostF_eq _ _ (Nat.le_refl _), List.take_length]
  unfold lowCost at g
  omega
theorem Most_ok [HasR13m G] (p : Po) (hl : p.rules.length ≤ 100) (hr : ∀ r ∈ p.rules, r.conds.length ≤ 20) : FP G 440 [.agg p.cs] (.int .i64 (mostP p : Nat)) := by
 refine FP_of HasR13m.h_hurdleref13_Most (Nat.le_of_ble_eq_true rfl) ?_
 by_cases h0 : p.rules.length = 0
 ·have h0' : ((p.rules.length : Int) == 0) = true := by simp [h0]
  have hz : p.rules = [] := List.length_eq_zero_iff.1 h0
  simp [Po.cs, h0, mostP, hz, RL]
 ·have h0' : ((p.rules.length : Int) == 0) = false := beqF (by omega)
  have hb : ∀ i, i ≤ p.rules.length → mostF p.rules i ≤ 8 + 400 * i := by
   intro i
   induction i with
   | zero => intro _; simp [mostF]
   | succ i ih =>
    intro h
    have := ih (by omega)
    have hg : p.rules[i]? = some p.rules[i] := List.getElem?_eq_getElem (by omega)
    have hc := hr _ (List.mem_of_getElem? hg)
    rw [mostF, hg]
    simp only [ruleW]
    split <;> split <;> omega
  obtain ⟨M, hM⟩ : ∃ M : Nat → Nat, ∀ i, M i = mostF p.rules i := ⟨_, fun _ => rfl⟩
  have hM0 : M 0 = 8 := by rw [hM]; rfl
  have hMl : mostP p = M p.rules.length := by rw [hM, mostP, if_neg h0]
  rw [hMl]
  simp [Po.cs, h0']
  refine W_up p.rules.length (fun i => [(1, .ptr 0 0), (3, .int .i64 (M i)), (4, .int .i64 i)]) (fun _ => [some (.cells p.cs)]) (fun _ => True) ?_ ?_
  ·simp [keep_cl, trunc, Po.cs, hM0]
  intro i hi _
  by_cases hlt : i < p.rules.length
  ·obtain ⟨x, hx⟩ : ∃ x, x = p.rules[i] := ⟨_, rfl⟩
   have hgx : p.rules[i]? = some x := by rw [List.getElem?_eq_getElem hlt, hx]
   have hgc := RL_get hgx
   have hget : (RL p.rules)[i]'(by simpa using hlt) = x.cs := by rw [List.getElem?_eq_getElem (by simpa using hlt)] at hgc; exact Option.some.inj hgc
   have hxc := hr x (List.mem_of_getElem? hgx)
   have hbi := hb i hi
   rw [← hM] at hbi
   have hMs : M (i + 1) = M i + ruleW (p.rules.take i) x := by rw [hM, hM, mostF, hgx]
   have a1 : addI .i64 (M i : Int) 3 = ((M i + 3 : Nat) : Int) := addL (n := 3) (by omega)
   have a2 : mulI .i64 16 (x.conds.length : Int) = ((16 * x.conds.length : Nat) : Int) := by
    unfold mulI
    rw [show ((16 : Int) * (x.conds.length : Int)) = ((16 * x.conds.length : Nat) : Int) by omega]
    exact IntWalk.i64_in _ ⟨by omega, by omega⟩
   have a3 : addI .i64 ((M i + 3 : Nat) : Int) ((16 * x.conds.length : Nat) : Int) = ((M i + 3 + 16 * x.conds.length : Nat) : Int) := by rw [addI64] <;> omega
   obtain ⟨q, hq⟩ : ∃ q, q = M i + 3 + 16 * x.conds.length := ⟨_, rfl⟩
   rw [← hq] at a3
   have a4 : addI .i64 (q : Int) 4 = ((q + 4 : Nat) : Int) := addL (n := 4) (by omega)
   have a5 : addI .i64 (q : Int) 8 = ((q + 8 : Nat) : Int) := addL (n := 8) (by omega)
   have a6 : addI .i64 ((q + 4 : Nat) : Int) 8 = ((q + 4 + 8 : Nat) : Int) := addL (n := 8) (by omega)
   simp only [Ru.cs] at hgc hget
   simp (disch := omega) [ltT, get_in, hgc, hget, hlt, Po.cs, a1, a2, a3, -Int.natCast_add, -Int.natCast_mul]
   refine W_up i (fun k => [(1, .ptr 0 0), (3, .int .i64 q), (4, .int .i64 i), (5, .ptr 1 0), (6, .bool (newM (p.rules.take k) x)), (7, .bool (newC (p.rules.take k) x)), (8, .int .i64 k)]) (fun _ => [some (.cells p.cs), some (.cells x.cs)]) (fun _ => True) ?_ ?_
   ·simp [keep_cl, trunc, Po.cs, Ru.cs, newM, newC]
    done
   intro k hk _
   by_cases hlk : k < i
   ·have hkl : k < p.rules.length := by omega
    obtain ⟨y, hy⟩ : ∃ y, y = p.rules[k] := ⟨_, rfl⟩
    have hgy : p.rules[k]? = some y := by rw [List.getElem?_eq_getElem hkl, hy]
    have hgyc := RL_get hgy
    have hgety : (RL p.rules)[k]'(by simpa using hkl) = y.cs := by rw [List.getElem?_eq_getElem (by simpa using hkl)] at hgyc; exact Option.some.inj hgyc
    simp only [Ru.cs] at hgyc hgety
    have tm : newM (p.rules.take (k + 1)) x = (newM (p.rules.take k) x && decide (y.arch ≠ x.arch)) := by unfold newM; rw [List.take_add_one, hgy]; simp
    have tc : newC (p.rules.take (k + 1)) x = (newC (p.rules.take k) x && decide (¬ (y.arch = x.arch ∧ y.nr = x.nr))) := by unfold newC; rw [List.take_add_one, hgy]; simp
    have e1 : ((y.arch : Int) == (x.arch : Int)) = decide (y.arch = x.arch) := by rw [Bool.eq_iff_iff]; simp
    have e2 : ((y.nr : Int) == (x.nr : Int)) = decide (y.nr = x.nr) := by rw [Bool.eq_iff_iff]; simp
    by_cases c1 : y.arch = x.arch
    ·by_cases c2 : y.nr = x.nr
     ·simp (disch := omega) [ltT, get_in, hgyc, hgety, hlk, Po.cs, Ru.cs, e1, e2, c1, c2, keep_cl, trunc, add1', tm, tc, -Int.natCast_add]
      done
     ·simp (disch := omega) [ltT, get_in, hgyc, hgety, hlk, Po.cs, Ru.cs, e1, e2, c1, c2, keep_cl, trunc, add1', tm, tc, -Int.natCast_add]
      done
    ·simp (disch := omega) [ltT, get_in, hgyc, hgety, hlk, Po.cs, Ru.cs, e1, e2, c1, keep_cl, trunc, add1', tm, tc, -Int.natCast_add]
     done
   ·have : k = i := by omega
    subst this
    cases n1 : newM (p.rules.take k) x <;> cases n2 : newC (p.rules.take k) x <;> simp only [ruleW, n1, n2, if_true, if_false, Bool.false_eq_true, Nat.add_zero] at hMs
    ·have e : M (k + 1) = q := by omega
     simp (disch := omega) [ltF, keep_cl, trunc, Po.cs, add1', hlt, e, a4, a5, a6, n1, n2, -Int.natCast_add]
    ·have e : M (k + 1) = q + 8 := by omega
     simp (disch := omega) [ltF, keep_cl, trunc, Po.cs, add1', hlt, e, a4, a5, a6, n1, n2, -Int.natCast_add]
    ·have e : M (k + 1) = q + 4 := by omega
     simp (disch := omega) [ltF, keep_cl, trunc, Po.cs, add1', hlt, e, a4, a5, a6, n1, n2, -Int.natCast_add]
    ·have e : M (k + 1) = q + 4 + 8 := by omega
     simp (disch := omega) [ltF, keep_cl, trunc, Po.cs, add1', hlt, e, a4, a5, a6, n1, n2, -Int.natCast_add]
  ·have : i = p.rules.length := by omega
   subst this
   simp (disch := omega) [ltF, keep_cl, trunc, Po.cs]
end Go.Ev
/- Sums of multiples. -/
namespace Go.Ev
open Go Go.RowKit
variable {G : Tbl}
set_option maxRecDepth 10000
set_option maxHeartbeats 4000000
set_option linter.unusedSimpArgs false
set_option linter.unusedVariables false
section
variable {o : Nat → Nat → Nat} {f g : List Nat} {i n : Nat}
end
section
variable {α : Type} (H l : List α)
end
def fAdd (f g : List Nat) : List Nat := List.zipWith (fun a b => (a + b) % 4294967296) f g
def fSub (f g : List Nat) : List Nat := List.zipWith (fun a b => (a + 4294967296 - b) % 4294967296) f g
def fMul (f : List Nat) (k : Nat) : List Nat := f.map fun a => a * k % 4294967296
def fConst (f : List Nat) : Option Nat := if f.drop 1 = zeros 34 then f.head? else none
def fSum (f v : List Nat) (i : Nat) : Nat := ((List.zipWith (· * ·) (f.drop 1) v).take i).sum
def fEval (f v : List Nat) : Nat := (f.headD 0 + fSum f v 34) % 4294967296
def fOne (f : List Nat) : Option Nat := (List.range 34).find? fun i => decide (f = varL i)
end Go.Ev
/- More of what is done with bits. -/
namespace Go.Ev
open Go Go.RowKit
variable {G : Tbl}
set_option maxRecDepth 10000
set_option maxHeartbeats 4000000
set_option linter.unusedSimpArgs false
set_option linter.unusedVariables false
theorem val_lt (vs : List Int) (tab : List Nat) (r : Int → Nat) : val vs tab r < 4294967296 := wordOf_lt _ 32
theorem val_do {kind : Int} {fv gv vs : List Int} {ft gt tab : List Nat} (h : kind = 68 ∨ kind = 84 ∨ kind = 164) (hs : ∀ p, sem vs tab p = (doW kind (sem fv ft p) (sem gv gt p)).1) (r : Int → Nat) :
  val vs tab r = (doW kind (val fv ft r) (val gv gt r)).1 := by
 refine Nat.eq_of_testBit_eq fun i => ?_
 have hv : ∀ (v : List Int) (t : List Nat), (val v t r).testBit i = (decide (i < 32) && (sem v t fun u => (r u).testBit i).testBit i) := fun v t => by rw [val, wordOf_bit]
 rcases h with rfl | rfl | rfl <;> simp only [doW] at hs ⊢ <;> simp at hs ⊢ <;> (rw [hv, hs]; simp [hv]; try (cases decide (i < 32) <;> simp))
end Go.Ev
/- Sums, constants, variables and bits of a book. -/
namespace Go.Ev
open Go Go.RowKit
variable {G : Tbl}
set_option maxRecDepth 10000
set_option maxHeartbeats 4000000
set_option linter.unusedSimpArgs false
set_option linter.unusedVariables false
variable {H : Heap} {b z m : Nat} {L : List Nd}
def putN (L : List Nd) (a : Nd) : Int × List Nd := ((L.idxOf a : Nat), insN L a)
def varN (L : List Nd) (i : Int) : Int × List Nd := if 0 ≤ i ∧ i < 34 then putN L (sumNd (varL i.toNat)) else (-1, L)
def bitNd (fv : List Int) (ft : List Nat) : Nd := { Nd0 with kind := 1, n := fv.length, vars := fv.map Int.toNat ++ zeros (4 - fv.length), tab := ft ++ zeros (16 - ft.length) }
def ones : Nat := 4294967295
def bitsN (L : List Nd) (fv : List Int) (ft : List Nat) : Int × List Nd :=
 match fv with
 | [] => putN L (sumNd (ft.headD 0 :: zeros 34))
 | [i] => if ft = [0, ones] then putN L (sumNd (varL i.toNat)) else if ft = [ones, 0] then putN L (sumNd (fSub (ones :: zeros 34) (varL i.toNat))) else putN L (bitNd [i] ft)
 | fv => putN L (bitNd fv ft)
end Go.Ev
/- What a book's values are. -/
namespace Go.Ev
open Go Go.RowKit
variable {G : Tbl}
set_option maxRecDepth 10000
set_option maxHeartbeats 4000000
set_option linter.unusedSimpArgs false
set_option linter.unusedVariables false
variable {H : Heap} {b z m : Nat} {L : List Nd}
def asB (a : Nd) : Option (List Int × List Nat) :=
 if a.kind = 1 then some ((a.vars.take a.n).map fun (x : Nat) => (x : Int), a.tab.take (2 ^ a.n))
 else if a.kind = 0 then (match fConst a.f with
  | some c => some ([], [c])
  | none => match fOne a.f with
   | some i => some ([(i : Int)], [0, ones])
   | none => match fOne (fSub (ones :: zeros 34) a.f) with
    | some i => some ([(i : Int)], [ones, 0])
    | none => none)
 else none
end Go.Ev
/- Work on two values of a book. -/
namespace Go.Ev
open Go Go.RowKit
variable {G : Tbl}
set_option maxRecDepth 10000
set_option maxHeartbeats 4000000
set_option linter.unusedSimpArgs false
set_option linter.unusedVariables false
variable {H : Heap} {b z m : Nat} {L : List Nd}
def Nd.wf (a : Nd) : Prop := (∀ c ∈ a.f, c < 4294967296) ∧ (a.kind = 1 → Right ((a.vars.take a.n).map fun (x : Nat) => (x : Int)) (a.tab.take (2 ^ a.n)) ∧ a.n ≤ 4 ∧ ∀ w ∈ a.tab, w < 4294967296)
def constA (a : Nd) : Option Nat := if a.kind = 0 then fConst a.f else none
abbrev R3 := Int × Bool × List Nd
def okP (p : Int × List Nd) : R3 := (p.1, true, p.2)
def noR (L : List Nd) : R3 := (0, false, L)
def sumsN (L : List Nd) (kind : Int) (a c : Nd) : R3 :=
 if a.kind = 0 ∧ c.kind = 0 then
  if kind = 4 then okP (putN L (sumNd (fAdd a.f c.f)))
  else if kind = 20 then okP (putN L (sumNd (fSub a.f c.f)))
  else match fConst a.f, fConst c.f with
   | some u, some v => if kind = 36 then okP (putN L (sumNd (fMul a.f v))) else if kind = 100 then okP (putN L (sumNd (fMul a.f (doW 100 1 v).1)))
    else ((putN L (sumNd ((doW kind u v).1 :: zeros 34))).1, (doW kind u v).2, (putN L (sumNd ((doW kind u v).1 :: zeros 34))).2)
   | none, some v => if kind = 36 then okP (putN L (sumNd (fMul a.f v))) else if kind = 100 then okP (putN L (sumNd (fMul a.f (doW 100 1 v).1))) else noR L
   | some u, none => if kind = 36 then okP (putN L (sumNd (fMul c.f u))) else noR L
   | none, none => noR L
 else noR L
theorem fConst_lt {f : List Nat} {c : Nat} (h : fConst f = some c) (hw : ∀ x ∈ f, x < 4294967296) : c < 4294967296 := by
 rw [fConst] at h
 split at h
 ·exact hw c (List.mem_of_mem_head? h)
 ·cases h
end Go.Ev
/- Work on bits of a book, and what is known of all numbers. -/
namespace Go.Ev
open Go Go.RowKit
variable {G : Tbl}
set_option maxRecDepth 10000
set_option maxHeartbeats 4000000
set_option linter.unusedSimpArgs false
set_option linter.unusedVariables false
variable {H : Heap} {b z m : Nat} {L : List Nd}
theorem fOne_lt {f : List Nat} {i : Nat} (h : fOne f = some i) : i < 34 := List.mem_range.1 (List.mem_of_find?_eq_some h)
open Classical in
/-- What is done with bits. -/
noncomputable def bdo (kind : Int) (p q : List Int × List Nat) : Option (List Int × List Nat) :=
 if h : DoOk kind p.1 q.1 p.2 q.2 ∧ ∃ r : List Int × List Nat, Right r.1 r.2 ∧ (∀ w ∈ r.2, w < 4294967296) ∧ ∀ s, sem r.1 r.2 s = (doW kind (sem p.1 p.2 s) (sem q.1 q.2 s)).1 then some (Classical.choose h.2) else none
theorem bdo_some {kind : Int} {p q r : List Int × List Nat} (h : bdo kind p q = some r) : DoOk kind p.1 q.1 p.2 q.2 ∧ Right r.1 r.2 ∧ (∀ w ∈ r.2, w < 4294967296) ∧ ∀ s, sem r.1 r.2 s = (doW kind (sem p.1 p.2 s) (sem q.1 q.2 s)).1 := by
 rw [bdo] at h
 split at h
 ·rename_i hh
  cases h
  exact ⟨hh.1, Classical.choose_spec hh.2⟩
 ·cases h
noncomputable def bothN (L : List Nd) (kind : Int) (a c : Nd) : R3 :=
 match asB a, asB c with
 | some p, some q => (match bdo kind p q with | some r => okP (bitsN L r.1 r.2) | none => noR L)
 | _, _ => noR L
def plainN (kind : Int) (cy : Option Nat) (x y : Int) : Int × Bool :=
 if kind = 4 ∨ kind = 20 ∨ kind = 100 ∨ kind = 116 then (x, decide (cy = some 0)) else if kind = 68 then (x, decide (cy = some 0) || decide (x = y)) else if kind = 164 then (x, decide (cy = some 0))
 else if kind = 84 then (x, decide (cy = some ones) || decide (x = y)) else (0, false)
end Go.Ev
/- Books stay books: plain laws. -/
namespace Go.Ev
open Go Go.RowKit
set_option maxRecDepth 10000
set_option maxHeartbeats 4000000
set_option linter.unusedSimpArgs false
set_option linter.unusedVariables false
variable {L : List Nd}
def Nd.good (n : Nat) (a : Nd) : Prop := a.ok ∧ a.wf ∧ (a.kind = 0 ∨ a.kind = 1 ∨ a.kind = 2 ∧ a.x < n ∧ a.y < n ∧ (doW a.op 0 1).2 = true)
theorem Nd.good.mono {n k : Nat} {a : Nd} (h : a.good n) (hk : n ≤ k) : a.good k := ⟨h.1, h.2.1, by rcases h.2.2 with h | h | ⟨h, h1, h2, h3⟩; exact .inl h; exact .inr (.inl h); exact .inr (.inr ⟨h, by omega, by omega, h3⟩)⟩
structure Inv (L : List Nd) : Prop where
 good : ∀ (i : Nat) (a : Nd), L[i]? = some a → a.good i
 one : L.Nodup
theorem Inv.ok (h : Inv L) : ∀ a ∈ L, a.ok := fun a ha => by obtain ⟨i, hi⟩ := List.getElem?_of_mem ha; exact (h.good i a hi).1
theorem Inv.wf (h : Inv L) : ∀ a ∈ L, a.wf := fun a ha => by obtain ⟨i, hi⟩ := List.getElem?_of_mem ha; exact (h.good i a hi).2.1
theorem Inv.nil : Inv [] := ⟨fun i a h => by simp at h, List.nodup_nil⟩
structure Ext (L L' : List Nd) (k : Nat) : Prop where
 pre : L <+: L'
 inv : Inv L'
 len : L'.length ≤ L.length + k
theorem Ext.refl (h : Inv L) (k : Nat) : Ext L L k := ⟨List.prefix_refl L, h, by omega⟩
theorem Ext.trans {L' L'' : List Nd} {k l : Nat} (h : Ext L L' k) (h' : Ext L' L'' l) : Ext L L'' (k + l) := ⟨h.pre.trans h'.pre, h'.inv, by have := h.len; have := h'.len; omega⟩
theorem Ext.mono {L' : List Nd} {k l : Nat} (h : Ext L L' k) (hk : k ≤ l) : Ext L L' l := ⟨h.pre, h.inv, by have := h.len; omega⟩
theorem pre_get {α : Type} {l l' : List α} (h : l <+: l') {i : Nat} {a : α} (hi : l[i]? = some a) : l'[i]? = some a := by
 obtain ⟨t, rfl⟩ := h
 rw [List.getElem?_append_left (List.getElem?_eq_some_iff.1 hi).1]
 exact hi
theorem Ext.get {L' : List Nd} {k i : Nat} {a : Nd} (h : Ext L L' k) (hi : L[i]? = some a) : L'[i]? = some a := pre_get h.pre hi
theorem put_ext (h : Inv L) {a : Nd} (ha : a.good L.length) : Ext L (putN L a).2 1 ∧ ∃ i : Nat, (putN L a).1 = i ∧ (putN L a).2[i]? = some a := by
 by_cases hm : a ∈ L
 ·have e : (putN L a).2 = L := by show insN L a = L; rw [insN, if_pos hm]
  refine ⟨by rw [e]; exact .refl h 1, L.idxOf a, rfl, ?_⟩
  rw [e, List.getElem?_eq_getElem (List.idxOf_lt_length_of_mem hm), List.getElem_idxOf]
 ·have e : (putN L a).2 = L ++ [a] := by show insN L a = _; rw [insN, if_neg hm]
  have e1 : (putN L a).1 = (L.length : Nat) := by show ((L.idxOf a : Nat) : Int) = _; rw [idxOf_out hm]
  refine ⟨⟨by rw [e]; exact List.prefix_append _ _, ?_, by rw [e]; simp⟩, L.length, e1, by rw [e]; simp⟩
  rw [e]
  refine ⟨fun i x hx => ?_, ?_⟩
  ·by_cases hi : i < L.length
   ·rw [List.getElem?_append_left hi] at hx; exact h.good i x hx
   ·have hlt := (List.getElem?_eq_some_iff.1 hx).1
    simp at hlt
    obtain rfl : i = L.length := by omega
    simp at hx
    subst hx; exact ha
  ·rw [List.nodup_append]
   exact ⟨h.one, by simp, fun x hx y hy e' => by simp at hy; rw [← hy, ← e'] at hm; exact hm hx⟩
theorem sum_good {f : List Nat} (hf : f.length = 35) (hw : ∀ c ∈ f, c < 4294967296) (n : Nat) : (sumNd f).good n := ⟨⟨hf, rfl, rfl⟩, ⟨hw, fun h => by cases h⟩, .inl rfl⟩
theorem zeros_lt (n : Nat) : ∀ c ∈ zeros n, c < 4294967296 := fun c hc => by rw [zeros, List.mem_replicate] at hc; omega
theorem const_lt {c : Nat} (hc : c < 4294967296) : ∀ x ∈ c :: zeros 34, x < 4294967296 := fun x hx => by
 rcases List.mem_cons.1 hx with rfl | hx
 ·exact hc
 ·exact zeros_lt 34 x hx
theorem varL_lt (i : Nat) : ∀ x ∈ varL i, x < 4294967296 := fun x hx => by
 rw [varL] at hx
 rcases List.mem_or_eq_of_mem_set hx with hx | rfl
 ·exact zeros_lt 35 x hx
 ·omega
theorem varL_len (i : Nat) : (varL i).length = 35 := by simp [varL]
theorem zip_lt {o : Nat → Nat → Nat} (ho : ∀ a b, o a b < 4294967296) : ∀ (f g : List Nat), ∀ x ∈ List.zipWith o f g, x < 4294967296
 | [], _, x, hx => by simp at hx
 | _ :: _, [], x, hx => by simp at hx
 | a :: f, b :: g, x, hx => by
  simp only [List.zipWith_cons_cons, List.mem_cons] at hx
  rcases hx with rfl | hx
  ·exact ho a b
  ·exact zip_lt ho f g x hx
theorem fAdd_lt (f g : List Nat) : ∀ x ∈ fAdd f g, x < 4294967296 := zip_lt (fun a b => Nat.mod_lt _ (by decide)) f g
theorem fSub_lt (f g : List Nat) : ∀ x ∈ fSub f g, x < 4294967296 := zip_lt (fun a b => Nat.mod_lt _ (by decide)) f g
theorem fMul_lt (f : List Nat) (k : Nat) : ∀ x ∈ fMul f k, x < 4294967296 := fun x hx => by
 obtain ⟨y, _, rfl⟩ := List.mem_map.1 hx
 exact Nat.mod_lt _ (by decide)
theorem fAdd_len {f g : List Nat} (hf : f.length = 35) (hg : g.length = 35) : (fAdd f g).length = 35 := by simp [fAdd, hf, hg]
theorem fSub_len {f g : List Nat} (hf : f.length = 35) (hg : g.length = 35) : (fSub f g).length = 35 := by simp [fSub, hf, hg]
theorem fMul_len {f : List Nat} (k : Nat) (hf : f.length = 35) : (fMul f k).length = 35 := by simp [fMul, hf]
theorem bitNd_back {fv : List Int} {ft : List Nat} (h : ∀ v ∈ fv, 0 ≤ v) (hl : ft.length = 2 ^ fv.length) : ((bitNd fv ft).vars.take (bitNd fv ft).n).map (fun (x : Nat) => (x : Int)) = fv ∧ (bitNd fv ft).tab.take (2 ^ (bitNd fv ft).n) = ft := by
 constructor
 ·show ((fv.map Int.toNat ++ zeros (4 - fv.length)).take fv.length).map _ = fv
  rw [List.take_left' (by simp), List.map_map]
  conv => rhs; rw [← List.map_id fv]
  exact List.map_congr_left fun v hv => by have := h v hv; simp; omega
 ·show (ft ++ zeros (16 - ft.length)).take (2 ^ fv.length) = ft
  rw [← hl]; exact List.take_left' rfl
theorem right_nn {fv : List Int} {ft : List Nat} (h : Right fv ft) : ∀ v ∈ fv, 0 ≤ v := fun v hv => by
 obtain ⟨j, hj, rfl⟩ := List.getElem_of_mem hv
 obtain ⟨w, hw, hw0, _⟩ := h.2.2 j hj
 rw [List.getElem?_eq_getElem hj] at hw
 cases hw; exact hw0
theorem bit_good {fv : List Int} {ft : List Nat} (h : Right fv ft) (hw : ∀ c ∈ ft, c < 4294967296) (n : Nat) : (bitNd fv ft).good n := by
 have h4 := h.1
 have hl : ft.length ≤ 16 := by rw [h.2.1]; exact Nat.pow_le_pow_right (n := 2) (by decide) h4
 obtain ⟨e1, e2⟩ := bitNd_back (right_nn h) h.2.1
 refine ⟨⟨rfl, by simp [bitNd]; omega, by simp [bitNd]; omega⟩, ⟨zeros_lt 35, fun _ => ⟨?_, h4, ?_⟩⟩, .inr (.inl rfl)⟩
 ·rw [e1, e2]; exact h
 ·intro w hw'
  simp only [bitNd, List.mem_append] at hw'
  rcases hw' with h | h
  ·exact hw w h
  ·exact zeros_lt _ w h
theorem asB_var : ∀ i, i < 34 → asB (sumNd (varL i)) = some ([(i : Int)], [0, ones]) ∧ asB (sumNd (fSub (ones :: zeros 34) (varL i))) = some ([(i : Int)], [ones, 0]) := by
 decide +kernel
theorem bits_ext (h : Inv L) {fv : List Int} {ft : List Nat} (hR : Right fv ft) (hw : ∀ c ∈ ft, c < 4294967296) : Ext L (bitsN L fv ft).2 1 ∧ ∃ (i : Nat) (a : Nd), (bitsN L fv ft).1 = i ∧ (bitsN L fv ft).2[i]? = some a ∧ asB a = some (fv, ft) := by
 have gen : bitsN L fv ft = putN L (bitNd fv ft) → Ext L (bitsN L fv ft).2 1 ∧ ∃ (i : Nat) (a : Nd), (bitsN L fv ft).1 = i ∧ (bitsN L fv ft).2[i]? = some a ∧ asB a = some (fv, ft) := fun e => by
  obtain ⟨e1, e2⟩ := bitNd_back (right_nn hR) hR.2.1
  obtain ⟨h1, i, h2, h3⟩ := put_ext h (bit_good hR hw _)
  rw [e]
  exact ⟨h1, i, _, h2, h3, by rw [asB, if_pos (show (bitNd fv ft).kind = 1 from rfl), e1, e2]⟩
 match fv, hR, gen with
 | [], hR, gen =>
  obtain ⟨c, rfl⟩ : ∃ c, ft = [c] := by match ft, hR.2.1 with | [c], _ => exact ⟨c, rfl⟩
  obtain ⟨h1, i, h2, h3⟩ := put_ext h (sum_good (f := c :: zeros 34) (by simp) (const_lt (hw c (by simp))) _)
  exact ⟨h1, i, _, h2, h3, by simp [asB, sumNd, Nd0, fConst]⟩
 | [v], hR, gen =>
  obtain ⟨w, hv, hv0, hv34, _⟩ := hR.2.2 0 (by simp)
  obtain rfl : v = w := by simpa using hv
  obtain ⟨n, rfl⟩ := Int.eq_ofNat_of_zero_le hv0
  obtain ⟨a1, a2⟩ := asB_var n (by omega)
  by_cases e1 : ft = [0, ones]
  ·have e : bitsN L [(n : Int)] ft = putN L (sumNd (varL n)) := by rw [e1]; rfl
   obtain ⟨h1, i, h2, h3⟩ := put_ext h (sum_good (varL_len n) (varL_lt n) _)
   rw [e]
   exact ⟨h1, i, _, h2, h3, by rw [a1, e1]⟩
  ·by_cases e2 : ft = [ones, 0]
   ·have e : bitsN L [(n : Int)] ft = putN L (sumNd (fSub (ones :: zeros 34) (varL n))) := by rw [e2]; rfl
    obtain ⟨h1, i, h2, h3⟩ := put_ext h (sum_good (fSub_len (f := ones :: zeros 34) rfl (varL_len n)) (fSub_lt _ _) _)
    rw [e]
    exact ⟨h1, i, _, h2, h3, by rw [a2, e2]⟩
   ·exact gen (by simp only [bitsN, e1, e2, if_false])
 | u :: v :: t, hR, gen => exact gen rfl
end Go.Ev
/- Arithmetic in a book. -/
namespace Go.Ev
open Go Go.RowKit
variable {G : Tbl}
set_option maxRecDepth 10000
set_option maxHeartbeats 4000000
set_option linter.unusedSimpArgs false
set_option linter.unusedVariables false
variable {H : Heap} {b z m : Nat} {L : List Nd}
theorem Bk.to (h : Bk H b z m L) {L' : List Nd} (hi : Inv L') (hs : L'.length ≤ 1000000) : Bk (upd H b z m L') b z m L' := h.upd_bk hi.ok hs
def swapsB (kind : Int) : Bool := decide (kind ≠ 20 ∧ kind ≠ 52 ∧ kind ≠ 100 ∧ kind ≠ 116)
def deedNd (kind : Int) (x y : Nat) : Nd := { Nd0 with kind := 2, op := kind, x := x, y := y }
noncomputable def bAlu2 (L : List Nd) (kind : Int) (x y : Nat) (a c : Nd) : Int × List Nd :=
 let s1 := sumsN L kind a c
 let s2 := bothN s1.2.2 kind a c
 let s3 := plainN kind (constA c) x y
 let s4 := plainN kind (constA a) y x
 if s1.2.1 = true then (s1.1, s1.2.2) else if s2.2.1 = true then (s2.1, s2.2.2) else if s3.2 = true then (s3.1, s1.2.2)
 else if swapsB kind = true ∧ s4.2 = true then (s4.1, s1.2.2)
 else if swapsB kind = true ∧ y < x then putN s1.2.2 (deedNd kind y x) else putN s1.2.2 (deedNd kind x y)
noncomputable def bAlu (L : List Nd) (kind x y : Int) : Int × List Nd :=
 if (doW kind 0 1).2 = true ∧ hasI L x = true ∧ hasI L y = true then (match L[x.toNat]?, L[y.toNat]? with | some a, some c => bAlu2 L kind x.toNat y.toNat a c | _, _ => (-1, L)) else (-1, L)
section
variable {K : Heap} {kind : Int} {x y p0 p1 p2 p3 p4 : Nat} {a c : Nd}
end
theorem sums_ext {kind : Int} {a c : Nd} (h : Inv L) (ha : a.ok) (hc : c.ok) (haw : a.wf) (hcw : c.wf) : Ext L (sumsN L kind a c).2.2 1 := by
 have no : Ext L (noR L).2.2 1 := .refl h 1
 have yes : ∀ f : List Nat, f.length = 35 → (∀ x ∈ f, x < 4294967296) → Ext L (okP (putN L (sumNd f))).2.2 1 := fun f hf hw => (put_ext h (sum_good hf hw _)).1
 rw [sumsN]
 split
 ·split
  ·exact yes _ (fAdd_len ha.1 hc.1) (fAdd_lt _ _)
  ·split
   ·exact yes _ (fSub_len ha.1 hc.1) (fSub_lt _ _)
   ·split
    ·rename_i u v eu ev
     split
     ·exact yes _ (fMul_len _ ha.1) (fMul_lt _ _)
     ·split
      ·exact yes _ (fMul_len _ ha.1) (fMul_lt _ _)
      ·exact (put_ext h (sum_good (by simp) (const_lt (doW32 kind (fConst_lt eu haw.1) (fConst_lt ev hcw.1))) _)).1
    ·split
     ·exact yes _ (fMul_len _ ha.1) (fMul_lt _ _)
     ·split
      ·exact yes _ (fMul_len _ ha.1) (fMul_lt _ _)
      ·exact no
    ·split
     ·exact yes _ (fMul_len _ hc.1) (fMul_lt _ _)
     ·exact no
    ·exact no
 ·exact no
end Go.Ev
/- The numbers of a book's values. -/
namespace Go.Ev
open Go Go.RowKit
variable {G : Tbl}
set_option maxRecDepth 10000
set_option maxHeartbeats 4000000
set_option linter.unusedSimpArgs false
set_option linter.unusedVariables false
variable {H : Heap} {b z m : Nat} {L : List Nd}
def negN' (L : List Nd) : Int × List Nd := putN L (sumNd (0 :: zeros 34))
noncomputable def bNeg (L : List Nd) (x : Int) : Int × List Nd := if hasI L x = true then bAlu (negN' L).2 20 (negN' L).1 x else (-1, L)
theorem zero_ext (h : Inv L) : Ext L (negN' L).2 1 := (put_ext h (sum_good (by simp) (const_lt (by decide)) _)).1
/-! Numbers. -/
/-- Arithmetic of numbers, where there are two. -/
def aluV (kind : Int) (o o' : Option Nat) : Option Nat := match o, o' with
 | some l, some r => if (doW kind l r).2 = true then some (doW kind l r).1 else none
 | _, _ => none
noncomputable def nval (v : List Nat) (acc : List (Option Nat)) (a : Nd) : Option Nat :=
 if a.kind = 0 then some (fEval a.f v) else if a.kind = 1 then (asB a).map fun p => val p.1 p.2 (asg v)
 else aluV a.op acc[a.x]?.join acc[a.y]?.join
noncomputable def vals (v : List Nat) (L : List Nd) : List (Option Nat) := L.foldl (fun acc a => acc ++ [nval v acc a]) []
section
variable {v : List Nat}
theorem vals_snoc (L : List Nd) (a : Nd) : vals v (L ++ [a]) = vals v L ++ [nval v (vals v L) a] := by simp [vals]
theorem vals_len : ∀ L : List Nd, (vals v L).length = L.length := by
 intro L
 have : ∀ (L : List Nd) (acc : List (Option Nat)), (L.foldl (fun acc a => acc ++ [nval v acc a]) acc).length = acc.length + L.length := fun L => by
  induction L with
  | nil => intro acc; rfl
  | cons a L ih => intro acc; simp only [List.foldl_cons, ih]; simp; omega
 simpa [vals] using this L []
theorem vals_app : ∀ (L M : List Nd), vals v L <+: vals v (L ++ M) := by
 intro L M
 have : ∀ (M : List Nd) (acc : List (Option Nat)), acc <+: M.foldl (fun acc a => acc ++ [nval v acc a]) acc := fun M => by
  induction M with
  | nil => intro acc; exact List.prefix_refl _
  | cons a M ih => intro acc; exact (List.prefix_append _ _).trans (ih _)
 rw [vals, vals, List.foldl_append]
 exact this M _
theorem vals_pre {L L' : List Nd} (h : L <+: L') : vals v L <+: vals v L' := by obtain ⟨M, rfl⟩ := h; exact vals_app L M
theorem vals_take (L : List Nd) (i : Nat) : (vals v L).take i = vals v (L.take i) := by
 have h := vals_pre (v := v) (List.take_prefix i L)
 obtain ⟨t, ht⟩ := h
 by_cases hi : i ≤ L.length
 ·rw [← ht, List.take_left' (by rw [vals_len, List.length_take]; omega)]
 ·rw [List.take_of_length_le (by rw [vals_len]; omega), List.take_of_length_le (by omega)]
theorem vals_at {i : Nat} {a : Nd} (h : L[i]? = some a) : (vals v L)[i]? = some (nval v (vals v (L.take i)) a) := by
 have hl := (List.getElem?_eq_some_iff.1 h).1
 have e : L.take (i + 1) = L.take i ++ [a] := by rw [List.take_add_one, h]; rfl
 have h1 := vals_take (v := v) L (i + 1)
 rw [e, vals_snoc] at h1
 have h2 : ((vals v L).take (i + 1))[i]? = (vals v L)[i]? := by rw [List.getElem?_take]; simp
 rw [← h2, h1, List.getElem?_append_right (by rw [vals_len, List.length_take]; omega), vals_len, List.length_take]
 rw [show i - min i L.length = 0 by omega]
 rfl
end
theorem fEval_lt (f v : List Nat) : fEval f v < 4294967296 := Nat.mod_lt _ (by decide)
theorem vals_lt {v : List Nat} {k i : Nat} {o : Option Nat} (hi : Inv L) (h : (vals v (L.take k))[i]? = some o) : o.getD 0 < 4294967296 := by
 have main : ∀ (i : Nat) (o : Option Nat), (vals v L)[i]? = some o → o.getD 0 < 4294967296 := fun i => by
  induction i using Nat.strongRecOn with
  | _ i ih =>
   intro o ho
   have hl := (List.getElem?_eq_some_iff.1 ho).1
   rw [vals_len] at hl
   have ha := get_in hl
   rw [vals_at ha] at ho
   cases ho
   have hg := hi.good i _ ha
   have sub : ∀ j, j < i → (vals v (L.take i))[j]? = (vals v L)[j]? := fun j hj => by rw [← vals_take, List.getElem?_take, if_pos hj]
   rw [nval]
   split
   ·exact fEval_lt _ _
   ·split
    ·cases e : asB L[i] with
     | none => simp
     | some p => simp only [Option.map_some, Option.getD_some]; exact val_lt _ _ _
    ·rcases hg.2.2 with h | h | ⟨_, hx, hy, _⟩
     ·contradiction
     ·contradiction
     ·unfold aluV
      split
      ·rename_i l r el er
       split
       ·rw [sub _ hx] at el
        rw [sub _ hy] at er
        obtain ⟨o1, h1, h1'⟩ : ∃ o1, (vals v L)[L[i].x]? = some o1 ∧ o1 = some l := by
         cases e : (vals v L)[L[i].x]? with
         | none => rw [e] at el; cases el
         | some o1 => rw [e] at el; exact ⟨o1, rfl, el⟩
        obtain ⟨o2, h2, h2'⟩ : ∃ o2, (vals v L)[L[i].y]? = some o2 ∧ o2 = some r := by
         cases e : (vals v L)[L[i].y]? with
         | none => rw [e] at er; cases er
         | some o2 => rw [e] at er; exact ⟨o2, rfl, er⟩
        have b1 := ih _ hx _ h1
        have b2 := ih _ hy _ h2
        rw [h1'] at b1
        rw [h2'] at b2
        exact doW32 _ b1 b2
       ·simp
      ·simp
 by_cases hik : i < k
 ·rw [← vals_take, List.getElem?_take, if_pos hik] at h
  exact main i o h
 ·rw [← vals_take, List.getElem?_take, if_neg hik] at h
  cases h
noncomputable def valI (v : List Nat) (L : List Nd) (x : Int) : Option Nat := if hasI L x = true then (vals v L)[x.toNat]?.join else none
end Go.Ev
/- The document's values: how each was made. -/
namespace Go.Ev
open Go Go.RowKit
variable {G : Tbl}
set_option maxRecDepth 10000
set_option maxHeartbeats 4000000
set_option linter.unusedSimpArgs false
set_option linter.unusedVariables false
structure Md where
 kind : Int
 i : Int
 op : Int
 x : Int
 y : Int
 c : Nat
def Md.cs (a : Md) : List V := [.int .i64 a.kind, .int .i64 a.i, .int .i64 a.op, .int .i64 a.x, .int .i64 a.y, .int .u32 (a.c : Int)]
def mds (l : List Md) : List (List V) := l.map Md.cs
@[simp] theorem mds_length (l : List Md) : (mds l).length = l.length := by simp [mds]
def thereB (l : List Md) (i : Int) : Bool := decide (0 ≤ i ∧ i < l.length) && (match l[i.toNat]? with | some a => decide (a.kind ≠ 4) | none => false)
def noMd : Md := ⟨4, 0, 0, 0, 0, 0⟩
def nextM (l : List Md) (a : Md) : Md :=
 if a.kind = 0 then ⟨0, 0, 0, 0, 0, a.c⟩ else if a.kind = 1 ∧ 0 ≤ a.i ∧ a.i < 34 then ⟨1, a.i, 0, 0, 0, 0⟩
 else if a.kind = 2 ∧ (doW a.op 0 1).2 = true ∧ thereB l a.x = true ∧ thereB l a.y = true then ⟨2, 0, a.op, a.x, a.y, 0⟩
 else if a.kind = 3 ∧ thereB l a.x = true then ⟨3, 0, 0, a.x, 0, 0⟩ else noMd
def rval (v : List Nat) (acc : List (Option Nat)) (a : Md) : Option Nat :=
 if a.kind = 0 then some a.c else if a.kind = 1 then some (v[a.i.toNat]?.getD 0) else if a.kind = 2 then aluV a.op acc[a.x.toNat]?.join acc[a.y.toNat]?.join
 else if a.kind = 3 then (acc[a.x.toNat]?.join).map negW else none
def refs (v : List Nat) (l : List Md) : List (Option Nat) := l.foldl (fun acc a => acc ++ [rval v acc a]) []
section
variable {v : List Nat} {l : List Md}
theorem refs_snoc (l : List Md) (a : Md) : refs v (l ++ [a]) = refs v l ++ [rval v (refs v l) a] := by simp [refs]
theorem refs_len : ∀ l : List Md, (refs v l).length = l.length := by
 intro l
 have : ∀ (l : List Md) (acc : List (Option Nat)), (l.foldl (fun acc a => acc ++ [rval v acc a]) acc).length = acc.length + l.length := fun l => by
  induction l with
  | nil => intro acc; rfl
  | cons a l ih => intro acc; simp only [List.foldl_cons, ih]; simp; omega
 simpa [refs] using this l []
def mdOk (l : List Md) : Prop := ∀ (i : Nat) (a : Md), l[i]? = some a → a.c < 4294967296 ∧ (a.kind = 0 ∨ a.kind = 1 ∧ 0 ≤ a.i ∧ a.i < 34 ∨ a.kind = 2 ∧ 0 ≤ a.x ∧ a.x < i ∧ 0 ≤ a.y ∧ a.y < i ∨ a.kind = 3 ∧ 0 ≤ a.x ∧ a.x < i ∨ a.kind = 4)
end
end Go.Ev
/- Values made one by one. -/
namespace Go.Ev
open Go Go.RowKit
variable {G : Tbl}
set_option maxRecDepth 10000
set_option maxHeartbeats 4000000
set_option linter.unusedSimpArgs false
set_option linter.unusedVariables false
variable {H : Heap} {b z m : Nat} {L : List Nd}
def atI (l : List Int) (i : Int) : Int := if 0 ≤ i ∧ i < l.length then l[i.toNat]?.getD 0 else -1
structure MS where
 L : List Nd
 ids : List Int
 made : List Md
noncomputable def makeR (s : MS) (a : Md) : Int × List Nd :=
 if a.kind = 0 then putN s.L (sumNd (a.c :: zeros 34)) else if a.kind = 1 then varN s.L a.i else if a.kind = 2 then bAlu s.L a.op (atI s.ids a.x) (atI s.ids a.y)
 else if a.kind = 3 then bNeg s.L (atI s.ids a.x) else (-1, s.L)
noncomputable def makeS (s : MS) (a : Md) : MS := ⟨(makeR s a).2, s.ids ++ [(makeR s a).1], s.made ++ [nextM s.made a]⟩
theorem both_ext {kind : Int} {a c : Nd} (h : Inv L) (ha : a.wf) (hc : c.wf) : Ext L (bothN L kind a c).2.2 1 := by
 cases e1 : asB a with
 | none => simp only [bothN, e1, noR]; exact .refl h 1
 | some p =>
  cases e2 : asB c with
  | none => simp only [bothN, e1, e2, noR]; exact .refl h 1
  | some q =>
   cases e3 : bdo kind p q with
   | none => simp only [bothN, e1, e2, e3, noR]; exact .refl h 1
   | some r =>
    simp only [bothN, e1, e2, e3, okP]
    obtain ⟨_, hR, hw, _⟩ := bdo_some e3
    exact (bits_ext h hR hw).1
theorem deed_good {kind : Int} {x y n : Nat} (hk : (doW kind 0 1).2 = true) (hx : x < n) (hy : y < n) : (deedNd kind x y).good n :=
 ⟨⟨rfl, rfl, rfl⟩, ⟨zeros_lt 35, fun h => by cases h⟩, .inr (.inr ⟨rfl, hx, hy, hk⟩)⟩
theorem alu_ext {kind x y : Int} (h : Inv L) : Ext L (bAlu L kind x y).2 2 := by
 rw [bAlu]
 split
 case isFalse => exact .refl h 2
 rename_i hk
 obtain ⟨hk, hx, hy⟩ := hk
 obtain ⟨hx0, hx1⟩ : 0 ≤ x ∧ x < L.length := by simpa [hasI] using hx
 obtain ⟨hy0, hy1⟩ : 0 ≤ y ∧ y < L.length := by simpa [hasI] using hy
 obtain ⟨xn, rfl⟩ := Int.eq_ofNat_of_zero_le hx0
 obtain ⟨yn, rfl⟩ := Int.eq_ofNat_of_zero_le hy0
 obtain ⟨a, ha⟩ : ∃ a, L[xn]? = some a := ⟨_, get_in (by omega)⟩
 obtain ⟨c, hc⟩ : ∃ c, L[yn]? = some c := ⟨_, get_in (by omega)⟩
 have hga := h.good _ _ ha
 have hgc := h.good _ _ hc
 simp only [Int.toNat_natCast, ha, hc, bAlu2]
 have e1 := sums_ext (kind := kind) h hga.1 hgc.1 hga.2.1 hgc.2.1
 have e2 := both_ext (kind := kind) e1.inv hga.2.1 hgc.2.1
 have l1 := e1.pre.length_le
 split
 ·exact e1.mono (by omega)
 ·split
  ·exact e1.trans e2
  ·split
   ·exact e1.mono (by omega)
   ·split
    ·exact e1.mono (by omega)
    ·split
     ·exact e1.trans (put_ext e1.inv (deed_good hk (by omega) (by omega))).1
     ·exact e1.trans (put_ext e1.inv (deed_good hk (by omega) (by omega))).1
theorem var_ext {i : Int} (h : Inv L) : Ext L (varN L i).2 1 := by
 rw [varN]
 split
 ·exact (put_ext h (sum_good (varL_len _) (varL_lt _) _)).1
 ·exact .refl h 1
theorem neg_ext {x : Int} (h : Inv L) : Ext L (bNeg L x).2 3 := by
 rw [bNeg]
 split
 ·exact (zero_ext h).trans (alu_ext (zero_ext h).inv)
 ·exact .refl h 3
theorem make_ext {s : MS} {a : Md} (h : Inv s.L) (hc : a.c < 4294967296) : Ext s.L (makeS s a).L 3 := by
 show Ext s.L (makeR s a).2 3
 rw [makeR]
 split
 ·exact (put_ext h (sum_good (by simp) (const_lt hc) _)).1.mono (by omega)
 ·split
  ·exact (var_ext h).mono (by omega)
  ·split
   ·exact (alu_ext h).mono (by omega)
   ·split
    ·exact neg_ext h
    ·exact .refl h 3
noncomputable def makeAll (s : MS) (l : List Md) : MS := l.foldl makeS s
end Go.Ev
/- Numbers of sums, bits and deeds: plain laws. -/
namespace Go.Ev
open Go Go.RowKit
set_option maxRecDepth 10000
set_option maxHeartbeats 4000000
set_option linter.unusedSimpArgs false
set_option linter.unusedVariables false
variable {L : List Nd} {v : List Nat}
/-! Sums of multiples. -/
def dot : List Nat → List Nat → Int
 | a :: f, b :: v => a * b + dot f v
 | _, _ => 0
theorem dot_sum : ∀ (f v : List Nat), ((List.zipWith (· * ·) f v).sum : Nat) = dot f v
 | [], _ => by simp [dot]
 | _ :: _, [] => by simp [dot]
 | a :: f, b :: v => by
  have := dot_sum f v
  simp only [List.zipWith_cons_cons, List.sum_cons, dot]
  omega
theorem fEval_dot {c : Nat} {t : List Nat} (ht : t.length = 34) (hv : v.length = 34) : (fEval (c :: t) v : Int) = ((c : Int) + dot t v) % 4294967296 := by
 have e : (fSum (c :: t) v 34 : Int) = dot t v := by
  rw [fSum, List.drop_one, List.tail_cons, List.take_of_length_le (by simp [ht, hv]), dot_sum]
 rw [fEval, List.headD_cons]
 rw [← e]
 omega
def Cong (a b : Int) : Prop := ∃ k : Int, a = b + 4294967296 * k
theorem cong_mod (a : Nat) : ∃ q : Int, ((a % 4294967296 : Nat) : Int) = (a : Int) - 4294967296 * q := ⟨((a / 4294967296 : Nat) : Int), by omega⟩
theorem dot_add : ∀ (f g v : List Nat), f.length = g.length → Cong (dot (fAdd f g) v) (dot f v + dot g v)
 | [], [], v, _ => ⟨0, by simp [fAdd, dot]⟩
 | [], _ :: _, _, h => by simp at h
 | _ :: _, [], _, h => by simp at h
 | _ :: _, _ :: _, [], _ => ⟨0, by simp [fAdd, dot]⟩
 | a :: f, b :: g, x :: v, h => by
  obtain ⟨k, hk⟩ := dot_add f g v (by simpa using h)
  obtain ⟨q, hq⟩ := cong_mod (a + b)
  refine ⟨k - q * x, ?_⟩
  simp only [fAdd, List.zipWith_cons_cons, dot] at hk ⊢
  rw [hk, hq]
  simp only [Int.natCast_add]
  grind
theorem dot_sub : ∀ (f g v : List Nat), f.length = g.length → (∀ x ∈ g, x < 4294967296) → Cong (dot (fSub f g) v) (dot f v - dot g v)
 | [], [], v, _, _ => ⟨0, by simp [fSub, dot]⟩
 | [], _ :: _, _, h, _ => by simp at h
 | _ :: _, [], _, h, _ => by simp at h
 | _ :: _, _ :: _, [], _, _ => ⟨0, by simp [fSub, dot]⟩
 | a :: f, b :: g, x :: v, h, hg => by
  obtain ⟨k, hk⟩ := dot_sub f g v (by simpa using h) fun y hy => hg y (by simp [hy])
  obtain ⟨q, hq⟩ := cong_mod (a + 4294967296 - b)
  have hb := hg b (by simp)
  have e : ((a + 4294967296 - b : Nat) : Int) = (a : Int) + 4294967296 - b := by omega
  rw [e] at hq
  refine ⟨k - q * x + x, ?_⟩
  simp only [fSub, List.zipWith_cons_cons, dot] at hk ⊢
  rw [hk, hq]
  grind
theorem dot_mul (k : Nat) : ∀ (f v : List Nat), Cong (dot (fMul f k) v) (dot f v * k)
 | [], v => ⟨0, by simp [fMul, dot]⟩
 | _ :: _, [] => ⟨0, by simp [fMul, dot]⟩
 | a :: f, x :: v => by
  obtain ⟨j, hj⟩ := dot_mul k f v
  obtain ⟨q, hq⟩ := cong_mod (a * k)
  refine ⟨j - q * x, ?_⟩
  simp only [fMul, List.map_cons, dot] at hj ⊢
  rw [hj, hq]
  simp only [Int.natCast_mul]
  grind
theorem head_tail {f : List Nat} (hf : f.length = 35) : ∃ c t, f = c :: t ∧ t.length = 34 := by
 match f, hf with
 | c :: t, h => exact ⟨c, t, rfl, by simpa using h⟩
theorem fEval_add {f g : List Nat} (hf : f.length = 35) (hg : g.length = 35) (hv : v.length = 34) : fEval (fAdd f g) v = (fEval f v + fEval g v) % 4294967296 := by
 obtain ⟨c, t, rfl, ht⟩ := head_tail hf
 obtain ⟨d, u, rfl, hu⟩ := head_tail hg
 have e : fAdd (c :: t) (d :: u) = ((c + d) % 4294967296) :: fAdd t u := rfl
 have h1 := fEval_dot (c := c) ht hv
 have h2 := fEval_dot (c := d) hu hv
 have h3 := fEval_dot (c := (c + d) % 4294967296) (t := fAdd t u) (v := v) (by simp [fAdd, ht, hu]) hv
 obtain ⟨k, hk⟩ := dot_add t u v (by omega)
 rw [hk] at h3
 rw [e]
 omega
theorem fEval_sub {f g : List Nat} (hf : f.length = 35) (hg : g.length = 35) (hgw : ∀ x ∈ g, x < 4294967296) (hv : v.length = 34) : fEval (fSub f g) v = (fEval f v + 4294967296 - fEval g v) % 4294967296 := by
 obtain ⟨c, t, rfl, ht⟩ := head_tail hf
 obtain ⟨d, u, rfl, hu⟩ := head_tail hg
 have e : fSub (c :: t) (d :: u) = ((c + 4294967296 - d) % 4294967296) :: fSub t u := rfl
 have h1 := fEval_dot (c := c) ht hv
 have h2 := fEval_dot (c := d) hu hv
 have h3 := fEval_dot (c := (c + 4294967296 - d) % 4294967296) (t := fSub t u) (v := v) (by simp [fSub, ht, hu]) hv
 obtain ⟨k, hk⟩ := dot_sub t u v (by omega) fun x hx => hgw x (by simp [hx])
 have hd := hgw d (by simp)
 rw [hk] at h3
 rw [e]
 omega
theorem fEval_mul {f : List Nat} (k : Nat) (hf : f.length = 35) (hv : v.length = 34) : fEval (fMul f k) v = fEval f v * k % 4294967296 := by
 obtain ⟨c, t, rfl, ht⟩ := head_tail hf
 have e : fMul (c :: t) k = (c * k % 4294967296) :: fMul t k := rfl
 have h1 := fEval_dot (c := c) ht hv
 have h3 := fEval_dot (c := c * k % 4294967296) (t := fMul t k) (v := v) (by simp [fMul, ht]) hv
 obtain ⟨j, hj⟩ := dot_mul k t v
 obtain ⟨q, hq⟩ := cong_mod (c * k)
 rw [hj, hq] at h3
 rw [e]
 have h5 : (fEval (c * k % 4294967296 :: fMul t k) v : Int) = ((c + dot t v) * k) % 4294967296 := by
  rw [h3]
  have : ((c * k : Nat) : Int) - 4294967296 * q + (dot t v * k + 4294967296 * j) = (c + dot t v) * k + 4294967296 * (j - q) := by simp only [Int.natCast_mul]; grind
  rw [this, Int.add_mul_emod_self_left]
 have h6 : ((fEval (c :: t) v * k % 4294967296 : Nat) : Int) = ((c + dot t v) * k) % 4294967296 := by
  rw [Int.natCast_emod, Int.natCast_mul, h1, show ((4294967296 : Nat) : Int) = 4294967296 from rfl, Int.mul_emod, Int.emod_emod, ← Int.mul_emod]
 omega
theorem dot_zeros : ∀ (n : Nat) (v : List Nat), dot (zeros n) v = 0
 | 0, _ => by simp [zeros, dot]
 | n + 1, [] => by simp [zeros, List.replicate_succ, dot]
 | n + 1, x :: v => by
  have := dot_zeros n v
  simp only [zeros, List.replicate_succ, dot] at this ⊢
  omega
theorem fEval_const {c : Nat} (hc : c < 4294967296) (hv : v.length = 34) : fEval (c :: zeros 34) v = c := by
 have h := fEval_dot (c := c) (t := zeros 34) (v := v) (by simp) hv
 rw [dot_zeros] at h
 omega
theorem dot_one : ∀ (n i : Nat) (v : List Nat) (h : i < v.length), i < n → dot ((zeros n).set i 1) v = (v[i] : Nat)
 | 0, i, v, h, hi => by omega
 | n + 1, i, [], h, hi => by simp at h
 | n + 1, 0, x :: v, h, hi => by
  have := dot_zeros n v
  simp only [zeros, List.replicate_succ, List.set_cons_zero, dot, List.getElem_cons_zero] at this ⊢
  omega
 | n + 1, i + 1, x :: v, h, hi => by
  have := dot_one n i v (by simpa using h) (by omega)
  simp only [zeros, List.replicate_succ, List.set_cons_succ, dot, List.getElem_cons_succ] at this ⊢
  omega
theorem fEval_var {i : Nat} (hi : i < 34) (hv : v.length = 34) (hw : ∀ x ∈ v, x < 4294967296) : fEval (varL i) v = v[i]'(by omega) := by
 have e : varL i = 0 :: (zeros 34).set i 1 := rfl
 have h := fEval_dot (c := 0) (t := (zeros 34).set i 1) (v := v) (by simp) hv
 have h2 := hw _ (List.getElem_mem (show i < v.length by omega))
 rw [dot_one 34 i v (by omega) hi] at h
 rw [e]
 omega
end Go.Ev
