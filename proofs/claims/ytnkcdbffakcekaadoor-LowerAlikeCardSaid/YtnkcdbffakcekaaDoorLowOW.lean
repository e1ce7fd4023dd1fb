/- A policy's code: plain. -/
import Derived.Test.YtnkcdbffakcekaaDoorInsAW
import Derived.Test.YtnkcdbffakcekaaDoorEvLowCW
set_option linter.unusedVariables false
set_option linter.unusedSimpArgs false
namespace Go.Ev
open Go Go.RowKit
set_option maxRecDepth 10000
set_option maxHeartbeats 2000000
set_option linter.unusedSimpArgs false
set_option linter.unusedVariables false
def addNew (l : List Nat) (a : Nat) : List Nat := if a ∈ l then l else l ++ [a]
def firsts (l : List Nat) : List Nat := l.foldl addNew []
theorem firsts_snoc (l : List Nat) (a : Nat) : firsts (l ++ [a]) = addNew (firsts l) a := by simp [firsts, List.foldl_append]
theorem foldNew_mem (a : Nat) : ∀ (l acc : List Nat), a ∈ l.foldl addNew acc ↔ a ∈ acc ∨ a ∈ l
 | [], acc => by simp
 | b :: l, acc => by
  rw [List.foldl_cons, foldNew_mem a l]
  unfold addNew
  split
  ·rename_i h
   rw [List.mem_cons]
   constructor
   ·rintro (h1 | h1)
    ·exact .inl h1
    ·exact .inr (.inr h1)
   ·rintro (h1 | rfl | h1)
    ·exact .inl h1
    ·exact .inl h
    ·exact .inr h1
  ·simp [or_assoc]
theorem firsts_mem (l : List Nat) (a : Nat) : a ∈ firsts l ↔ a ∈ l := by rw [firsts, foldNew_mem]; simp
theorem foldNew_nodup : ∀ (l acc : List Nat), acc.Nodup → (l.foldl addNew acc).Nodup
 | [], acc, h => h
 | b :: l, acc, h => by
  rw [List.foldl_cons]
  refine foldNew_nodup l _ ?_
  unfold addNew
  split
  ·exact h
  ·rename_i hn
   rw [List.nodup_append]
   exact ⟨h, by simp, fun x hx y hy e => hn (by rw [List.mem_singleton] at hy; rw [← hy, ← e]; exact hx)⟩
theorem firsts_nodup (l : List Nat) : (firsts l).Nodup := foldNew_nodup l [] (by simp)
theorem foldNew_len : ∀ (l acc : List Nat), (l.foldl addNew acc).length ≤ acc.length + l.length
 | [], acc => by simp
 | b :: l, acc => by
  rw [List.foldl_cons]
  have := foldNew_len l (addNew acc b)
  have h2 : (addNew acc b).length ≤ acc.length + 1 := by unfold addNew; split <;> simp
  simp only [List.length_cons]; omega
def insS (x : Nat) (l : List Nat) : List Nat := l.takeWhile (fun y => decide (y ≤ x)) ++ x :: l.dropWhile (fun y => decide (y ≤ x))
def sortS (l : List Nat) : List Nat := l.foldl (fun out x => insS x out) []
theorem insS_perm (x : Nat) (l : List Nat) : (insS x l).Perm (x :: l) := by
 unfold insS
 refine List.perm_middle.trans ?_
 rw [List.takeWhile_append_dropWhile]
theorem foldS_perm : ∀ (l out : List Nat), (l.foldl (fun out x => insS x out) out).Perm (out ++ l)
 | [], out => by simp
 | x :: l, out => by
  rw [List.foldl_cons]
  refine (foldS_perm l _).trans ?_
  refine ((insS_perm x out).append_right l).trans ?_
  rw [List.cons_append]
  exact List.perm_middle.symm
theorem sortS_perm (l : List Nat) : (sortS l).Perm l := by have := foldS_perm l []; simpa [sortS] using this
theorem drop_gt (x : Nat) : ∀ {l : List Nat}, l.Pairwise (· ≤ ·) → ∀ y ∈ l.dropWhile (fun y => decide (y ≤ x)), x ≤ y
 | [], _, y, hy => by simp at hy
 | b :: l, h, y, hy => by
  rw [List.dropWhile_cons] at hy
  split at hy
  ·exact drop_gt x (List.pairwise_cons.1 h).2 y hy
  ·rename_i hb
   simp only [decide_eq_true_eq] at hb
   rcases List.mem_cons.1 hy with rfl | hy
   ·omega
   ·have := (List.pairwise_cons.1 h).1 y hy; omega
theorem take_le (x : Nat) : ∀ {l : List Nat}, ∀ y ∈ l.takeWhile (fun y => decide (y ≤ x)), y ≤ x
 | [], y, hy => by simp at hy
 | b :: l, y, hy => by
  rw [List.takeWhile_cons] at hy
  split at hy
  ·rename_i hb
   simp only [decide_eq_true_eq] at hb
   rcases List.mem_cons.1 hy with rfl | hy
   ·exact hb
   ·exact take_le x y hy
  ·simp at hy
theorem insS_sorted (x : Nat) {l : List Nat} (h : l.Pairwise (· ≤ ·)) : (insS x l).Pairwise (· ≤ ·) := by
 have h' := h
 rw [← List.takeWhile_append_dropWhile (p := fun y => decide (y ≤ x)) (l := l), List.pairwise_append] at h'
 obtain ⟨h1, h2, h3⟩ := h'
 unfold insS
 rw [List.pairwise_append, List.pairwise_cons]
 refine ⟨h1, ⟨drop_gt x h, h2⟩, fun a ha b hb => ?_⟩
 rcases List.mem_cons.1 hb with rfl | hb
 ·exact take_le _ a ha
 ·exact h3 a ha b hb
theorem foldS_sorted : ∀ (l out : List Nat), out.Pairwise (· ≤ ·) → (l.foldl (fun out x => insS x out) out).Pairwise (· ≤ ·)
 | [], out, h => h
 | x :: l, out, h => foldS_sorted l _ (insS_sorted x h)
theorem sortS_strict {l : List Nat} (h : l.Nodup) : (sortS l).Pairwise (· < ·) := by
 have h1 := foldS_sorted l [] List.Pairwise.nil
 have h2 : (sortS l).Nodup := (sortS_perm l).nodup_iff.2 h
 refine List.Pairwise.imp₂ ?_ h1 h2
 intro a b h3 h4
 exact Nat.lt_of_le_of_ne h3 h4
def nrsOf (rs : List Ru) (a : Nat) : List Nat := firsts ((rs.filter fun r => decide (r.arch = a)).map (·.nr))
def archsOf (rs : List Ru) : List Nat := firsts (rs.map (·.arch))
def rulesAt (rs : List Ru) (a n : Nat) : List Ru := rs.filter fun r => decide (r.arch = a ∧ r.nr = n)
def entsL (R : Nat → List Ru) (o : Nat) : List Nat → List In4 → List In4 × List (Nat × Nat)
 | [], c => (c, [])
 | n :: l, c => ((entsL R o l (rulesL (R n) (c, o)).1).1, (n, (rulesL (R n) (c, o)).2) :: (entsL R o l (rulesL (R n) (c, o)).1).2)
def archC (rs : List Ru) (o a : Nat) (c : List In4) : List In4 :=
 putF (treeL (entsL (rulesAt rs a) o (sortS (nrsOf rs a)) c).2.length (entsL (rulesAt rs a) o (sortS (nrsOf rs a)) c).1 (entsL (rulesAt rs a) o (sortS (nrsOf rs a)) c).2 o).1 32 0
def rootsL (rs : List Ru) (o : Nat) : List Nat → List In4 → List In4 × List (Nat × Nat)
 | [], c => (c, [])
 | a :: l, c => ((rootsL rs o l (archC rs o a c)).1, (a, (archC rs o a c).length) :: (rootsL rs o l (archC rs o a c)).2)
def chainL : List (Nat × Nat) → CLb → CLb
 | [], s => s
 | x :: l, s => chainL l (branchL s.1 21 x.1 x.2 s.2, (branchL s.1 21 x.1 x.2 s.2).length)
def lowerL (p : Po) : List In4 :=
 if (rootsL p.rules 1 (archsOf p.rules) (putF [] 6 p.dflt)).2 = [] then (chainL (rootsL p.rules 1 (archsOf p.rules) (putF [] 6 p.dflt)).2 ((rootsL p.rules 1 (archsOf p.rules) (putF [] 6 p.dflt)).1, 1)).1
 else putF (chainL (rootsL p.rules 1 (archsOf p.rules) (putF [] 6 p.dflt)).2 ((rootsL p.rules 1 (archsOf p.rules) (putF [] 6 p.dflt)).1, 1)).1 32 4
def wsum (w : Ru → Nat) : List Ru → Nat
 | [] => 0
 | r :: l => w r + wsum w l
def costW (r : Ru) : Nat := 1 + 13 * r.conds.length
theorem costR_w : ∀ l : List Ru, costR l = wsum costW l
 | [] => rfl
 | r :: l => by rw [costR, wsum, costR_w l, costW]
def sumF {α : Type} (g : α → Nat) : List α → Nat
 | [] => 0
 | x :: l => g x + sumF g l
theorem sumF_one (g : Nat → Nat) (k c : Nat) : ∀ {l : List Nat}, l.Nodup → sumF (fun n => (if k = n then c else 0) + g n) l ≤ c + sumF g l
 | [], _ => by simp [sumF]
 | x :: l, h => by
  rw [List.nodup_cons] at h
  simp only [sumF]
  by_cases e : k = x
  ·subst e
   have hz : ∀ {l : List Nat}, k ∉ l → sumF (fun n => (if k = n then c else 0) + g n) l = sumF g l := by
    intro l
    induction l with
    | nil => intro _; rfl
    | cons y l ih =>
     intro hn
     simp only [List.mem_cons, not_or] at hn
     simp only [sumF, if_neg hn.1, ih hn.2, Nat.zero_add]
   rw [hz h.1, if_pos rfl]; omega
  ·have ih := sumF_one g k c h.2
   rw [if_neg e]; omega
theorem sumF_le {α : Type} {f g : α → Nat} : ∀ {l : List α}, (∀ x ∈ l, f x ≤ g x) → sumF f l ≤ sumF g l
 | [], _ => Nat.le_refl _
 | x :: l, h => by
  have := sumF_le (l := l) fun y hy => h y (by simp [hy])
  have := h x (by simp)
  simp only [sumF]; omega
theorem sumF_congr {α : Type} {f g : α → Nat} : ∀ {l : List α}, (∀ x ∈ l, f x = g x) → sumF f l = sumF g l
 | [], _ => rfl
 | x :: l, h => by simp only [sumF, h x (by simp), sumF_congr (l := l) fun y hy => h y (by simp [hy])]
theorem parts_le (w : Ru → Nat) (key : Ru → Nat) {l : List Nat} (hl : l.Nodup) : ∀ rs : List Ru, sumF (fun n => wsum w (rs.filter fun r => decide (key r = n))) l ≤ wsum w rs
 | [] => by
  have : ∀ l : List Nat, sumF (fun n => wsum w ([].filter fun r => decide (key r = n))) l = 0 := by
   intro l; induction l with
   | nil => rfl
   | cons x l ih => simp only [sumF, ih]; rfl
  rw [this]; exact Nat.zero_le _
 | r :: rs => by
  have ih := parts_le w key hl rs
  have e : ∀ n, wsum w ((r :: rs).filter fun r => decide (key r = n)) = (if key r = n then w r else 0) + wsum w (rs.filter fun r => decide (key r = n)) := by
   intro n
   rw [List.filter_cons]
   by_cases h : key r = n <;> simp [h, wsum]
  rw [sumF_congr fun n _ => e n]
  have := sumF_one (fun n => wsum w (rs.filter fun r => decide (key r = n))) (key r) (w r) hl
  simp only [wsum]; omega
theorem rulesAt_eq (rs : List Ru) (a n : Nat) : rulesAt rs a n = (rs.filter fun r => decide (r.arch = a)).filter fun r => decide (r.nr = n) := by
 rw [List.filter_filter]
 unfold rulesAt
 congr 1
 funext r
 rw [Bool.eq_iff_iff]; simp [and_comm]
theorem nrsOf_len (rs : List Ru) (a : Nat) : (nrsOf rs a).length ≤ wsum (fun _ => 1) (rs.filter fun r => decide (r.arch = a)) := by
 have h : ∀ l : List Ru, wsum (fun _ => 1) l = l.length := by
  intro l; induction l with
  | nil => rfl
  | cons x l ih => simp only [wsum, ih, List.length_cons]; omega
 rw [h]
 have := foldNew_len ((rs.filter fun r => decide (r.arch = a)).map (·.nr)) []
 simpa [nrsOf, firsts] using this
section
variable {rs : List Ru} {o : Nat}
def costE (R : Nat → List Ru) (l : List Nat) : Nat := sumF (fun n => costR (R n)) l
theorem ents_came {R : Nat → List Ru} : ∀ {l : List Nat} {c : List In4}, (∀ n ∈ l, ∀ r ∈ R n, r.fine) → (1 ≤ o ∧ o ≤ c.length) → Came c ((entsL R o l c).1, o) (costE R l) ∧ labs (entsL R o l c).1 (entsL R o l c).2 ∧ (entsL R o l c).2.map (·.1) = l
 | [], c, _, h => ⟨Came.self h, by intro e he; simp [entsL] at he, rfl⟩
 | n :: l, c, hr, ho => by
  have c1 := rules_came (l := R n) (s := (c, o)) (hr n (by simp)) ho
  have g1 := c1.grown.len
  obtain ⟨i1, i2, i3⟩ := ents_came (l := l) (c := (rulesL (R n) (c, o)).1) (fun m hm => hr m (by simp [hm])) ⟨ho.1, by have := ho.2; simp only at g1; omega⟩
  have g2 := i1.grown.len
  refine ⟨⟨(c1.grown.trans i1.grown).mono (by simp [costE, sumF]), i1.lab, fun a b => i1.sound (c1.sound a (by simp only [costE, sumF] at b; simp only; omega)) (by simp only [costE, sumF] at b ⊢; simp only at g1; omega),
   fun a b => i1.ks (c1.ks a (by simp only [costE, sumF] at b; simp only; omega)) (by simp only [costE, sumF] at b ⊢; simp only at g1; omega)⟩, ?_, by simp only [entsL, List.map_cons, i3]⟩
  intro e he
  simp only [entsL, List.mem_cons] at he ⊢
  rcases he with rfl | he
  ·exact ⟨c1.lab.1, by have := c1.lab.2; simp only at g2 ⊢; omega⟩
  ·exact i2 e he
theorem ents_ind {R : Nat → List Ru} {d : Da} (hd : d.ok) {v0 : Nat} : ∀ {l : List Nat} {c : List In4}, (∀ n ∈ l, ∀ r ∈ R n, r.fine) → (1 ≤ o ∧ o ≤ c.length) → Ind d c o v0 → ∀ e ∈ (entsL R o l c).2, Ind d (entsL R o l c).1 e.2 (judgeR d v0 (R e.1))
 | [], c, _, _, _, e, he => by simp [entsL] at he
 | n :: l, c, hr, ho, h0, e, he => by
  have c1 := rules_came (l := R n) (s := (c, o)) (hr n (by simp)) ho
  have g1 := c1.grown.len
  have ho1 : 1 ≤ o ∧ o ≤ (rulesL (R n) (c, o)).1.length := ⟨ho.1, by have := ho.2; simp only at g1; omega⟩
  obtain ⟨i1, i2, i3⟩ := ents_came (R := R) (l := l) (c := (rulesL (R n) (c, o)).1) (fun m hm => hr m (by simp [hm])) ho1
  have ih := ents_ind hd (R := R) (l := l) (c := (rulesL (R n) (c, o)).1) (fun m hm => hr m (by simp [hm])) ho1 (h0.grown c1.grown ho.2)
  simp only [entsL, List.mem_cons] at he ⊢
  rcases he with rfl | he
  ·exact (rules_ind hd (l := R n) (s := (c, o)) (hr n (by simp)) ho h0).grown i1.grown c1.lab.2
  ·exact ih e he
theorem ents_len {R : Nat → List Ru} {l : List Nat} {c : List In4} (h : (entsL R o l c).2.map (·.1) = l) : (entsL R o l c).2.length = l.length := by rw [← List.length_map (f := (·.1)), h]
def costA (rs : List Ru) (a : Nat) : Nat := costE (rulesAt rs a) (sortS (nrsOf rs a)) + 6 * (nrsOf rs a).length
theorem sortS_mem {l : List Nat} {x : Nat} : x ∈ sortS l ↔ x ∈ l := (sortS_perm l).mem_iff
theorem nrs_ne {a : Nat} (h : a ∈ archsOf rs) : nrsOf rs a ≠ [] := by
 rw [archsOf, firsts_mem, List.mem_map] at h
 obtain ⟨r, hr, rfl⟩ := h
 intro e
 have : r.nr ∈ nrsOf rs r.arch := by
  rw [nrsOf, firsts_mem, List.mem_map]
  exact ⟨r, List.mem_filter.2 ⟨hr, by simp⟩, rfl⟩
 rw [e] at this; simp at this
theorem nrs_fine (hf : ∀ r ∈ rs, r.fine) {a n : Nat} (h : n ∈ nrsOf rs a) : n < 4294967296 := by
 rw [nrsOf, firsts_mem, List.mem_map] at h
 obtain ⟨r, hr, rfl⟩ := h
 exact (hf r (List.mem_filter.1 hr).1).2.2.1
theorem at_fine (hf : ∀ r ∈ rs, r.fine) {a n : Nat} : ∀ r ∈ rulesAt rs a n, r.fine := fun r hr => hf r (List.mem_filter.1 hr).1
theorem arch_came (hf : ∀ r ∈ rs, r.fine) {a : Nat} (ha : a ∈ archsOf rs) {c : List In4} (ho : 1 ≤ o ∧ o ≤ c.length) : Came c (archC rs o a c, (archC rs o a c).length) (costA rs a) := by
 obtain ⟨i1, i2, i3⟩ := ents_came (R := rulesAt rs a) (l := sortS (nrsOf rs a)) (c := c) (fun _ _ => at_fine hf) ho
 have hne : (entsL (rulesAt rs a) o (sortS (nrsOf rs a)) c).2 ≠ [] := by
  intro e
  rw [e] at i3
  have h0 := (sortS_perm (nrsOf rs a)).length_eq
  rw [← i3] at h0
  exact nrs_ne ha (List.length_eq_zero_iff.1 (by simpa using h0.symm))
 have hl := ents_len i3
 rw [(sortS_perm _).length_eq] at hl
 have hp : 0 < (nrsOf rs a).length := List.length_pos_iff.2 (nrs_ne ha)
 have t := tree_came (o := o) _ hne (Nat.le_refl _) i2 (fun e he => nrs_fine hf (a := a) (sortS_mem.1 (by rw [← i3]; exact List.mem_map.2 ⟨e, he, rfl⟩))) i1.lab
 have p := putF_came (c := (treeL (entsL (rulesAt rs a) o (sortS (nrsOf rs a)) c).2.length (entsL (rulesAt rs a) o (sortS (nrsOf rs a)) c).1 (entsL (rulesAt rs a) o (sortS (nrsOf rs a)) c).2 o).1) (op := 32) (k := 0) (.inr (.inr ⟨rfl, by decide, by decide⟩)) (by decide)
 exact ((i1.trans t).trans p).mono (by unfold costA; omega)
theorem tree_lab (n : Nat) (c : List In4) (l : List (Nat × Nat)) : (treeL (n + 1) c l o).2 = (treeL (n + 1) c l o).1.length := by
 unfold treeL
 split <;> rfl
theorem word0 (d : Da) : (wordS d 0).1 = d.nr ∧ (wordS d 4).1 = d.arch := by
 constructor <;> simp [wordS, wordsD]
theorem at_none {a n : Nat} (h : n ∉ nrsOf rs a) : rulesAt rs a n = [] := by
 rw [rulesAt, List.filter_eq_nil_iff]
 intro r hr hq
 simp only [decide_eq_true_eq] at hq
 refine h ?_
 rw [nrsOf, firsts_mem, List.mem_map]
 exact ⟨r, List.mem_filter.2 ⟨hr, by simp [hq.1]⟩, hq.2⟩
theorem arch_ind (hf : ∀ r ∈ rs, r.fine) {a : Nat} (ha : a ∈ archsOf rs) {c : List In4} (ho : 1 ≤ o ∧ o ≤ c.length) {d : Da} (hd : d.ok) {v0 : Nat} (h0 : Ind d c o v0) : Ind d (archC rs o a c) (archC rs o a c).length (judgeR d v0 (rulesAt rs a d.nr)) := by
 obtain ⟨i1, i2, i3⟩ := ents_came (R := rulesAt rs a) (l := sortS (nrsOf rs a)) (c := c) (fun _ _ => at_fine hf) ho
 have ie := ents_ind hd (R := rulesAt rs a) (l := sortS (nrsOf rs a)) (c := c) (fun _ _ => at_fine hf) ho h0
 have hne : (entsL (rulesAt rs a) o (sortS (nrsOf rs a)) c).2 ≠ [] := by
  intro e
  rw [e] at i3
  have h0 := (sortS_perm (nrsOf rs a)).length_eq
  rw [← i3] at h0
  exact nrs_ne ha (List.length_eq_zero_iff.1 (by simpa using h0.symm))
 have t := tree_dep (o := o) (a := d.nr) (v0 := v0) (vs := fun n => judgeR d v0 (rulesAt rs a n)) _ hne (Nat.le_refl _) i2 (fun e he => nrs_fine hf (a := a) (sortS_mem.1 (by rw [← i3]; exact List.mem_map.2 ⟨e, he, rfl⟩))) i1.lab
  (by rw [i3]; exact sortS_strict (firsts_nodup _)) (h0.grown i1.grown ho.2) ie
 have tc := tree_came (o := o) _ hne (Nat.le_refl _) i2 (fun e he => nrs_fine hf (a := a) (sortS_mem.1 (by rw [← i3]; exact List.mem_map.2 ⟨e, he, rfl⟩))) i1.lab
 have hlab : (treeL (entsL (rulesAt rs a) o (sortS (nrsOf rs a)) c).2.length (entsL (rulesAt rs a) o (sortS (nrsOf rs a)) c).1 (entsL (rulesAt rs a) o (sortS (nrsOf rs a)) c).2 o).2 = (treeL (entsL (rulesAt rs a) o (sortS (nrsOf rs a)) c).2.length (entsL (rulesAt rs a) o (sortS (nrsOf rs a)) c).1 (entsL (rulesAt rs a) o (sortS (nrsOf rs a)) c).2 o).1.length := by
  obtain ⟨m, hm⟩ : ∃ m, (entsL (rulesAt rs a) o (sortS (nrsOf rs a)) c).2.length = m + 1 := ⟨_, (Nat.succ_pred_eq_of_pos (List.length_pos_iff.2 hne)).symm⟩
  rw [hm]; exact tree_lab _ _ _
 have hv : lookN v0 (fun n => judgeR d v0 (rulesAt rs a n)) d.nr (entsL (rulesAt rs a) o (sortS (nrsOf rs a)) c).2 = judgeR d v0 (rulesAt rs a d.nr) := by
  unfold lookN
  rw [i3]
  split
  ·rfl
  ·rename_i h
   rw [at_none (fun hm => h (sortS_mem.2 hm))]; rfl
 intro s hs
 rw [sfx_all, archC, ld_run, (word0 d).1]
 have := t { s with a := d.nr } (St.ok_a hs hd.1) rfl
 rw [hlab, sfx_all, hv] at this
 exact this
def costRt (rs : List Ru) (l : List Nat) : Nat := sumF (costA rs) l
theorem roots_came (hf : ∀ r ∈ rs, r.fine) : ∀ {l : List Nat} {c : List In4}, (∀ a ∈ l, a ∈ archsOf rs) → (1 ≤ o ∧ o ≤ c.length) → Came c ((rootsL rs o l c).1, o) (costRt rs l) ∧ labs (rootsL rs o l c).1 (rootsL rs o l c).2 ∧ (rootsL rs o l c).2.map (·.1) = l
 | [], c, _, h => ⟨Came.self h, by intro e he; simp [rootsL] at he, rfl⟩
 | a :: l, c, hl, ho => by
  have c1 := arch_came hf (hl a (by simp)) ho
  have g1 := c1.grown.len
  obtain ⟨i1, i2, i3⟩ := roots_came hf (l := l) (c := archC rs o a c) (fun m hm => hl m (by simp [hm])) ⟨ho.1, by have := ho.2; simp only at g1; omega⟩
  have g2 := i1.grown.len
  refine ⟨⟨(c1.grown.trans i1.grown).mono (by simp [costRt, sumF]), i1.lab, fun a b => i1.sound (c1.sound a (by simp only [costRt, sumF] at b; omega)) (by simp only [costRt, sumF] at b ⊢; simp only at g1; omega),
   fun a b => i1.ks (c1.ks a (by simp only [costRt, sumF] at b; omega)) (by simp only [costRt, sumF] at b ⊢; simp only at g1; omega)⟩, ?_, by simp only [rootsL, List.map_cons, i3]⟩
  intro e he
  simp only [rootsL, List.mem_cons] at he ⊢
  rcases he with rfl | he
  ·exact ⟨c1.lab.1, by have := c1.lab.2; simp only at g2 ⊢; omega⟩
  ·exact i2 e he
theorem roots_ind (hf : ∀ r ∈ rs, r.fine) {d : Da} (hd : d.ok) {v0 : Nat} : ∀ {l : List Nat} {c : List In4}, (∀ a ∈ l, a ∈ archsOf rs) → (1 ≤ o ∧ o ≤ c.length) → Ind d c o v0 → ∀ e ∈ (rootsL rs o l c).2, Ind d (rootsL rs o l c).1 e.2 (judgeR d v0 (rulesAt rs e.1 d.nr))
 | [], c, _, _, _, e, he => by simp [rootsL] at he
 | a :: l, c, hl, ho, h0, e, he => by
  have c1 := arch_came hf (hl a (by simp)) ho
  have g1 := c1.grown.len
  have ho1 : 1 ≤ o ∧ o ≤ (archC rs o a c).length := ⟨ho.1, by have := ho.2; simp only at g1; omega⟩
  obtain ⟨i1, i2, i3⟩ := roots_came hf (l := l) (c := archC rs o a c) (fun m hm => hl m (by simp [hm])) ho1
  have ih := roots_ind hf hd (l := l) (c := archC rs o a c) (fun m hm => hl m (by simp [hm])) ho1 (h0.grown c1.grown ho.2)
  simp only [rootsL, List.mem_cons] at he ⊢
  rcases he with rfl | he
  ·exact (arch_ind hf (hl a (by simp)) ho hd h0).grown i1.grown c1.lab.2
  ·exact ih e he
theorem chain_came : ∀ {l : List (Nat × Nat)} {s : CLb}, labs s.1 l → (∀ e ∈ l, e.1 < 4294967296) → (1 ≤ s.2 ∧ s.2 ≤ s.1.length) → Came s.1 (chainL l s) (3 * l.length)
 | [], s, _, _, h => Came.self h
 | x :: l, s, hl, hk, hs => by
  have b := branch_came (c := s.1) (op := 21) (k := x.1) (.inl rfl) (hk x (by simp)) (hl x (by simp)) hs
  have ih := chain_came (l := l) (s := (branchL s.1 21 x.1 x.2 s.2, (branchL s.1 21 x.1 x.2 s.2).length)) ((show labs s.1 l from fun e he => hl e (by simp [he])).grown b.grown) (fun e he => hk e (by simp [he])) b.lab
  exact (b.trans ih).mono (by simp only [List.length_cons]; omega)
theorem chain_dep {d : Da} {a : Nat} {vs : Nat → Nat} : ∀ {l : List (Nat × Nat)} {s : CLb} {v0 : Nat}, labs s.1 l → (∀ e ∈ l, e.1 < 4294967296) → (1 ≤ s.2 ∧ s.2 ≤ s.1.length) → Dep d s.1 s.2 a v0 → (∀ e ∈ l, Ind d s.1 e.2 (vs e.1)) → Dep d (chainL l s).1 (chainL l s).2 a (lookN v0 vs a l)
 | [], s, v0, _, _, _, h, _ => by simpa [chainL, lookN] using h
 | x :: l, s, v0, hl, hk, hs, h0, hv => by
  have b := branch_came (c := s.1) (op := 21) (k := x.1) (.inl rfl) (hk x (by simp)) (hl x (by simp)) hs
  have hd : Dep d (branchL s.1 21 x.1 x.2 s.2) (branchL s.1 21 x.1 x.2 s.2).length a (if a = x.1 then vs x.1 else v0) := by
   intro t ht ha
   rw [sfx_all, branch_run (.inl rfl) (hl x (by simp)) hs]
   simp only [takeN, if_true, ha]
   by_cases q : a = x.1
   ·simp [q]; exact hv x (by simp) t ht
   ·simp [q]; exact h0 t ht ha
  have lb := (show labs s.1 l from fun e he => hl e (by simp [he]))
  have ih := chain_dep (vs := vs) (l := l) (s := (branchL s.1 21 x.1 x.2 s.2, (branchL s.1 21 x.1 x.2 s.2).length)) (lb.grown b.grown) (fun e he => hk e (by simp [he])) b.lab hd (fun e he => (hv e (by simp [he])).grown b.grown (lb e he).2)
  have e : lookN v0 vs a (x :: l) = lookN (if a = x.1 then vs x.1 else v0) vs a l := by
   unfold lookN
   simp only [List.map_cons, List.mem_cons]
   by_cases q : a = x.1
   ·subst q; simp
   ·by_cases m : a ∈ l.map (·.1)
    ·rw [if_pos (.inr m), if_pos m]
    ·rw [if_neg (fun h => h.elim q m), if_neg m, if_neg q]
  rw [e]
  exact ih
end
def Po.fine (p : Po) : Prop := (∀ r ∈ p.rules, r.fine) ∧ p.dflt < 4294967296
def lowCost (p : Po) : Nat := costRt p.rules (archsOf p.rules) + 3 * (archsOf p.rules).length + 1
def judgeP (d : Da) (p : Po) : Nat := judgeR d p.dflt (rulesAt p.rules d.arch d.nr)
theorem wsum_le {w v : Ru → Nat} : ∀ {l : List Ru}, (∀ r ∈ l, w r ≤ v r) → wsum w l ≤ wsum v l
 | [], _ => Nat.le_refl _
 | r :: l, h => by
  have := wsum_le (l := l) fun y hy => h y (by simp [hy])
  have := h r (by simp)
  simp only [wsum]; omega
theorem wsum_add (w v : Ru → Nat) : ∀ l : List Ru, wsum (fun r => w r + v r) l = wsum w l + wsum v l
 | [] => rfl
 | r :: l => by simp only [wsum, wsum_add w v l]; omega
theorem wsum_const (k : Nat) : ∀ l : List Ru, wsum (fun _ => k) l = k * l.length
 | [] => rfl
 | r :: l => by simp only [wsum, wsum_const k l, List.length_cons, Nat.mul_add]; omega
theorem costA_le (rs : List Ru) (a : Nat) : costA rs a ≤ wsum (fun r => costW r + 6) (rs.filter fun r => decide (r.arch = a)) := by
 have h1 := parts_le costW (·.nr) (l := sortS (nrsOf rs a)) ((sortS_perm _).nodup_iff.2 (firsts_nodup _)) (rs.filter fun r => decide (r.arch = a))
 have h2 := nrsOf_len rs a
 rw [wsum_const] at h2
 rw [wsum_add, wsum_const]
 have e : costE (rulesAt rs a) (sortS (nrsOf rs a)) = sumF (fun n => wsum costW ((rs.filter fun r => decide (r.arch = a)).filter fun r => decide (r.nr = n))) (sortS (nrsOf rs a)) :=
  sumF_congr fun n _ => by rw [costR_w, rulesAt_eq]
 unfold costA
 rw [e]
 omega
theorem archs_len (rs : List Ru) : (archsOf rs).length ≤ rs.length := by
 have := foldNew_len (rs.map (·.arch)) []
 simpa [archsOf, firsts] using this
theorem lowCost_le {p : Po} (hl : p.rules.length ≤ 64) (hc : ∀ r ∈ p.rules, r.conds.length ≤ 4) : lowCost p ≤ 4095 := by
 have h1 := sumF_le (l := archsOf p.rules) fun a _ => costA_le p.rules a
 have h2 := parts_le (fun r => costW r + 6) (·.arch) (l := archsOf p.rules) (firsts_nodup _) p.rules
 have h3 := wsum_le (w := fun r => costW r + 6) (v := fun _ => 59) (l := p.rules) fun r hr => by have := hc r hr; simp only [costW]; omega
 rw [wsum_const] at h3
 have h4 := archs_len p.rules
 unfold lowCost costRt
 omega
def fitsB (d : Da) (r : Ru) : Bool := Cd.alls d r.conds && decide (r.arch = d.arch) && decide (r.nr = d.nr)
theorem judge_find (d : Da) (v0 : Nat) : ∀ rs : List Ru, judgeR d v0 (rulesAt rs d.arch d.nr) = ((rs.find? (fitsB d)).map (·.act)).getD v0
 | [] => rfl
 | r :: rs => by
  have ih := judge_find d v0 rs
  unfold rulesAt at ih ⊢
  rw [List.filter_cons, List.find?_cons]
  by_cases h : r.arch = d.arch ∧ r.nr = d.nr
  ·rw [if_pos (by simpa using h)]
   cases ha : Cd.alls d r.conds
   ·have hf : fitsB d r = false := by simp [fitsB, ha]
    simp only [judgeR, ha, hf]; simpa using ih
   ·have hf : fitsB d r = true := by simp [fitsB, ha, h]
    simp [judgeR, ha, hf]
  ·rw [if_neg (by simpa using h)]
   have hf : fitsB d r = false := by
    cases hb : fitsB d r with
    | false => rfl
    | true => simp only [fitsB, Bool.and_eq_true, decide_eq_true_eq] at hb; exact absurd ⟨hb.1.2, hb.2⟩ h
   rw [hf]; exact ih
theorem ret_sound (k : Nat) : soundF (putF [] 6 k) = true := by
 have hs : (shapeOf 6).map (fun r => (r.2.2.1, r.2.2.2)) = some (true, false) := by decide
 rw [Option.map_eq_some_iff] at hs
 obtain ⟨r, k5, k6⟩ := hs
 simp only [Prod.mk.injEq] at k6
 simp [soundF, putF, okAll, oneB, rightI, ruleB, endB, k5, k6.1, k6.2, isBr, isEnd]
 done
theorem chain_lab : ∀ {l : List (Nat × Nat)} {s : CLb}, l ≠ [] → (chainL l s).2 = (chainL l s).1.length
 | [], _, h => absurd rfl h
 | [x], s, _ => rfl
 | x :: y :: l, s, _ => chain_lab (l := y :: l) (by simp)
theorem lower_came {p : Po} (hf : p.fine) : Grown (putF [] 6 p.dflt) (lowerL p) (lowCost p) ∧ (lowCost p ≤ 4095 → soundF (lowerL p) = true ∧ kOK (lowerL p)) ∧ ∀ d : Da, d.ok → Ind d (lowerL p) (lowerL p).length (judgeP d p) := by
 obtain ⟨c1, c2, c3⟩ := roots_came (rs := p.rules) (o := 1) hf.1 (l := archsOf p.rules) (c := putF [] 6 p.dflt) (fun _ h => h) ⟨Nat.le_refl _, Nat.le_refl _⟩
 have hk : ∀ e ∈ (rootsL p.rules 1 (archsOf p.rules) (putF [] 6 p.dflt)).2, e.1 < 4294967296 := by
  intro e he
  have : e.1 ∈ archsOf p.rules := by rw [← c3]; exact List.mem_map.2 ⟨e, he, rfl⟩
  rw [archsOf, firsts_mem, List.mem_map] at this
  obtain ⟨r, hr, h⟩ := this
  rw [← h]; exact (hf.1 r hr).2.1
 have ch := chain_came (s := ((rootsL p.rules 1 (archsOf p.rules) (putF [] 6 p.dflt)).1, 1)) c2 hk c1.lab
 have hlen : (rootsL p.rules 1 (archsOf p.rules) (putF [] 6 p.dflt)).2.length = (archsOf p.rules).length := by rw [← List.length_map (f := (·.1)), c3]
 have h0 : ∀ d : Da, Ind d (putF [] 6 p.dflt) 1 p.dflt := fun d => ret_ind d [] p.dflt
 have hri : ∀ d : Da, d.ok → _ := fun d hd => roots_ind (rs := p.rules) (o := 1) hf.1 hd (l := archsOf p.rules) (c := putF [] 6 p.dflt) (fun _ h => h) ⟨Nat.le_refl _, Nat.le_refl _⟩ (h0 d)
 have hs0 := ret_sound p.dflt
 have hk0 : kOK (putF [] 6 p.dflt) := put_ks hf.2 (fun y hy => by simp at hy)
 have hl0 : (putF [] 6 p.dflt).length = 1 := rfl
 by_cases he : (rootsL p.rules 1 (archsOf p.rules) (putF [] 6 p.dflt)).2 = []
 ·have ha : archsOf p.rules = [] := by rw [← c3, he]; rfl
  have hr : p.rules = [] := by
   cases hrs : p.rules with
   | nil => rfl
   | cons r l =>
    have : r.arch ∈ archsOf p.rules := by rw [archsOf, firsts_mem]; exact List.mem_map.2 ⟨r, by rw [hrs]; simp, rfl⟩
    rw [ha] at this; simp at this
  have hL : lowerL p = putF [] 6 p.dflt := by unfold lowerL; rw [if_pos he, he, ha]; rfl
  rw [hL]
  refine ⟨(Grown.refl _).mono (Nat.zero_le _), fun _ => ⟨hs0, hk0⟩, fun d hd => ?_⟩
  have : judgeP d p = p.dflt := by unfold judgeP rulesAt; rw [hr]; rfl
  rw [this]; exact h0 d
 ·have pf := putF_came (c := (chainL (rootsL p.rules 1 (archsOf p.rules) (putF [] 6 p.dflt)).2 ((rootsL p.rules 1 (archsOf p.rules) (putF [] 6 p.dflt)).1, 1)).1) (op := 32) (k := 4) (.inr (.inr ⟨rfl, by decide, by decide⟩)) (by decide)
  have cm := ((c1.trans ch).trans pf).mono (show _ ≤ lowCost p by rw [hlen]; exact Nat.le_refl _)
  have hL : lowerL p = putF (chainL (rootsL p.rules 1 (archsOf p.rules) (putF [] 6 p.dflt)).2 ((rootsL p.rules 1 (archsOf p.rules) (putF [] 6 p.dflt)).1, 1)).1 32 4 := by unfold lowerL; rw [if_neg he]
  have hcl := chain_lab (s := ((rootsL p.rules 1 (archsOf p.rules) (putF [] 6 p.dflt)).1, 1)) he
  rw [hL]
  refine ⟨cm.grown, fun hc => ⟨cm.sound hs0 (by rw [hl0]; omega), cm.ks hk0 (by rw [hl0]; omega)⟩, fun d hd => ?_⟩
  have dp := chain_dep (a := d.arch) (vs := fun a => judgeR d p.dflt (rulesAt p.rules a d.nr)) c2 hk c1.lab ((h0 d).grown c1.grown (Nat.le_refl _) |>.dep d.arch) (hri d hd)
  intro s hs
  rw [sfx_all, ld_run, (word0 d).2]
  have := dp { s with a := d.arch } (St.ok_a hs hd.2.1) rfl
  rw [hcl, sfx_all] at this
  rw [this]
  unfold lookN judgeP
  rw [c3]
  split
  ·rfl
  ·rename_i h
   have : rulesAt p.rules d.arch d.nr = [] := by
    rw [rulesAt, List.filter_eq_nil_iff]
    intro r hr hq
    simp only [decide_eq_true_eq] at hq
    exact h (by rw [archsOf, firsts_mem, List.mem_map]; exact ⟨r, hr, hq.1⟩)
   rw [this]; rfl
end Go.Ev
/- Actions, and policies that may be: contracts. -/
namespace Go.Ev
open Go Go.RowKit
variable {G : Tbl}
set_option maxRecDepth 10000
set_option maxHeartbeats 4000000
set_option linter.unusedSimpArgs false
set_option linter.unusedVariables false
def actB (v : Nat) : Bool := decide (v = 0 ∨ v = 196608 ∨ v = 2147221504 ∨ v = 2147418112 ∨ 327680 ≤ v ∧ v ≤ 331775)
def actsM : List (List UInt8 × Int) := [([107, 105, 108, 108], 0), ([116, 114, 97, 112], 196608), ([108, 111, 103], 2147221504), ([97, 108, 108, 111, 119], 2147418112)]
theorem actions_ok [HasName G] : Big G (.F 394 [] [] (.mp 0) [some (.map (actsM.map fun p => (.str p.1, .int .u32 p.2)))]) := by
 refine F_of HasName.h_names_actions (Nat.le_of_ble_eq_true rfl) ?_
 simp [actsM]
def nameS (v : Nat) : List UInt8 := ((actsM.find? fun p => p.2 == (v : Int)).map (·.1)).getD []
theorem nameA_ok [HasName G] (v : Nat) : Big G (.F 393 [.mp 0, .int .u32 v] [some (.map (actsM.map fun p => (.str p.1, .int .u32 p.2)))] (.str (nameS v)) [some (.map (actsM.map fun p => (.str p.1, .int .u32 p.2)))]) :=
 .nat HasName.h_names_name rfl ⟨rfl, actsM, rfl, by decide, rfl⟩
theorem subU {v : Nat} (hv : v < 4294967296) : subI .u32 (v : Int) 327680 = (((v + 4294639616) % 4294967296 : Nat) : Int) := by
 unfold subI
 rw [IntKind.wrap, show IntKind.u32.signed = false from rfl]
 simp [IntKind.bits]
 omega
theorem Action_ok [HasWText G] [HasName G] (v : Nat) (hv : v < 4294967296) : ∃ s e, FP G 395 [.int .u32 v] (.tup [.str s, .int .i64 e]) ∧ (e == 0) = actB v := by
 by_cases hs : nameS v = []
 ·have hn : v ≠ 0 ∧ v ≠ 196608 ∧ v ≠ 2147221504 ∧ v ≠ 2147418112 := by
   refine ⟨?_, ?_, ?_, ?_⟩ <;> (rintro rfl; revert hs; decide)
  obtain ⟨k, hk⟩ : ∃ k, k = (v + 4294639616) % 4294967296 := ⟨_, rfl⟩
  have hsub := subU hv
  rw [← hk] at hsub
  by_cases h : k ≤ 4095
  ·have hT := Text_ok (G := G) k (by omega)
   refine ⟨[101, 114, 114, 111, 114, 58] ++ textN k, 0, ?_, ?_⟩
   ·refine FP_of HasName.h_names_Action (Nat.le_of_ble_eq_true rfl) ?_
    have hle : ((k : Int) ≤ 4095) = True := eq_true (by omega)
    have hlen : (6 + (textN k).length ≤ 9223372036854775807) = True := eq_true (by have := textA_len k 16; unfold textN; omega)
    have hc : convI .u64 (k : Int) = (k : Int) := IntWalk.u64_in _ ⟨by omega, by omega⟩
    simp
    refine callK_of actions_ok (by simp) ?_
    simp
    refine callS_of (nameA_ok v) ?_
    simp [hs, hsub, hle, hc]
    refine callP_of hT ?_
    simp [hlen]
   ·have : actB v = true := by simp [actB]; omega
    rw [this]; rfl
  ·refine ⟨[], 1, ?_, ?_⟩
   ·refine FP_of HasName.h_names_Action (Nat.le_of_ble_eq_true rfl) ?_
    have hle : ((k : Int) ≤ 4095) = False := eq_false (by omega)
    simp
    refine callK_of actions_ok (by simp) ?_
    simp
    refine callS_of (nameA_ok v) ?_
    simp [hs, hsub, hle]
   ·have : actB v = false := by simp [actB]; omega
    rw [this]; rfl
 ·refine ⟨nameS v, 0, ?_, ?_⟩
  ·refine FP_of HasName.h_names_Action (Nat.le_of_ble_eq_true rfl) ?_
   have hb : (nameS v).isEmpty = false := by simpa using hs
   simp
   refine callK_of actions_ok (by simp) ?_
   simp
   refine callS_of (nameA_ok v) ?_
   simp [hs, hb]
  ·have : actB v = true := by
    have key : ∀ l : List (List UInt8 × Int), ((l.find? fun p => p.2 == (v : Int)).map (·.1)).getD [] ≠ [] → ∃ p ∈ l, p.2 = (v : Int) := by
     intro l h
     cases hf : l.find? (fun p => p.2 == (v : Int)) with
     | none => rw [hf] at h; simp at h
     | some p => exact ⟨p, List.mem_of_find?_eq_some hf, by simpa using List.find?_some hf⟩
    obtain ⟨p, hp, he⟩ := key _ hs
    simp only [actsM, List.mem_cons, List.not_mem_nil, or_false] at hp
    rcases hp with rfl | rfl | rfl | rfl <;> simp only at he <;> simp [actB] <;> omega
   rw [this]; rfl
def Ru.cs (r : Ru) : List V := [.int .u32 (r.arch : Int), .int .u32 (r.nr : Int), .vs (CL r.conds) .no, .int .u32 (r.act : Int)]
def RL (l : List Ru) : List (List V) := l.map Ru.cs
@[simp] theorem RL_length (l : List Ru) : (RL l).length = l.length := by simp [RL]
theorem RL_get {l : List Ru} {i : Nat} {x : Ru} (h : l[i]? = some x) : (RL l)[i]? = some x.cs := by simp [RL, h]
def Po.cs (p : Po) : List V := [.vs (RL p.rules) .no, .int .u32 (p.dflt : Int)]
def mayB (r : Ru) : Bool := r.conds.all Cd.right && actB r.act && decide (r.conds.length ≤ 4)
def rightP (p : Po) : Bool := p.rules.all mayB && actB p.dflt && decide (p.rules.length ≤ 64)
theorem may_ok [HasWText G] [HasName G] [HasCondR G] [HasPol G] (r : Ru) (hl : r.conds.length ≤ maxLen) (ha : r.act < 4294967296) : FP G 405 [.agg r.cs] (.bool (mayB r)) := by
 refine FP_of HasPol.h_policy_may (Nat.le_of_ble_eq_true rfl) ?_
 obtain ⟨s, e, hA, he⟩ := Action_ok (G := G) r.act ha
 simp [Ru.cs]
 refine W_up r.conds.length (fun i => [(1, .ptr 0 0), (8, .vs (CL r.conds) .no), (9, .int .i64 r.conds.length), (10, .int .i64 i)]) (fun _ => [some (.cells r.cs)]) (fun i => (r.conds.take i).all Cd.right = true) ?_ ?_
 ·simp [keep_cl, trunc, Ru.cs]
 intro i hi hp
 unfold maxLen at hl
 by_cases hlt : i < r.conds.length
 ·obtain ⟨x, hx⟩ : ∃ x, x = r.conds[i] := ⟨_, rfl⟩
  have hg : r.conds[i]? = some x := by rw [List.getElem?_eq_getElem hlt, hx]
  have hgc := CL_get hg
  have hget : (CL r.conds)[i]'(by simpa using hlt) = x.cs := by rw [List.getElem?_eq_getElem (by simpa using hlt)] at hgc; exact Option.some.inj hgc
  have hr := CondR_ok (G := G) x
  simp only [Cd.cs] at hr hgc hget
  have ht : (r.conds.take (i + 1)).all Cd.right = ((r.conds.take i).all Cd.right && x.right) := by rw [List.take_add_one, hg]; simp
  simp (disch := omega) [ltT, get_in, hgc, hget, Ru.cs, hlt]
  refine callP_of hr ?_
  cases hx2 : x.right with
  | false =>
   have : mayB r = false := by
    have : r.conds.all Cd.right = false := by
     rw [List.all_eq_false]; exact ⟨x, List.mem_of_getElem? hg, by simp [hx2]⟩
    simp [mayB, this]
   simp [this]
  | true =>
   simp (disch := omega) [keep_cl, trunc, add1', hlt, Ru.cs, -Int.natCast_add]
   have : (r.conds.take (i + 1)).all Cd.right = true := by rw [ht, hp, hx2]; rfl
   simpa using this
 ·have : i = r.conds.length := by omega
  subst this
  rw [List.take_length] at hp
  have l4 : ((r.conds.length : Int) ≤ 4) = (r.conds.length ≤ 4) := by rw [eq_iff_iff]; omega
  simp (disch := omega) [ltF, keep_cl, trunc, Ru.cs]
  refine callP_of hA ?_
  cases hb : actB r.act with
  | true =>
   rw [hb] at he
   simp only [beq_iff_eq] at he
   subst he
   simp [mayB, hp, hb, l4]
  | false =>
   rw [hb] at he
   simp [mayB, hp, hb, he]
theorem polRight_ok [HasWText G] [HasName G] [HasCondR G] [HasPol G] (p : Po) (hl : p.rules.length ≤ maxLen) (hr : ∀ r ∈ p.rules, r.conds.length ≤ maxLen ∧ r.act < 4294967296) (hd : p.dflt < 4294967296) : FP G 406 [.agg p.cs] (.bool (rightP p)) := by
 refine FP_of HasPol.h_policy_Right (Nat.le_of_ble_eq_true rfl) ?_
 obtain ⟨s, e, hA, he⟩ := Action_ok (G := G) p.dflt hd
 simp [Po.cs]
 refine W_up p.rules.length (fun i => [(1, .ptr 0 0), (8, .vs (RL p.rules) .no), (9, .int .i64 p.rules.length), (10, .int .i64 i)]) (fun _ => [some (.cells p.cs)]) (fun i => (p.rules.take i).all mayB = true) ?_ ?_
 ·simp [keep_cl, trunc, Po.cs]
 intro i hi hp
 unfold maxLen at hl
 by_cases hlt : i < p.rules.length
 ·obtain ⟨x, hx⟩ : ∃ x, x = p.rules[i] := ⟨_, rfl⟩
  have hg : p.rules[i]? = some x := by rw [List.getElem?_eq_getElem hlt, hx]
  have hgc := RL_get hg
  have hget : (RL p.rules)[i]'(by simpa using hlt) = x.cs := by rw [List.getElem?_eq_getElem (by simpa using hlt)] at hgc; exact Option.some.inj hgc
  have hxm := hr x (List.mem_of_getElem? hg)
  have hm := may_ok (G := G) x hxm.1 hxm.2
  simp only [Ru.cs] at hm hgc hget
  have ht : (p.rules.take (i + 1)).all mayB = ((p.rules.take i).all mayB && mayB x) := by rw [List.take_add_one, hg]; simp
  simp (disch := omega) [ltT, get_in, hgc, hget, Po.cs, hlt]
  refine callP_of hm ?_
  cases hx2 : mayB x with
  | false =>
   have : rightP p = false := by
    have : p.rules.all mayB = false := by
     rw [List.all_eq_false]; exact ⟨x, List.mem_of_getElem? hg, by simp [hx2]⟩
    simp [rightP, this]
   simp [this]
  | true =>
   simp (disch := omega) [keep_cl, trunc, add1', hlt, Po.cs, -Int.natCast_add]
   have : (p.rules.take (i + 1)).all mayB = true := by rw [ht, hp, hx2]; rfl
   simpa using this
 ·have : i = p.rules.length := by omega
  subst this
  rw [List.take_length] at hp
  have l4 : ((p.rules.length : Int) ≤ 64) = (p.rules.length ≤ 64) := by rw [eq_iff_iff]; omega
  simp (disch := omega) [ltF, keep_cl, trunc, Po.cs]
  refine callP_of hA ?_
  cases hb : actB p.dflt with
  | true =>
   rw [hb] at he
   simp only [beq_iff_eq] at he
   subst he
   simp [rightP, hp, hb, l4]
  | false =>
   rw [hb] at he
   simp [rightP, hp, hb, he]
end Go.Ev
/- Code of rules, of a search, by a maker: contracts. -/
namespace Go.Ev
open Go Go.RowKit
variable {G : Tbl}
set_option maxRecDepth 10000
set_option maxHeartbeats 4000000
set_option linter.unusedSimpArgs false
set_option linter.unusedVariables false
section
variable {H : Heap} {b : Nat} {c : List In4}
theorem mkSet_self (h : Mkr H b c .no) : mkSet H b c = H := set_same h.hb
theorem drop_at {α : Type} {l : List α} {t : Nat} {y : α} (h : l[t]? = some y) : l.drop t = y :: l.drop (t + 1) := by
 obtain ⟨hlt, he⟩ := List.getElem?_eq_some_iff.1 h
 rw [List.drop_eq_getElem_cons hlt, he]
theorem costR_drop : ∀ (l : List Ru) (t : Nat), costR (l.drop t) ≤ costR l
 | [], t => by simp [costR]
 | r :: l, 0 => Nat.le_refl _
 | r :: l, t + 1 => by
  have := costR_drop l t
  simp only [List.drop_succ_cons, costR]; omega
theorem costR_len : ∀ l : List Ru, l.length ≤ costR l
 | [] => Nat.le_refl _
 | r :: l => by have := costR_len l; simp only [List.length_cons, costR]; omega
theorem rulesM_ok [HasIns G] [HasCode G] [HasMk G] [HasCondR G] [HasCondN G] [HasDataL G] [HasLow G] (h : Mkr H b c .no) (l : List Ru) (tk : Tk) (htk : ∀ n, H.length ≤ n → tk.cl n = tk) (o : Nat) (hl : ∀ r ∈ l, r.fine) (ho : 1 ≤ o ∧ o ≤ c.length) (hc : c.length + costR l ≤ 4096) :
  SF G 427 [.ptr b 0, .vs (RL l) tk, .int .i64 o] H (.int .i64 (rulesL l (c, o)).2) (mkSet H b (rulesL l (c, o)).1) := by
 refine SF_of HasLow.h_lower_maker_rules (Nat.le_of_ble_eq_true rfl) ?_
 have hlen := costR_len l
 have hsh : ∀ c', trunc H.length (mkSet H b c') = mkSet H b c' := fun c' => by have := (mkSet_shut (b := b) h.shut c').self; rwa [mkSet_len] at this
 have hlb := h.lb
 have htk0 := htk H.length (Nat.le_refl _)
 obtain ⟨S, hS⟩ : ∃ S : Nat → CLb, ∀ k, S k = rulesL (l.drop (l.length - k)) (c, o) := ⟨_, fun _ => rfl⟩
 have hS0 : S 0 = (c, o) := by rw [hS, Nat.sub_zero, List.drop_length]; rfl
 have hSl : S l.length = rulesL l (c, o) := by rw [hS, Nat.sub_self, List.drop_zero]
 have s0 : subI .i64 (l.length : Int) 1 = (l.length : Int) - 1 := subI64 (by omega) (by omega)
 have hself := mkSet_self h
 have hcame : ∀ k, Came c (S k) (costR l) := fun k => by
  rw [hS]
  exact (rules_came (s := (c, o)) (fun r hr => hl r (List.mem_of_mem_drop hr)) ho).mono (costR_drop _ _)
 simp [s0]
 refine W_up l.length (fun k => [(0, .ptr b 0), (1, .vs (RL l) tk), (2, .int .i64 (S k).2), (7, .int .i64 ((l.length : Int) - 1 - k))]) (fun k => mkSet H b (S k).1) (fun _ => True) ?_ ?_
 ·simp [keep_cl, hS0, hself, hlb, htk0, h.shut.self]
 intro k hk _
 by_cases hlt : k < l.length
 ·obtain ⟨t, ht⟩ : ∃ t, t = l.length - 1 - k := ⟨_, rfl⟩
  have htl : t < l.length := by omega
  obtain ⟨y, hy⟩ : ∃ y, y = l[t] := ⟨_, rfl⟩
  have hgy : l[t]? = some y := by rw [List.getElem?_eq_getElem htl, hy]
  have hgyc := RL_get hgy
  have hgety : (RL l)[t]'(by simpa using htl) = y.cs := by rw [List.getElem?_eq_getElem (by simpa using htl)] at hgyc; exact Option.some.inj hgyc
  have hyf := hl y (List.mem_of_getElem? hgy)
  have hst : S (k + 1) = ruleL y (S k) := by
   rw [hS, hS, show l.length - (k + 1) = t by omega, drop_at hgy, rulesL, show t + 1 = l.length - k by omega]
  have et : (l.length : Int) - 1 - k = (t : Int) := by omega
  have et2 : (l.length : Int) - 1 - ((k + 1 : Nat) : Int) = (t : Int) - 1 := by omega
  have s1 : subI .i64 (t : Int) 1 = (t : Int) - 1 := subI64 (by omega) (by omega)
  have hrest : (S k).1.length + (1 + 13 * y.conds.length) ≤ 4096 := by
   have c1 := rules_came (l := l.drop (l.length - k)) (s := (c, o)) (fun r hr => hl r (List.mem_of_mem_drop hr)) ho
   have g1 := c1.grown.len
   rw [← hS] at g1
   have c2 : costR (l.drop t) = 1 + 13 * y.conds.length + costR (l.drop (l.length - k)) := by rw [drop_at hgy, costR, show t + 1 = l.length - k by omega]
   have := costR_drop l t
   simp only at g1
   omega
  have hck := hcame k
  obtain ⟨⟨c1, o1⟩, hs1⟩ : ∃ s, s = S k := ⟨_, rfl⟩
  rw [← hs1] at hst hrest hck ⊢
  simp only at hrest hck
  have hm1 := h.set c1
  have wa := addM_ok (G := G) hm1 6 y.act (.inr (.inl rfl)) (by omega)
  rw [mkSet_mkSet] at wa
  have hpl : (putF c1 6 y.act).length = c1.length + 1 := rfl
  rw [hpl] at wa
  rw [et]
  have htk1 : tk.cl (mkSet H b c1).length = tk := by rw [mkSet_len]; exact htk0
  simp only [Ru.cs] at hgyc hgety
  simp (disch := omega) [ltT, get_in, hgyc, hgety, hlt]
  refine callSF_of wa ?_
  have s2 : subI .i64 (y.conds.length : Int) 1 = (y.conds.length : Int) - 1 := subI64 (by omega) (by omega)
  simp (disch := omega) [ltT, get_in, hgyc, hgety, hlt, s2, htk0]
  obtain ⟨T, hT⟩ : ∃ T : Nat → CLb, ∀ k, T k = condsL o1 (y.conds.drop (y.conds.length - k)) (putF c1 6 y.act, c1.length + 1) := ⟨_, fun _ => rfl⟩
  have hT0 : T 0 = (putF c1 6 y.act, c1.length + 1) := by rw [hT, Nat.sub_zero, List.drop_length]; rfl
  have hTl : T y.conds.length = S (k + 1) := by rw [hT, Nat.sub_self, List.drop_zero, hst]; rfl
  refine W_up y.conds.length (fun j => [(0, .ptr b 0), (1, .vs (RL l) tk), (2, .int .i64 o1), (7, .int .i64 t), (8, .int .i64 (T j).2), (9, .int .i64 ((y.conds.length : Int) - 1 - j))]) (fun j => mkSet H b (T j).1) (fun _ => True) ?_ ?_
  ·simp [keep_cl, hT0, hsh, hlb, htk0]
  intro j hj _
  by_cases hlj : j < y.conds.length
  ·obtain ⟨u, hu⟩ : ∃ u, u = y.conds.length - 1 - j := ⟨_, rfl⟩
   have hul : u < y.conds.length := by omega
   obtain ⟨z, hz⟩ : ∃ z, z = y.conds[u] := ⟨_, rfl⟩
   have hgz : y.conds[u]? = some z := by rw [List.getElem?_eq_getElem hul, hz]
   have hgzc := CL_get hgz
   have hgetz : (CL y.conds)[u]'(by simpa using hul) = z.cs := by rw [List.getElem?_eq_getElem (by simpa using hul)] at hgzc; exact Option.some.inj hgzc
   have hzf := hyf.1 z (List.mem_of_getElem? hgz)
   have hTs : T (j + 1) = (testL (T j).1 z (T j).2 o1, (testL (T j).1 z (T j).2 o1).length) := by
    rw [hT, hT, show y.conds.length - (j + 1) = u by omega, drop_at hgz, condsL, show u + 1 = y.conds.length - j by omega]
   have cj := conds_came (o := o1) (l := y.conds.drop (y.conds.length - j)) (s := (putF c1 6 y.act, c1.length + 1)) (fun x hx => hyf.1 x (List.mem_of_mem_drop hx)) ⟨hck.lab.1, by have := hck.lab.2; simp only [putF, List.length_cons] at this ⊢; omega⟩ ⟨by omega, Nat.le_refl _⟩
   rw [← hT] at cj
   have gj := cj.grown.len
   simp only [hpl, List.length_drop] at gj
   obtain ⟨⟨c2, o2⟩, hs2⟩ : ∃ s, s = T j := ⟨_, rfl⟩
   rw [← hs2] at hTs cj gj ⊢
   simp only at gj hTs
   have cl := cj.lab
   simp only at cl
   have ckl := hck.lab.2
   simp only at ckl
   have wt := testM_ok (G := G) (h.set c2) z o2 o1 hzf.1 hzf.2 cl ⟨hck.lab.1, by omega⟩ (by omega)
   rw [mkSet_mkSet] at wt
   have eu : (y.conds.length : Int) - 1 - j = (u : Int) := by omega
   have eu2 : (y.conds.length : Int) - 1 - ((j + 1 : Nat) : Int) = (u : Int) - 1 := by omega
   have s3 : subI .i64 (u : Int) 1 = (u : Int) - 1 := subI64 (by omega) (by omega)
   rw [eu]
   simp only [Cd.cs] at wt hgzc hgetz
   simp (disch := omega) [ltT, get_in, hgyc, hgety, hlt, hgzc, hgetz, hlj]
   refine callSF_of wt ?_
   simp (disch := omega) [keep_cl, hsh, hlb, htk0, s3, eu2, hTs, hlj, -Int.natCast_add]
  ·have : j = y.conds.length := by omega
   subst this
   have e0 : ((y.conds.length : Int) ≤ (y.conds.length : Int) - 1) = False := eq_false (by omega)
   simp (disch := omega) [keep_cl, hsh, hlb, htk0, s1, et2, hTl, e0, hlt, -Int.natCast_add]
 ·have : k = l.length := by omega
  subst this
  have e0 : ((l.length : Int) ≤ (l.length : Int) - 1) = False := eq_false (by omega)
  simp (disch := omega) [keep_cl, hsh, hlb, htk0, hSl, e0]
def EL (l : List (Nat × Nat)) : List (List V) := l.map fun e => [.int .u32 (e.1 : Int), .int .i64 (e.2 : Int)]
@[simp] theorem EL_length (l : List (Nat × Nat)) : (EL l).length = l.length := by simp [EL]
theorem EL_get {l : List (Nat × Nat)} {i : Nat} {x : Nat × Nat} (h : l[i]? = some x) : (EL l)[i]? = some [.int .u32 (x.1 : Int), .int .i64 (x.2 : Int)] := by simp [EL, h]
theorem EL_take (l : List (Nat × Nat)) (n : Nat) : (EL l).take n = EL (l.take n) := by simp [EL]
theorem EL_drop (l : List (Nat × Nat)) (n : Nat) : (EL l).drop n = EL (l.drop n) := by simp [EL]
theorem EL_sz (l : List (Nat × Nat)) : (∀ f ∈ EL l, f.length = 2) = True := by
 simp only [eq_iff_iff, iff_true]
 intro f hf
 simp only [EL, List.mem_map] at hf
 obtain ⟨x, _, rfl⟩ := hf
 rfl
theorem treeM_ok [HasIns G] [HasCode G] [HasMk G] [HasLow G] {o : Nat} : ∀ (n : Nat) {H : Heap} {b : Nat} {c : List In4} (h : Mkr H b c .no) (l : List (Nat × Nat)) (tk : Tk) (htk : ∀ n, H.length ≤ n → tk.cl n = tk) (hne : l ≠ []) (hn : l.length ≤ n) (hl : labs c l) (hk : ∀ e ∈ l, e.1 < 4294967296) (ho : 1 ≤ o ∧ o ≤ c.length) (hc : c.length + 6 * l.length ≤ 4096),
  SF G 426 [.ptr b 0, .vs (EL l) tk, .int .i64 o] H (.int .i64 (treeL n c l o).2) (mkSet H b (treeL n c l o).1)
 | 0, H, b, c, h, l, tk, htk, hne, hn, hl, hk, ho, hc => absurd (List.length_eq_zero_iff.1 (by omega)) hne
 | n + 1, H, b, c, h, l, tk, htk, hne, hn, hl, hk, ho, hc => by
  have hpos : 0 < l.length := List.length_pos_iff.2 hne
  have hsh : ∀ c', trunc H.length (mkSet H b c') = mkSet H b c' := fun c' => by have := (mkSet_shut (b := b) h.shut c').self; rwa [mkSet_len] at this
  have hlb := h.lb
  have htk0 := htk H.length (Nat.le_refl _)
  refine SF_of HasLow.h_lower_maker_tree (Nat.le_of_ble_eq_true rfl) ?_
  by_cases h1 : l.length = 1
  ·obtain ⟨e, rfl⟩ := List.length_eq_one_iff.1 h1
   have hT : treeL (n + 1) c [e] o = (branchL c 21 e.1 e.2 o, (branchL c 21 e.1 e.2 o).length) := by unfold treeL; rfl
   rw [hT]
   have w := branchM_ok (G := G) h 21 e.1 e.2 o (.inl rfl) (hl e (by simp)) ho (by simp at hc; omega)
   simp [EL]
   refine callSF_of w ?_
   simp [hsh]
  ·have e1 : ((l.length : Int) == 1) = false := by simp; omega
   obtain ⟨hf, hhf⟩ : ∃ hf, hf = l.length / 2 := ⟨_, rfl⟩
   have q1 : quoI .i64 (l.length : Int) 2 = (hf : Int) := by
    unfold quoI
    have h2 : ((l.length : Int).tdiv 2) = ((l.length / 2 : Nat) : Int) := rfl
    rw [h2, ← hhf]
    exact IntWalk.i64_in _ ⟨by omega, by omega⟩
   have l1 : (l.take hf).length = hf := by rw [List.length_take]; omega
   have l2 : (l.drop hf).length = l.length - hf := by rw [List.length_drop]
   have n1 : l.take hf ≠ [] := by intro e; rw [e] at l1; simp at l1; omega
   have n2 : l.drop hf ≠ [] := by intro e; rw [e] at l2; simp at l2; omega
   have lb1 : labs c (l.take hf) := fun e he => hl e (List.mem_of_mem_take he)
   have lb2 : labs c (l.drop hf) := fun e he => hl e (List.mem_of_mem_drop he)
   have k1 : ∀ e ∈ l.take hf, e.1 < 4294967296 := fun e he => hk e (List.mem_of_mem_take he)
   have k2 : ∀ e ∈ l.drop hf, e.1 < 4294967296 := fun e he => hk e (List.mem_of_mem_drop he)
   have c1 := tree_came n (c := c) (l := l.take hf) n1 (by omega) lb1 k1 ho
   have g1 := c1.grown.len
   have c2 := tree_came n (c := (treeL n c (l.take hf) o).1) (l := l.drop hf) n2 (by omega) (lb2.grown c1.grown) k2 ⟨ho.1, by omega⟩
   have g2 := c2.grown.len
   have lab1 := c1.lab
   have lab2 := c2.lab
   obtain ⟨k, hkq⟩ : ∃ k, k = l[hf]'(by omega) := ⟨_, rfl⟩
   have hkg : l[hf]? = some k := by rw [List.getElem?_eq_getElem (by omega), hkq]
   have hkd : l.getD hf (0, 0) = k := by rw [List.getD, hkg]; rfl
   have hgc := EL_get hkg
   have hgetc : (EL l)[hf]'(by simp; omega) = [.int .u32 (k.1 : Int), .int .i64 (k.2 : Int)] := by rw [List.getElem?_eq_getElem (by simp; omega)] at hgc; exact Option.some.inj hgc
   have i1 := fun tk htk => treeM_ok (o := o) n h (l.take hf) tk htk n1 (by omega) lb1 k1 ho (by omega)
   have i2 := fun tk htk => treeM_ok (o := o) n (h.set (treeL n c (l.take hf) o).1) (l.drop hf) tk (by rw [mkSet_len]; exact htk) n2 (by omega) (lb2.grown c1.grown) k2 ⟨ho.1, by omega⟩ (by omega)
   have hT : treeL (n + 1) c l o = (branchL (treeL n (treeL n c (l.take hf) o).1 (l.drop hf) o).1 53 k.1 (treeL n (treeL n c (l.take hf) o).1 (l.drop hf) o).2 (treeL n c (l.take hf) o).2,
    (branchL (treeL n (treeL n c (l.take hf) o).1 (l.drop hf) o).1 53 k.1 (treeL n (treeL n c (l.take hf) o).1 (l.drop hf) o).2 (treeL n c (l.take hf) o).2).length) := by
    conv => lhs; unfold treeL
    rw [if_neg h1, ← hhf, hkd]
   rw [hT]
   generalize treeL n (treeL n c (l.take hf) o).1 (l.drop hf) o = s2 at *
   generalize treeL n c (l.take hf) o = s1 at *
   have w := branchM_ok (G := G) ((h.set s1.1).set s2.1) 53 k.1 s2.2 s1.2 (.inr (.inr rfl)) lab2 ⟨lab1.1, by omega⟩ (by omega)
   simp only [mkSet_mkSet] at i2 w
   have b1 : (hf ≤ l.length) = True := eq_true (by omega)
   have b2 : ((0 : Int) ≤ (hf : Int)) = True := eq_true (by omega)
   have htl : (EL l).take l.length = EL l := List.take_of_length_le (by simp)
   have tke : ∀ (P : Prop) [Decidable P] n, (if P then Tk.full else Tk.no).cl n = if P then Tk.full else Tk.no := fun P _ n => by split <;> rfl
   have htd : (l.drop hf).take (l.length - hf) = l.drop hf := List.take_of_length_le (by omega)
   simp (disch := omega) [e1, q1, htk0, EL_sz, EL_take, EL_drop, b1]
   refine callSF_of (i1 _ (fun n _ => tke _ n)) ?_
   simp (disch := omega) [e1, q1, htk0, hlb, EL_sz, EL_take, EL_drop, b1, htd]
   refine callSF_of (i2 _ (fun n _ => tke _ n)) ?_
   simp (disch := omega) [e1, q1, htk0, hlb, EL_sz, EL_take, EL_drop, b1, get_in, hgc, hgetc]
   refine callSF_of w ?_
   simp [hsh]
end
end Go.Ev
/- Sorting: contract. -/
namespace Go.Ev
open Go Go.RowKit
variable {G : Tbl}
set_option maxRecDepth 10000
set_option maxHeartbeats 4000000
set_option linter.unusedSimpArgs false
set_option linter.unusedVariables false
theorem natsNil (k : IntKind) (l : List Nat) : (nats k l = []) = (l = []) := by simp [nats]
theorem idL_ok [HasLow G] (n : Nat) (H : Heap) : Big G (.F 424 [.int .u32 n] H (.int .u32 n) H) := by
 refine F_of HasLow.h_lower_Lower_1_1 (Nat.le_of_ble_eq_true rfl) ?_
 simp
theorem foldS_snoc (l : List Nat) (x : Nat) : sortS (l ++ [x]) = insS x (sortS l) := by simp [sortS, List.foldl_append]
theorem sortS_len (l : List Nat) : (sortS l).length = l.length := (sortS_perm l).length_eq
def insAt (x : Nat) (l : List Nat) : Nat := (l.takeWhile fun y => decide (y ≤ x)).length
theorem insAt_take (x : Nat) (l : List Nat) : l.take (insAt x l) = l.takeWhile (fun y => decide (y ≤ x)) := by
 have h := List.takeWhile_append_dropWhile (p := fun y => decide (y ≤ x)) (l := l)
 unfold insAt
 conv => lhs; arg 2; rw [← h]
 exact List.take_left' rfl
theorem insAt_drop (x : Nat) (l : List Nat) : l.drop (insAt x l) = l.dropWhile (fun y => decide (y ≤ x)) := by
 have h := List.takeWhile_append_dropWhile (p := fun y => decide (y ≤ x)) (l := l)
 unfold insAt
 conv => lhs; arg 2; rw [← h]
 exact List.drop_left' rfl
theorem insS_at (x : Nat) (l : List Nat) : insS x l = l.take (insAt x l) ++ x :: l.drop (insAt x l) := by rw [insAt_take, insAt_drop]; rfl
theorem insAt_le (x : Nat) (l : List Nat) : insAt x l ≤ l.length := by
 have := congrArg List.length (List.takeWhile_append_dropWhile (p := fun y => decide (y ≤ x)) (l := l))
 rw [List.length_append] at this
 unfold insAt
 omega
theorem insAt_lt {x : Nat} {l : List Nat} {j y : Nat} (h : j < insAt x l) (hy : l[j]? = some y) : y ≤ x := by
 refine take_le x (l := l) y ?_
 rw [← insAt_take]
 exact List.mem_of_getElem? (i := j) (by rw [List.getElem?_take, if_pos h]; exact hy)
theorem insAt_end {x : Nat} : ∀ {l : List Nat} {y : Nat}, l[insAt x l]? = some y → ¬ y ≤ x
 | [], y, h => by simp at h
 | b :: l, y, h => by
  by_cases hb : b ≤ x
  ·have e : insAt x (b :: l) = insAt x l + 1 := by simp [insAt, List.takeWhile_cons, hb]
   rw [e, List.getElem?_cons_succ] at h
   exact insAt_end h
  ·have e : insAt x (b :: l) = 0 := by simp [insAt, List.takeWhile_cons, hb]
   rw [e] at h
   simp at h
   omega
theorem sortedM_ok [HasLow G] {H : Heap} (hH : HShut H) (l : List Nat) (tk : Tk) (htk : ∀ n, H.length ≤ n → tk.cl n = tk) (hne : l ≠ []) (hl : l.length ≤ 1000000) :
  SF G 423 [.vs (nats .u32 l) tk, .fn 424 []] H (.vs (nats .u32 (sortS l)) .no) H := by
 refine SF_of HasLow.h_lower_sorted_uint32 (Nat.le_of_ble_eq_true rfl) ?_
 have ht := shut_trunc hH
 have hbk := hH.back
 have htk0 := htk H.length (Nat.le_refl _)
 obtain ⟨S, hS⟩ : ∃ S : Nat → List Nat, ∀ k, S k = sortS (l.take k) := ⟨_, fun _ => rfl⟩
 obtain ⟨tks, htks⟩ : ∃ tks : Nat → Tk, ∀ k, tks k = if k = 0 then .full else .no := ⟨_, fun _ => rfl⟩
 have hS0 : S 0 = [] := by rw [hS]; rfl
 have hSl : S l.length = sortS l := by rw [hS, List.take_length]
 have hSn : ∀ k, k ≤ l.length → (S k).length = k := fun k hk => by rw [hS, sortS_len, List.length_take]; omega
 simp
 refine W_up l.length (fun k => [(1, .fn 424 []), (5, .vs (nats .u32 (S k)) (tks k)), (9, .vs (nats .u32 l) tk), (10, .int .i64 l.length), (11, .int .i64 k)]) (fun _ => H) (fun _ => True) ?_ ?_
 ·simp [keep_cl, hS0, htks, htk0, hH.self]
 intro k hk _
 have hpos : 0 < l.length := List.length_pos_iff.2 hne
 have gk : ∀ (r : Heap) (k : Nat), (H ++ r)[H.length + k]? = r[k]? := fun r k => by rw [List.getElem?_append_right (by omega)]; congr 1; omega
 have gk0 : ∀ (r : Heap), (H ++ r)[H.length]? = r[0]? := fun r => gk r 0
 have hF1 : (H.length + 1 < H.length) = False := eq_false (by omega)
 by_cases hlt : k < l.length
 ·obtain ⟨x, hx⟩ : ∃ x, x = l[k] := ⟨_, rfl⟩
  have hg : l[k]? = some x := by rw [List.getElem?_eq_getElem hlt, hx]
  have hgn : (nats .u32 l)[k]? = some [.int .u32 (x : Int)] := by simp [hg]
  have hge : (nats .u32 l)[k]'(by simpa using hlt) = [.int .u32 (x : Int)] := by rw [List.getElem?_eq_getElem (by simpa using hlt)] at hgn; exact Option.some.inj hgn
  have hst : S (k + 1) = insS x (S k) := by rw [hS, hS, List.take_add_one, hg]; exact foldS_snoc _ _
  have hSk := hSn k hk
  have tkc : ∀ k n, (tks k).cl n = tks k := fun k n => by rw [htks]; split <;> rfl
  have htn : tks (k + 1) = .no := by rw [htks, if_neg (by omega)]
  obtain ⟨L, hL⟩ : ∃ L, L = S k := ⟨_, rfl⟩
  obtain ⟨q, hq⟩ : ∃ q, q = tks k := ⟨_, rfl⟩
  have hqc : ∀ n, q.cl n = q := fun n => by rw [hq]; exact tkc k n
  rw [← hL] at hst hSk ⊢
  rw [← hq]
  have hle := insAt_le x L
  simp (disch := omega) [ltT, get_in, hgn, hge, hlt]
  refine W_up (insAt x L) (fun j => [(1, .fn 424 []), (5, .vs (nats .u32 L) q), (7, .int .u32 x), (8, .int .i64 j), (9, .vs (nats .u32 l) tk), (10, .int .i64 l.length), (11, .int .i64 k)]) (fun _ => H) (fun _ => True) ?_ ?_
  ·simp [keep_cl, htk0, hH.self, hqc]
  intro j hj _
  by_cases hlj : j < L.length
  ·obtain ⟨y, hy⟩ : ∃ y, y = L[j] := ⟨_, rfl⟩
   have hgy : L[j]? = some y := by rw [List.getElem?_eq_getElem hlj, hy]
   have hgyn : (nats .u32 L)[j]? = some [.int .u32 (y : Int)] := by simp [hgy]
   have hgye : (nats .u32 L)[j]'(by simpa using hlj) = [.int .u32 (y : Int)] := by rw [List.getElem?_eq_getElem (by simpa using hlj)] at hgyn; exact Option.some.inj hgyn
   have hlj' : ((j : Int) < (L.length : Int)) = True := eq_true (by omega)
   simp (disch := omega) [hlj', get_in, hgyn, hgye, hlj]
   refine callV_of (idL_ok y H) (fun h => by simp at h) ?_
   simp [hH.self]
   refine callV_of (idL_ok x H) (fun h => by simp at h) ?_
   by_cases hyx : y ≤ x
   ·have hjn : j < insAt x L := by
     rcases Nat.lt_or_ge j (insAt x L) with h | h
     ·exact h
     ·have : j = insAt x L := by omega
      subst this
      exact absurd hyx (insAt_end hgy)
    have hyx' : ((y : Int) ≤ (x : Int)) = True := eq_true (by omega)
    simp (disch := omega) [hH.self, hyx', keep_cl, htk0, hqc, add1', hjn, hyx, -Int.natCast_add]
   ·have hjn : j = insAt x L := by
     rcases Nat.lt_or_ge j (insAt x L) with h | h
     ·exact absurd (insAt_lt h hgy) hyx
     ·omega
    have hyx' : ((y : Int) ≤ (x : Int)) = False := eq_false (by omega)
    have hjL : (j ≤ L.length) = True := eq_true (by omega)
    have hDn : (nats .u32 (L.drop j) = []) = False := eq_false (by rw [natsNil, List.drop_eq_nil_iff]; omega)
    have hDl : (L.drop j).length = L.length - j := List.length_drop
    have hTl : (L.take j).length = j := by rw [List.length_take]; omega
    have hby1 : ((1 + (L.length - j)) * 4 ≤ 140737488355328) = True := eq_true (by omega)
    have hby2 : ((j + (L.length - j + 1)) * 4 ≤ 140737488355328) = True := eq_true (by omega)
    have htD : (L.drop j).take (L.length - j) = L.drop j := List.take_of_length_le (by omega)
    have hins : S (k + 1) = L.take j ++ x :: L.drop j := by rw [hst, insS_at, ← hjn]
    have hne2 : (nats .u32 (x :: L.drop j) = []) = False := eq_false (by simp [nats])
    have hcons : [V.int .u32 (x : Int)] :: nats .u32 (L.drop j) = nats .u32 (x :: L.drop j) := rfl
    simp (disch := omega) [hH.self, hyx', keep_cl, htk0, hqc, hyx, hjL, nats_drop, nats_take, htD, hDn, hDl, hTl, hby1, hby2, hne2, hcons, nats_append, gk, gk0, hbk, hins, htn, add1', hlt, hF1, -Int.natCast_add]
  ·have hjl : j = L.length := by omega
   have hlj' : ((j : Int) < (L.length : Int)) = False := eq_false (by omega)
   have hjL : (j ≤ L.length) = True := eq_true (by omega)
   have hD : L.drop j = [] := List.drop_eq_nil_iff.2 (by omega)
   have hTl : (L.take j).length = j := by rw [List.length_take]; omega
   have hby2 : ((j + 1) * 4 ≤ 140737488355328) = True := eq_true (by omega)
   have hins : S (k + 1) = L.take j ++ [x] := by rw [hst, insS_at, show insAt x L = j by omega, hD]
   simp (disch := omega) [hlj', keep_cl, htk0, hqc, hH.self, hjL, nats_drop, nats_take, hD, hTl, hby2, nats_append, gk, gk0, hbk, hins, htn, add1', hlt, hF1, -Int.natCast_add]
 ·have : k = l.length := by omega
  subst this
  have e0 : tks l.length = .no := by rw [htks, if_neg (by omega)]
  simp (disch := omega) [ltF, keep_cl, hbk, hSl, e0, hH.self]
end Go.Ev
/- A machine's code: contract. -/
namespace Go.Ev
open Go Go.RowKit
variable {G : Tbl}
set_option maxRecDepth 10000
set_option maxHeartbeats 8000000
set_option linter.unusedSimpArgs false
set_option linter.unusedVariables false
theorem entsL_snoc (R : Nat → List Ru) (o : Nat) (n : Nat) : ∀ (l : List Nat) (c : List In4), entsL R o (l ++ [n]) c = ((rulesL (R n) ((entsL R o l c).1, o)).1, (entsL R o l c).2 ++ [(n, (rulesL (R n) ((entsL R o l c).1, o)).2)])
 | [], c => rfl
 | m :: l, c => by
  have ih := entsL_snoc R o n l (rulesL (R m) (c, o)).1
  simp only [List.cons_append, entsL, ih]
theorem sumF_take (g : Nat → Nat) : ∀ (l : List Nat) (k : Nat) (x : Nat), l[k]? = some x → sumF g (l.take k) + g x ≤ sumF g l
 | [], k, x, h => by simp at h
 | y :: l, 0, x, h => by simp at h; subst h; simp [sumF]
 | y :: l, k + 1, x, h => by
  have := sumF_take g l k x (by simpa using h)
  simp only [List.take_succ_cons, sumF]; omega
theorem EL_snoc (l : List (Nat × Nat)) (x : Nat × Nat) : EL l ++ [[.int .u32 (x.1 : Int), .int .i64 (x.2 : Int)]] = EL (l ++ [x]) := by simp [EL]
def Holds1 (es : List (V × V)) (a : Nat) (l : List Nat) (n : Nat) : Prop := ∃ i tk, mfind (.sc .int) (.int .u32 (a : Int)) es 0 = some (some (i, .vs (nats .u32 l) tk)) ∧ ∀ m, n ≤ m → tk.cl m = tk
def Holds2 (es : List (V × V)) (a k : Nat) (l : List Ru) (n : Nat) : Prop := ∃ i tk, mfind (.row [.int, .int]) (.agg [.int .u32 (a : Int), .int .u32 (k : Int)]) es 0 = some (some (i, .vs (RL l) tk)) ∧ ∀ m, n ≤ m → tk.cl m = tk
section
variable {H : Heap} {b : Nat} {c : List In4} {rs : List Ru}
theorem beginM_ok [HasIns G] [HasCode G] [HasMk G] [HasCondR G] [HasCondN G] [HasDataL G] [HasLow G] (h : Mkr H b c .no) {a o pn pm po px mn mo : Nat} {esN esO : List (V × V)} (hn : H[pn]? = some (some (.cells [.mp mn]))) (hm : H[pm]? = some (some (.cells [.ptr b 0])))
  (hp : H[po]? = some (some (.cells [.mp mo]))) (hx : H[px]? = i1C o) (hmn : H[mn]? = some (some (.map esN))) (hmo : H[mo]? = some (some (.map esO))) (hN : Holds1 esN a (nrsOf rs a) H.length) (hO : ∀ n ∈ nrsOf rs a, Holds2 esO a n (rulesAt rs a n) H.length)
  (hf : ∀ r ∈ rs, r.fine) (ha : a ∈ archsOf rs) (hl : rs.length ≤ 100) (ho : 1 ≤ o ∧ o ≤ c.length) (hc : c.length + costA rs a ≤ 4096) :
  SF G 425 [.int .u32 a, .ptr pn 0, .ptr pm 0, .ptr po 0, .ptr px 0] H (.int .i64 (archC rs o a c).length) (mkSet H b (archC rs o a c)) := by
 refine SF_of HasLow.h_lower_Lower_1 (Nat.le_of_ble_eq_true rfl) ?_
 have hlb := h.lb
 have hnn := nrs_ne ha
 have hnl : (nrsOf rs a).length ≤ 100 := by
  have h1 := foldNew_len ((rs.filter fun r => decide (r.arch = a)).map (·.nr)) []
  have h2 := List.length_filter_le (fun r => decide (r.arch = a)) rs
  simp only [List.length_map, List.length_nil, Nat.zero_add] at h1
  have : (nrsOf rs a).length ≤ (rs.filter fun r => decide (r.arch = a)).length := h1
  omega
 obtain ⟨iN, tkN, hN, htN⟩ := hN
 simp only [i1C] at hx
 have wS := sortedM_ok (G := G) h.shut (nrsOf rs a) tkN htN hnn (by omega)
 simp [hn, hmn, hN]
 refine callSF_of wS ?_
 have ssl := sortS_len (nrsOf rs a)
 have smem : ∀ n ∈ sortS (nrsOf rs a), n ∈ nrsOf rs a := fun n hn => sortS_mem.1 hn
 obtain ⟨sl, hsl⟩ : ∃ sl, sl = sortS (nrsOf rs a) := ⟨_, rfl⟩
 have hcame := arch_came (o := o) hf ha ho
 have hcost : costE (rulesAt rs a) sl + 6 * sl.length ≤ costA rs a := by rw [hsl, ssl]; exact Nat.le_refl _
 obtain ⟨i1, i2, i3⟩ := ents_came (o := o) (R := rulesAt rs a) (l := sl) (c := c) (fun _ _ => at_fine hf) ho
 have hel := ents_len i3
 rw [← hsl] at ssl smem ⊢
 obtain ⟨S, hS⟩ : ∃ S : Nat → List In4 × List (Nat × Nat), ∀ k, S k = entsL (rulesAt rs a) o (sl.take k) c := ⟨_, fun _ => rfl⟩
 have hS0 : S 0 = (c, []) := by rw [hS]; rfl
 have hSl : S sl.length = entsL (rulesAt rs a) o sl c := by rw [hS, List.take_length]
 have hSn : ∀ k, k ≤ sl.length → (S k).2.length = k := fun k hk => by
  obtain ⟨_, _, h3⟩ := ents_came (o := o) (R := rulesAt rs a) (l := sl.take k) (c := c) (fun _ _ => at_fine hf) ho
  rw [hS, ents_len h3, List.length_take]; omega
 have hself := mkSet_self h
 have hEL0 : EL [] = [] := rfl
 have hX : ∀ (c' : List In4) (n m : Nat), H.length + 1 ≤ m → [some (Blk.zone n)].map (Option.map (Blk.cl m)) = [some (Blk.zone n)] := fun _ _ _ _ => rfl
 have hms : ∀ (c' : List In4) (n : Nat), Mkr (mkSet H b c' ++ [some (.zone n)]) b c' .no := fun c' n => (h.set c').app (fun m hm => rfl)
 have hlen : ∀ (c' : List In4) (n : Nat), (mkSet H b c' ++ [some (Blk.zone n)]).length = H.length + 1 := fun c' n => by simp
 have hsh : ∀ (c' : List In4) (n : Nat), trunc (H.length + 1) (mkSet H b c' ++ [some (.zone n)]) = mkSet H b c' ++ [some (.zone n)] := fun c' n => by have := (hms c' n).shut.self; rwa [hlen] at this
 have hsh2 : ∀ (c' : List In4) (n : Nat) (r : Heap), trunc (H.length + 1) (mkSet H b c' ++ some (.zone n) :: r) = mkSet H b c' ++ [some (.zone n)] := fun c' n r => by
  have := (hms c' n).shut.back r; rw [hlen, List.append_assoc] at this; exact this
 have npm := h.ne hm
 have npo := h.ne hp
 have npx := h.ne hx
 have nmo : mo ≠ b := by intro e; rw [e, h.hb] at hmo; simp [mkrC] at hmo
 have lpm : pm < H.length := (List.getElem?_eq_some_iff.1 hm).1
 have lpo : po < H.length := (List.getElem?_eq_some_iff.1 hp).1
 have lpx : px < H.length := (List.getElem?_eq_some_iff.1 hx).1
 have lmo : mo < H.length := (List.getElem?_eq_some_iff.1 hmo).1
 have tpm : (pm < H.length + 1) = True := eq_true (by omega)
 have tpo : (po < H.length + 1) = True := eq_true (by omega)
 have tpx : (px < H.length + 1) = True := eq_true (by omega)
 have fpm : (H.length + 1 ≤ pm) = False := eq_false (by omega)
 have fpo : (H.length + 1 ≤ po) = False := eq_false (by omega)
 have fpx : (H.length + 1 ≤ px) = False := eq_false (by omega)
 have gpm : ∀ (c' : List In4) (r : Heap), (mkSet H b c' ++ r)[pm]? = some (some (.cells [.ptr b 0])) := fun c' r => by rw [List.getElem?_append_left (by simpa using lpm), mkSet_ne npm]; exact hm
 have gpo : ∀ (c' : List In4) (r : Heap), (mkSet H b c' ++ r)[po]? = some (some (.cells [.mp mo])) := fun c' r => by rw [List.getElem?_append_left (by simpa using lpo), mkSet_ne npo]; exact hp
 have gpx : ∀ (c' : List In4) (r : Heap), (mkSet H b c' ++ r)[px]? = some (some (.cells [.int .i64 o])) := fun c' r => by rw [List.getElem?_append_left (by simpa using lpx), mkSet_ne npx]; exact hx
 have gmo : ∀ (c' : List In4) (r : Heap), (mkSet H b c' ++ r)[mo]? = some (some (.map esO)) := fun c' r => by rw [List.getElem?_append_left (by simpa using lmo), mkSet_ne nmo]; exact hmo
 have gk : ∀ (c' : List In4) (r : Heap) (k : Nat), (mkSet H b c' ++ r)[H.length + k]? = r[k]? := fun c' r k => by rw [List.getElem?_append_right (by simp), mkSet_len]; congr 1; omega
 have gk0 : ∀ (c' : List In4) (r : Heap), (mkSet H b c' ++ r)[H.length]? = r[0]? := fun c' r => gk c' r 0
 have sk0 : ∀ (c' : List In4) (r : Heap) (x : Option Blk), (mkSet H b c' ++ r).set H.length x = mkSet H b c' ++ r.set 0 x := fun c' r x => by rw [List.set_append_right _ _ (by simp), mkSet_len, Nat.sub_self]
 have hsh0 : trunc (H.length + 1) (H ++ [some (.zone 0)]) = H ++ [some (.zone 0)] := by have := hsh c 0; rwa [hself] at this
 have hbk : ∀ (c' : List In4) (r : Heap), trunc H.length (mkSet H b c' ++ r) = mkSet H b c' := fun c' r => by have := (mkSet_shut (b := b) h.shut c').back r; rwa [mkSet_len] at this
 simp [h.shut.self]
 refine W_up sl.length (fun k => [(0, .int .u32 a), (2, .ptr pm 0), (3, .ptr po 0), (4, .ptr px 0), (7, .vs (EL (S k).2) (.own H.length)), (13, .vs (nats .u32 sl) .no), (14, .int .i64 sl.length), (15, .int .i64 k)]) (fun k => mkSet H b (S k).1 ++ [some (.zone k)]) (fun _ => True) ?_ ?_
 ·simp [keep_cl, hS0, hself, hEL0, tpm, tpo, tpx, hsh0]
 intro k hk _
 by_cases hlt : k < sl.length
 ·obtain ⟨x, hx0⟩ : ∃ x, x = sl[k] := ⟨_, rfl⟩
  have hg : sl[k]? = some x := by rw [List.getElem?_eq_getElem hlt, hx0]
  have hgn : (nats .u32 sl)[k]? = some [.int .u32 (x : Int)] := by simp [hg]
  have hge : (nats .u32 sl)[k]'(by simpa using hlt) = [.int .u32 (x : Int)] := by rw [List.getElem?_eq_getElem (by simpa using hlt)] at hgn; exact Option.some.inj hgn
  have hst : S (k + 1) = ((rulesL (rulesAt rs a x) ((S k).1, o)).1, (S k).2 ++ [(x, (rulesL (rulesAt rs a x) ((S k).1, o)).2)]) := by rw [hS, hS, List.take_add_one, hg]; exact entsL_snoc _ _ _ _ _
  obtain ⟨j1, _, _⟩ := ents_came (o := o) (R := rulesAt rs a) (l := sl.take k) (c := c) (fun _ _ => at_fine hf) ho
  rw [← hS] at j1
  have hln := hSn k hk
  have hct := sumF_take (fun n => costR (rulesAt rs a n)) sl k x hg
  obtain ⟨iO, tkO, hOf, htO⟩ := hO x (smem x (List.mem_of_getElem? hg))
  obtain ⟨⟨c1, es1⟩, hs1⟩ : ∃ s, s = S k := ⟨_, rfl⟩
  rw [← hs1] at hst j1 hln ⊢
  have gj := j1.grown.len
  have lj := j1.lab
  simp only [costE] at hst gj lj hln hcost
  have wr := rulesM_ok (G := G) ((h.set c1).app (R := [some (.zone k), none]) (fun m hm => rfl)) (rulesAt rs a x) tkO (fun m hm => htO m (by simp at hm; omega)) o (at_fine hf) lj (by omega)
  rw [mkSet_app (by simpa using hlb), mkSet_mkSet] at wr
  have hkey : eqks [.int, .int] [.int .u32 (a : Int), .int .u32 (x : Int)] [.int .u32 (a : Int), .int .u32 (x : Int)] = some true := by simp [eqks, eqk]
  simp (disch := omega) [ltT, get_in, hgn, hge, hlt]
  simp [gpm, gpo, gpx, gmo, hOf, fpm, fpo, fpx]
  refine callSF_of wr ?_
  have hby : ((k + 1) * 16 ≤ 140737488355328) = True := eq_true (by omega)
  have hsn := EL_snoc es1 (x, (rulesL (rulesAt rs a x) (c1, o)).2)
  simp only at hsn
  simp [EL_sz, gk, gk0, sk0, hln, hby, hsn, hst, -Int.natCast_add]
  simp (disch := omega) [keep_cl, hsh, hsh2, tpm, tpo, tpx, add1', hlt, hst, -Int.natCast_add]
  done
 ·have : k = sl.length := by omega
  subst this
  rw [hSl]
  have wt := treeM_ok (G := G) (o := o) (entsL (rulesAt rs a) o sl c).2.length (hms (entsL (rulesAt rs a) o sl c).1 sl.length) (entsL (rulesAt rs a) o sl c).2 (.own H.length) (fun n hn => by simp at hn; simp [Tk.cl]; omega)
   (by intro e; rw [e] at hel; simp at hel; have := sortS_len (nrsOf rs a); rw [← hsl] at this; exact hnn (List.length_eq_zero_iff.1 (by omega))) (Nat.le_refl _) i2
   (fun e he => nrs_fine hf (a := a) (smem _ (by rw [← i3]; exact List.mem_map.2 ⟨e, he, rfl⟩))) i1.lab (by have := i1.grown.len; simp only at this; omega)
  rw [mkSet_app (by simpa using hlb), mkSet_mkSet] at wt
  have tl := (tree_came (o := o) _ (by intro e; rw [e] at hel; simp at hel; have := sortS_len (nrsOf rs a); rw [← hsl] at this; exact hnn (List.length_eq_zero_iff.1 (by omega))) (Nat.le_refl _) i2
   (fun e he => nrs_fine hf (a := a) (smem _ (by rw [← i3]; exact List.mem_map.2 ⟨e, he, rfl⟩))) i1.lab).grown.len
  have gi := i1.grown.len
  have hA : archC rs o a c = putF (treeL (entsL (rulesAt rs a) o sl c).2.length (entsL (rulesAt rs a) o sl c).1 (entsL (rulesAt rs a) o sl c).2 o).1 32 0 := by rw [hsl]; rfl
  have hpos : 0 < sl.length := by have := sortS_len (nrsOf rs a); rw [← hsl] at this; have := List.length_pos_iff.2 hnn; omega
  generalize treeL (entsL (rulesAt rs a) o sl c).2.length (entsL (rulesAt rs a) o sl c).1 (entsL (rulesAt rs a) o sl c).2 o = s2 at *
  generalize entsL (rulesAt rs a) o sl c = s1 at *
  have wa := addM_ok (G := G) ((h.set s2.1).app (R := [some (.zone sl.length)]) (fun m hm => rfl)) 32 0 (.inr (.inr ⟨rfl, by decide, by decide⟩)) (by simp only at gi; omega)
  rw [mkSet_app (by simpa using hlb), mkSet_mkSet, ← hA] at wa
  simp (disch := omega) [ltF, keep_cl, hsh, tpm, tpo, tpx, gpm, gpo, gpx]
  refine callSF_of wt ?_
  simp (disch := omega) [keep_cl, hsh, tpm, tpo, tpx, gpm, gpo, gpx]
  refine callSF_of wa ?_
  simp [hbk]
  done
end
end Go.Ev
/- The maps of a policy's rules: plain. -/
namespace Go.Ev
open Go Go.RowKit
variable {G : Tbl}
set_option maxRecDepth 10000
set_option maxHeartbeats 4000000
set_option linter.unusedSimpArgs false
set_option linter.unusedVariables false
theorem archsOf_snoc (l : List Ru) (r : Ru) : archsOf (l ++ [r]) = addNew (archsOf l) r.arch := by simp [archsOf, firsts_snoc]
theorem nrsOf_snoc (l : List Ru) (r : Ru) (a : Nat) : nrsOf (l ++ [r]) a = if r.arch = a then addNew (nrsOf l a) r.nr else nrsOf l a := by
 unfold nrsOf
 rw [List.filter_append, List.map_append]
 by_cases h : r.arch = a
 ·have e : [r].filter (fun r => decide (r.arch = a)) = [r] := by simp [h]
  rw [e, if_pos h]; simp [firsts_snoc]
 ·have e : [r].filter (fun r => decide (r.arch = a)) = [] := by simp [h]
  rw [e, if_neg h]; simp
theorem rulesAt_snoc (l : List Ru) (r : Ru) (a n : Nat) : rulesAt (l ++ [r]) a n = if r.arch = a ∧ r.nr = n then rulesAt l a n ++ [r] else rulesAt l a n := by
 unfold rulesAt
 rw [List.filter_append]
 by_cases h : r.arch = a ∧ r.nr = n
 ·have e : [r].filter (fun r => decide (r.arch = a ∧ r.nr = n)) = [r] := by simp [h]
  rw [e, if_pos h]
 ·have e : [r].filter (fun r => decide (r.arch = a ∧ r.nr = n)) = [] := by
   rw [List.filter_cons, if_neg (by simpa using h)]; rfl
  rw [e, if_neg h]; simp
theorem archs_mem {l : List Ru} {a : Nat} : a ∈ archsOf l ↔ ∃ r ∈ l, r.arch = a := by rw [archsOf, firsts_mem, List.mem_map]
theorem nrs_mem {l : List Ru} {a n : Nat} : n ∈ nrsOf l a ↔ ∃ r ∈ l, r.arch = a ∧ r.nr = n := by
 rw [nrsOf, firsts_mem, List.mem_map]
 constructor
 ·rintro ⟨r, hr, h⟩
  rw [List.mem_filter] at hr
  exact ⟨r, hr.1, by simpa using hr.2, h⟩
 ·rintro ⟨r, hr, h1, h2⟩
  exact ⟨r, List.mem_filter.2 ⟨hr, by simpa using h1⟩, h2⟩
abbrev EN := Nat × List Nat × Nat
abbrev EO := (Nat × Nat) × List Ru × Nat
structure InvL (l : List Ru) (of : List EO) (nrs : List EN) (ms : List Nat) (Z : Heap) : Prop where
 ms_eq : ms = archsOf l
 nk : nrs.map (·.1) = archsOf l
 nv : ∀ e ∈ nrs, e.2.1 = nrsOf l e.1
 ok : (of.map (·.1)).Nodup
 om : ∀ k, k ∈ of.map (·.1) ↔ ∃ r ∈ l, (r.arch, r.nr) = k
 ov : ∀ e ∈ of, e.2.1 = rulesAt l e.1.1 e.1.2
 nz : ∀ e ∈ nrs, Z[e.2.2]? = some (some (.zone e.2.1.length))
 oz : ∀ e ∈ of, Z[e.2.2]? = some (some (.zone e.2.1.length))
 dz : (nrs.map (·.2.2) ++ of.map (·.2.2)).Nodup
 cz : ∀ n, Z.map (Option.map (Blk.cl n)) = Z
theorem mem_set' {α : Type} {l : List α} {j : Nat} {a e : α} (h : e ∈ l.set j a) : e = a ∨ ∃ i, i ≠ j ∧ l[i]? = some e := by
 obtain ⟨i, hi⟩ := List.getElem?_of_mem h
 rw [List.getElem?_set] at hi
 by_cases hj : j = i
 ·rw [if_pos hj] at hi
  split at hi
  ·left; exact (Option.some.inj hi).symm
  ·cases hi
 ·rw [if_neg hj] at hi
  exact .inr ⟨i, Ne.symm hj, hi⟩
theorem map_set_same {α β : Type} (f : α → β) {l : List α} {j : Nat} {a b : α} (h : l[j]? = some a) (hf : f b = f a) : (l.set j b).map f = l.map f := by
 apply List.ext_getElem?
 intro i
 simp only [List.getElem?_map, List.getElem?_set]
 by_cases hj : j = i
 ·subst hj
  rw [if_pos rfl, h]
  have := (List.getElem?_eq_some_iff.1 h).1
  rw [if_pos this]; simp [hf]
 ·rw [if_neg hj]
theorem nodup_ne {α β : Type} {f : α → β} {l : List α} {i j : Nat} {a b : α} (hn : (l.map f).Nodup) (hi : l[i]? = some a) (hj : l[j]? = some b) (h : i ≠ j) : f a ≠ f b := by
 intro e
 have h1 := (List.getElem?_eq_some_iff.1 hi).1
 refine h ((List.getElem?_inj (l := l.map f) (by simpa using h1) hn).1 ?_)
 rw [List.getElem?_map, List.getElem?_map, hi, hj, Option.map_some, Option.map_some, e]
theorem app_old {Z r : Heap} {z : Nat} {x : Option Blk} (h : Z[z]? = some x) : (Z ++ r)[z]? = some x := by
 rw [List.getElem?_append_left (List.getElem?_eq_some_iff.1 h).1]; exact h
theorem app_cz {Z r : Heap} (h : ∀ n, Z.map (Option.map (Blk.cl n)) = Z) (hr : ∀ n, r.map (Option.map (Blk.cl n)) = r) : ∀ n, (Z ++ r).map (Option.map (Blk.cl n)) = Z ++ r := fun n => by rw [List.map_append, h, hr]
theorem set_cz {Z : Heap} {z m : Nat} (h : ∀ n, Z.map (Option.map (Blk.cl n)) = Z) : ∀ n, (Z.set z (some (.zone m))).map (Option.map (Blk.cl n)) = Z.set z (some (.zone m)) := fun n => by rw [map_set', h]; rfl
section
variable {l : List Ru} {of : List EO} {nrs : List EN} {ms : List Nat} {Z R : Heap} {r : Ru}
theorem InvL.oz_lt (h : InvL l of nrs ms Z) {e : EO} (he : e ∈ of) : e.2.2 < Z.length := (List.getElem?_eq_some_iff.1 (h.oz e he)).1
theorem InvL.nz_lt (h : InvL l of nrs ms Z) {e : EN} (he : e ∈ nrs) : e.2.2 < Z.length := (List.getElem?_eq_some_iff.1 (h.nz e he)).1
theorem InvL.more (h : InvL l of nrs ms Z) (hr : ∀ n, R.map (Option.map (Blk.cl n)) = R) : InvL l of nrs ms (Z ++ R) :=
 ⟨h.ms_eq, h.nk, h.nv, h.ok, h.om, h.ov, fun e he => app_old (h.nz e he), fun e he => app_old (h.oz e he), h.dz, app_cz h.cz hr⟩
theorem InvL.oldC (h : InvL l of nrs ms Z) {j z : Nat} {rl : List Ru} (hj : of[j]? = some ((r.arch, r.nr), rl, z)) : InvL (l ++ [r]) (of.set j ((r.arch, r.nr), rl ++ [r], z)) nrs ms (Z.set z (some (.zone (rl.length + 1)))) := by
 have hm := List.mem_of_getElem? hj
 obtain ⟨r', hr', hk'⟩ := (h.om (r.arch, r.nr)).1 (List.mem_map.2 ⟨_, hm, rfl⟩)
 simp only [Prod.mk.injEq] at hk'
 have ha : r.arch ∈ archsOf l := archs_mem.2 ⟨r', hr', hk'.1⟩
 have hn : r.nr ∈ nrsOf l r.arch := nrs_mem.2 ⟨r', hr', hk'⟩
 have ea : archsOf (l ++ [r]) = archsOf l := by rw [archsOf_snoc, addNew, if_pos ha]
 have en : ∀ a, nrsOf (l ++ [r]) a = nrsOf l a := fun a => by
  rw [nrsOf_snoc]
  split
  ·rename_i e; subst e; rw [addNew, if_pos hn]
  ·rfl
 have hd := h.dz
 rw [List.nodup_append] at hd
 obtain ⟨d1, d2, d3⟩ := hd
 have hzlt := h.oz_lt hm
 have m1 : (of.set j ((r.arch, r.nr), rl ++ [r], z)).map (·.1) = of.map (·.1) := map_set_same (·.1) hj (by rfl)
 have m2 : (of.set j ((r.arch, r.nr), rl ++ [r], z)).map (·.2.2) = of.map (·.2.2) := map_set_same (·.2.2) hj (by rfl)
 refine ⟨by rw [ea]; exact h.ms_eq, by rw [ea]; exact h.nk, fun e he => by rw [en]; exact h.nv e he, ?_, fun k => ?_, fun e he => ?_, fun e he => ?_, fun e he => ?_, ?_, set_cz h.cz⟩
 ·rw [m1]; exact h.ok
 ·rw [m1, h.om]
  constructor
  ·rintro ⟨x, hx, e⟩; exact ⟨x, by simp [hx], e⟩
  ·rintro ⟨x, hx, e⟩
   rcases List.mem_append.1 hx with hx | hx
   ·exact ⟨x, hx, e⟩
   ·rw [List.mem_singleton] at hx; subst hx
    exact ⟨r', hr', by rw [← e]; simp [hk']⟩
 ·rcases mem_set' he with rfl | ⟨i, hi, hg⟩
  ·simp only
   rw [rulesAt_snoc, if_pos ⟨rfl, rfl⟩, ← h.ov _ hm]
  ·have := nodup_ne h.ok hg hj hi
   rw [rulesAt_snoc, if_neg (fun q => this (Prod.ext q.1.symm q.2.symm))]
   exact h.ov e (List.mem_of_getElem? hg)
 ·have : e.2.2 ≠ z := d3 _ (List.mem_map.2 ⟨e, he, rfl⟩) _ (List.mem_map.2 ⟨_, hm, rfl⟩)
  rw [List.getElem?_set_ne (Ne.symm this)]; exact h.nz e he
 ·rcases mem_set' he with rfl | ⟨i, hi, hg⟩
  ·simp only
   rw [List.getElem?_set_self hzlt]; simp
  ·have := nodup_ne d2 hg hj hi
   rw [List.getElem?_set_ne (Ne.symm this)]; exact h.oz e (List.mem_of_getElem? hg)
 ·rw [m2]; exact h.dz
theorem InvL.newC (h : InvL l of nrs ms Z) (hk : (r.arch, r.nr) ∉ of.map (·.1)) {j z z2 : Nat} {ns : List Nat} (hj : nrs[j]? = some (r.arch, ns, z)) (hz2 : Z[z2]? = some (some (.zone 1))) (hz2n : z2 ∉ nrs.map (·.2.2) ++ of.map (·.2.2)) :
  InvL (l ++ [r]) (of ++ [((r.arch, r.nr), [r], z2)]) (nrs.set j (r.arch, ns ++ [r.nr], z)) ms (Z.set z (some (.zone (ns.length + 1)))) := by
 have hm := List.mem_of_getElem? hj
 have ha : r.arch ∈ archsOf l := by rw [← h.nk]; exact List.mem_map.2 ⟨_, hm, rfl⟩
 have hn : r.nr ∉ nrsOf l r.arch := fun hc => by
  obtain ⟨x, hx, e⟩ := nrs_mem.1 hc
  exact hk ((h.om _).2 ⟨x, hx, Prod.ext e.1 e.2⟩)
 have h0 : rulesAt l r.arch r.nr = [] := at_none hn
 have ea : archsOf (l ++ [r]) = archsOf l := by rw [archsOf_snoc, addNew, if_pos ha]
 have hd := h.dz
 rw [List.nodup_append] at hd
 obtain ⟨d1, d2, d3⟩ := hd
 rw [List.mem_append, not_or] at hz2n
 have hzlt := h.nz_lt hm
 have m1 : (nrs.set j (r.arch, ns ++ [r.nr], z)).map (·.1) = nrs.map (·.1) := map_set_same (·.1) hj (by rfl)
 have m2 : (nrs.set j (r.arch, ns ++ [r.nr], z)).map (·.2.2) = nrs.map (·.2.2) := map_set_same (·.2.2) hj (by rfl)
 have hzz : z2 ≠ z := fun e => hz2n.1 (by rw [e]; exact List.mem_map.2 ⟨_, hm, rfl⟩)
 refine ⟨by rw [ea]; exact h.ms_eq, by rw [m1, ea]; exact h.nk, fun e he => ?_, ?_, fun k => ?_, fun e he => ?_, fun e he => ?_, fun e he => ?_, ?_, set_cz h.cz⟩
 ·rcases mem_set' he with rfl | ⟨i, hi, hg⟩
  ·simp only
   rw [nrsOf_snoc, if_pos rfl, addNew, if_neg hn, ← h.nv _ hm]
  ·have hkn : (nrs.map (·.1)).Nodup := by rw [h.nk]; exact firsts_nodup _
   have := nodup_ne hkn hg hj hi
   rw [nrsOf_snoc, if_neg (Ne.symm this)]
   exact h.nv e (List.mem_of_getElem? hg)
 ·rw [List.map_append, List.nodup_append]
  exact ⟨h.ok, by simp, fun x hx y hy e => hk (by simp at hy; rw [e, hy] at hx; exact hx)⟩
 ·rw [List.map_append, List.mem_append, h.om]
  constructor
  ·rintro (⟨x, hx, e⟩ | hx)
   ·exact ⟨x, by simp [hx], e⟩
   ·simp at hx; exact ⟨r, by simp, hx.symm⟩
  ·rintro ⟨x, hx, e⟩
   rcases List.mem_append.1 hx with hx | hx
   ·exact .inl ⟨x, hx, e⟩
   ·rw [List.mem_singleton] at hx; subst hx
    exact .inr (by simp [← e])
 ·rcases List.mem_append.1 he with he | he
  ·have : e.1 ≠ (r.arch, r.nr) := fun q => hk (by rw [← q]; exact List.mem_map.2 ⟨e, he, rfl⟩)
   rw [rulesAt_snoc, if_neg (fun q => this (Prod.ext q.1.symm q.2.symm))]
   exact h.ov e he
  ·rw [List.mem_singleton] at he; subst he
   simp only
   rw [rulesAt_snoc, if_pos ⟨rfl, rfl⟩, h0]; rfl
 ·rcases mem_set' he with rfl | ⟨i, hi, hg⟩
  ·simp only
   rw [List.getElem?_set_self hzlt]; simp
  ·have := nodup_ne d1 hg hj hi
   rw [List.getElem?_set_ne (Ne.symm this)]; exact h.nz e (List.mem_of_getElem? hg)
 ·rcases List.mem_append.1 he with he | he
  ·have : z ≠ e.2.2 := d3 _ (List.mem_map.2 ⟨_, hm, rfl⟩) _ (List.mem_map.2 ⟨e, he, rfl⟩)
   rw [List.getElem?_set_ne this]; exact h.oz e he
  ·rw [List.mem_singleton] at he; subst he
   simp only
   rw [List.getElem?_set_ne hzz.symm]; exact hz2
 ·rw [m2, List.map_append, ← List.append_assoc, List.nodup_append]
  exact ⟨h.dz, by simp, fun x hx y hy e => by
   simp at hy
   rw [e, hy] at hx
   rcases List.mem_append.1 hx with hx | hx
   ·exact hz2n.1 hx
   ·exact hz2n.2 hx⟩
theorem InvL.newA (h : InvL l of nrs ms Z) (ha : r.arch ∉ nrs.map (·.1)) {z z2 : Nat} (hz : Z[z]? = some (some (.zone 1))) (hz2 : Z[z2]? = some (some (.zone 1))) (hzn : z ∉ nrs.map (·.2.2) ++ of.map (·.2.2)) (hz2n : z2 ∉ nrs.map (·.2.2) ++ of.map (·.2.2)) (hzz : z ≠ z2) :
  InvL (l ++ [r]) (of ++ [((r.arch, r.nr), [r], z2)]) (nrs ++ [(r.arch, [r.nr], z)]) (ms ++ [r.arch]) Z := by
 rw [h.nk] at ha
 have hk : (r.arch, r.nr) ∉ of.map (·.1) := fun hc => by
  obtain ⟨x, hx, e⟩ := (h.om _).1 hc
  exact ha (archs_mem.2 ⟨x, hx, (Prod.mk.inj e).1⟩)
 have hn0 : nrsOf l r.arch = [] := by
  rw [List.eq_nil_iff_forall_not_mem]
  intro n hn
  obtain ⟨x, hx, e⟩ := nrs_mem.1 hn
  exact ha (archs_mem.2 ⟨x, hx, e.1⟩)
 have h0 : rulesAt l r.arch r.nr = [] := at_none (by rw [hn0]; simp)
 have ea : archsOf (l ++ [r]) = archsOf l ++ [r.arch] := by rw [archsOf_snoc, addNew, if_neg ha]
 have hd := h.dz
 rw [List.nodup_append] at hd
 obtain ⟨d1, d2, d3⟩ := hd
 rw [List.mem_append, not_or] at hz2n hzn
 refine ⟨by rw [ea, h.ms_eq], by rw [List.map_append, h.nk, ea]; rfl, fun e he => ?_, ?_, fun k => ?_, fun e he => ?_, fun e he => ?_, fun e he => ?_, ?_, h.cz⟩
 ·rcases List.mem_append.1 he with he | he
  ·have : r.arch ≠ e.1 := fun q => ha (by rw [q, ← h.nk]; exact List.mem_map.2 ⟨e, he, rfl⟩)
   rw [nrsOf_snoc, if_neg this]; exact h.nv e he
  ·rw [List.mem_singleton] at he; subst he
   simp only
   rw [nrsOf_snoc, if_pos rfl, hn0]; rfl
 ·rw [List.map_append, List.nodup_append]
  exact ⟨h.ok, by simp, fun x hx y hy e => hk (by simp at hy; rw [e, hy] at hx; exact hx)⟩
 ·rw [List.map_append, List.mem_append, h.om]
  constructor
  ·rintro (⟨x, hx, e⟩ | hx)
   ·exact ⟨x, by simp [hx], e⟩
   ·simp at hx; exact ⟨r, by simp, hx.symm⟩
  ·rintro ⟨x, hx, e⟩
   rcases List.mem_append.1 hx with hx | hx
   ·exact .inl ⟨x, hx, e⟩
   ·rw [List.mem_singleton] at hx; subst hx
    exact .inr (by simp [← e])
 ·rcases List.mem_append.1 he with he | he
  ·have : e.1 ≠ (r.arch, r.nr) := fun q => hk (by rw [← q]; exact List.mem_map.2 ⟨e, he, rfl⟩)
   rw [rulesAt_snoc, if_neg (fun q => this (Prod.ext q.1.symm q.2.symm))]
   exact h.ov e he
  ·rw [List.mem_singleton] at he; subst he
   simp only
   rw [rulesAt_snoc, if_pos ⟨rfl, rfl⟩, h0]; rfl
 ·rcases List.mem_append.1 he with he | he
  ·exact h.nz e he
  ·rw [List.mem_singleton] at he; subst he; exact hz
 ·rcases List.mem_append.1 he with he | he
  ·exact h.oz e he
  ·rw [List.mem_singleton] at he; subst he; exact hz2
 ·rw [List.map_append, List.map_append, List.nodup_append]
  refine ⟨?_, ?_, ?_⟩
  ·rw [List.nodup_append]
   exact ⟨d1, by simp, fun x hx y hy e => by simp at hy; rw [e, hy] at hx; exact hzn.1 hx⟩
  ·rw [List.nodup_append]
   exact ⟨d2, by simp, fun x hx y hy e => by simp at hy; rw [e, hy] at hx; exact hz2n.2 hx⟩
  ·intro x hx y hy e
   rcases List.mem_append.1 hx with hx | hx <;> rcases List.mem_append.1 hy with hy | hy
   ·exact d3 x hx y hy e
   ·simp at hy; rw [e, hy] at hx; exact hz2n.1 hx
   ·simp at hx; rw [← e, hx] at hy; exact hzn.2 hy
   ·simp at hx hy; rw [hx, hy] at e; exact hzz e
end
end Go.Ev
/- A policy made a filter: its maps. -/
namespace Go.Ev
open Go Go.RowKit
variable {G : Tbl}
set_option maxRecDepth 10000
set_option maxHeartbeats 8000000
set_option linter.unusedSimpArgs false
set_option linter.unusedVariables false
def NxK {S : Type} (m : S → Nat) (E : S → List (Nat × V)) (B : S → Heap) (P : S → Prop) (l : List Nat) (k : Nat) (s : S) (e1 : Env) (H1 : Heap) : Prop :=
 ∃ s' kk, m s' < m s ∧ P s' ∧ k ≤ kk ∧ kk ≤ H1.length ∧ (keepE l e1).cl kk = mkE (E s') ∧ trunc kk H1 = B s'
def QSK {S : Type} (G : Tbl) (K : List Kt) (Q : Ex → Env → Heap → Prop) (l : List Nat) (k : Nat) (m : S → Nat) (E : S → List (Nat × V)) (B : S → Heap) (P : S → Prop) (s : S) (x : Ex) (e1 : Env) (H1 : Heap) : Prop :=
 match x with
 | .nx => NxK m E B P l k s e1 H1
 | x => Wr G x K e1 H1 Q
section
variable {K : List Kt} {Q : Ex → Env → Heap → Prop} {e : Env} {H : Heap} {l : List Nat} {k : Nat} {S : Type} {m : S → Nat} {E : S → List (Nat × V)} {B : S → Heap} {P : S → Prop} {s : S}
@[simp] theorem QSK_nx : QSK G K Q l k m E B P s .nx e H = NxK m E B P l k s e H := rfl
@[simp] theorem QSK_exit (i : Nat) : QSK G K Q l k m E B P s (.exit i) e H = Wr G (.exit i) K e H Q := rfl
@[simp] theorem QSK_ret : QSK G K Q l k m E B P s .ret e H = Wr G .ret K e H Q := rfl
theorem W_stateK {c : SCode} (m : S → Nat) (E : S → List (Nat × V)) (B : S → Heap) (P : S → Prop) (s0 : S)
  (h0 : P s0 ∧ (keepE l e).cl H.length = mkE (E s0) ∧ trunc H.length H = B s0)
  (hr : ∀ s, P s → W G c [] (mkE (E s)) (B s) (QSK G K Q l H.length m E B P s)) : W G (.loop l c) K e H Q := by
 refine W_loopK (fun k e H => ∃ s, k = m s ∧ P s ∧ e = mkE (E s) ∧ H = B s) (m s0) ⟨s0, rfl, h0.1, h0.2.1, h0.2.2⟩ ?_
 rintro k e' H' ⟨s, rfl, hp, rfl, rfl⟩
 obtain ⟨x, e1, H1, hb, hq⟩ := hr s hp
 refine ⟨x, e1, H1, hb, ?_⟩
 cases x with
 | nx => obtain ⟨s', kk, h1, h2, h3, h4, h5, h6⟩ := hq; exact ⟨m s', kk, h1, h3, h4, s', rfl, h2, h5, h6⟩
 | exit id => exact hq
 | ret => exact hq
end
def vN (e : EN) : V × V := (.int .u32 (e.1 : Int), .vs (nats .u32 e.2.1) (.own (e.2.2 + 9)))
def vO (e : EO) : V × V := (.agg [.int .u32 (e.1.1 : Int), .int .u32 (e.1.2 : Int)], .vs (RL e.2.1) (.own (e.2.2 + 9)))
def LH (p : Po) (c : List In4) (of nrs : List (V × V)) (m : Nat) (Z : Heap) : Heap :=
 [some (.cells p.cs), some (mkrC c .no), some (.cells [.ptr 1 0]), some (.cells [.int .i64 1]), some (.map of), some (.cells [.mp 4]), some (.map nrs), some (.cells [.mp 6]), some (.zone m)] ++ Z
section
variable {p : Po} {c : List In4} {of nrs : List (V × V)} {m : Nat} {Z : Heap}
theorem LH_len : (LH p c of nrs m Z).length = Z.length + 9 := by simp [LH]
theorem LH_app (r : Heap) : LH p c of nrs m Z ++ r = LH p c of nrs m (Z ++ r) := by simp [LH]
theorem LH_1 : (LH p c of nrs m Z)[1]? = some (some (.cells [.vs (IL c) .no, .int .i64 0])) := rfl
theorem LH_2 : (LH p c of nrs m Z)[2]? = some (some (.cells [.ptr 1 0])) := rfl
theorem LH_3 : (LH p c of nrs m Z)[3]? = some (some (.cells [.int .i64 1])) := rfl
theorem LH_4 : (LH p c of nrs m Z)[4]? = some (some (.map of)) := rfl
theorem LH_5 : (LH p c of nrs m Z)[5]? = some (some (.cells [.mp 4])) := rfl
theorem LH_6 : (LH p c of nrs m Z)[6]? = some (some (.map nrs)) := rfl
theorem LH_7 : (LH p c of nrs m Z)[7]? = some (some (.cells [.mp 6])) := rfl
theorem LH_8 : (LH p c of nrs m Z)[8]? = some (some (.zone m)) := rfl
theorem LH_z (z : Nat) : (LH p c of nrs m Z)[z + 9]? = Z[z]? := by
 rw [LH, List.getElem?_append_right (by simp)]
 simp
theorem LH_s4 (of' : List (V × V)) : (LH p c of nrs m Z).set 4 (some (.map of')) = LH p c of' nrs m Z := rfl
theorem LH_s6 (nrs' : List (V × V)) : (LH p c of nrs m Z).set 6 (some (.map nrs')) = LH p c of nrs' m Z := rfl
theorem LH_s8 (m' : Nat) : (LH p c of nrs m Z).set 8 (some (.zone m')) = LH p c of nrs m' Z := rfl
theorem LH_sz (z : Nat) (x : Option Blk) : (LH p c of nrs m Z).set (z + 9) x = LH p c of nrs m (Z.set z x) := by
 rw [LH, List.set_append_right _ _ (by simp)]
 simp [LH]
end
section
variable {p : Po} {c : List In4} {of : List EO} {nrs : List EN} {m : Nat} {Z : Heap}
theorem clL_cs (n : Nat) (r : Ru) : clL n r.cs = r.cs := by
 rw [clL_eq_map]; simp [Ru.cs, V.cl, Tk.cl]
theorem LH_shut (hZ : ∀ n, Z.map (Option.map (Blk.cl n)) = Z) (h1 : ∀ e ∈ of, e.2.2 < Z.length) (h2 : ∀ e ∈ nrs, e.2.2 < Z.length) : HShut (LH p c (of.map vO) (nrs.map vN) m Z) := by
 intro n hn
 rw [LH_len] at hn
 have e1 : (of.map vO).map (fun q => (q.1.cl n, q.2.cl n)) = of.map vO := by
  rw [List.map_map]
  refine List.map_congr_left fun e he => ?_
  have := h1 e he
  simp [vO, V.cl, clL, Tk.cl, show e.2.2 + 9 < n by omega]
 have e2 : (nrs.map vN).map (fun q => (q.1.cl n, q.2.cl n)) = nrs.map vN := by
  rw [List.map_map]
  refine List.map_congr_left fun e he => ?_
  have := h2 e he
  simp [vN, V.cl, clL, Tk.cl, show e.2.2 + 9 < n by omega]
 unfold LH
 rw [List.map_append, hZ]
 congr 1
 simp [mkrC, Blk.cl, Po.cs, clL, V.cl, Tk.cl, show 1 < n by omega, show 4 < n by omega, show 6 < n by omega]
 exact ⟨by simpa using e1, by simpa using e2⟩
theorem mf_none {ks : Ky} {k : V} : ∀ {es : List (V × V)} (i : Nat), (∀ p ∈ es, keyEq ks k p.1 = some false) → mfind ks k es i = some none
 | [], _, _ => rfl
 | q :: es, i, h => by
  simp only [mfind, h q (by simp)]
  exact mf_none (i + 1) fun p hp => h p (by simp [hp])
theorem mf_some {ks : Ky} {k : V} : ∀ {es : List (V × V)} (i j : Nat) {q : V × V}, es[j]? = some q → keyEq ks k q.1 = some true → (∀ j' < j, ∀ p, es[j']? = some p → keyEq ks k p.1 = some false) → mfind ks k es i = some (some (i + j, q.2))
 | [], _, _, _, h, _, _ => by simp at h
 | x :: es, i, 0, q, h, ht, _ => by
  simp at h; subst h
  simp only [mfind, ht, Nat.add_zero]
 | x :: es, i, j + 1, q, h, ht, hf => by
  have h0 := hf 0 (by omega) x rfl
  simp only [mfind, h0]
  have := mf_some (i + 1) j (q := q) (by simpa using h) ht (fun j' hj p hp => hf (j' + 1) (by omega) p (by simpa using hp))
  rw [this, show i + 1 + j = i + (j + 1) by omega]
theorem keyN (a b : Nat) : keyEq (.sc .int) (.int .u32 (a : Int)) (.int .u32 (b : Int)) = some (decide (a = b)) := by
 simp [keyEq, eqk]
 rw [Bool.eq_iff_iff]; simp
theorem keyO (a n b k : Nat) : keyEq (.row [.int, .int]) (.agg [.int .u32 (a : Int), .int .u32 (n : Int)]) (.agg [.int .u32 (b : Int), .int .u32 (k : Int)]) = some (decide (a = b ∧ n = k)) := by
 simp [keyEq, eqks, eqk]
 rw [Bool.eq_iff_iff]; simp
theorem findN_no {a : Nat} (h : a ∉ nrs.map (·.1)) : mfind (.sc .int) (.int .u32 (a : Int)) (nrs.map vN) 0 = some none := by
 refine mf_none 0 fun q hq => ?_
 obtain ⟨e, he, rfl⟩ := List.mem_map.1 hq
 rw [vN, keyN, decide_eq_false]
 exact fun hc => h (hc ▸ List.mem_map.2 ⟨e, he, rfl⟩)
theorem findN {j a z : Nat} {l : List Nat} (hn : (nrs.map (·.1)).Nodup) (h : nrs[j]? = some (a, l, z)) : mfind (.sc .int) (.int .u32 (a : Int)) (nrs.map vN) 0 = some (some (j, .vs (nats .u32 l) (.own (z + 9)))) := by
 have := mf_some (ks := .sc .int) (k := .int .u32 (a : Int)) (es := nrs.map vN) 0 j (q := vN (a, l, z)) (by simp [h]) (by rw [vN, keyN]; simp) (fun j' hj q hq => by
  rw [List.getElem?_map, Option.map_eq_some_iff] at hq
  obtain ⟨e, he, rfl⟩ := hq
  rw [vN, keyN, decide_eq_false]
  exact fun hc => nodup_ne hn he h (by omega) hc.symm)
 rw [this, Nat.zero_add]; rfl
theorem findO_no {a n : Nat} (h : (a, n) ∉ of.map (·.1)) : mfind (.row [.int, .int]) (.agg [.int .u32 (a : Int), .int .u32 (n : Int)]) (of.map vO) 0 = some none := by
 refine mf_none 0 fun q hq => ?_
 obtain ⟨e, he, rfl⟩ := List.mem_map.1 hq
 rw [vO, keyO, decide_eq_false]
 exact fun hc => h (List.mem_map.2 ⟨e, he, Prod.ext hc.1.symm hc.2.symm⟩)
theorem findO {j a n z : Nat} {l : List Ru} (hn : (of.map (·.1)).Nodup) (h : of[j]? = some ((a, n), l, z)) : mfind (.row [.int, .int]) (.agg [.int .u32 (a : Int), .int .u32 (n : Int)]) (of.map vO) 0 = some (some (j, .vs (RL l) (.own (z + 9)))) := by
 have := mf_some (ks := .row [.int, .int]) (k := .agg [.int .u32 (a : Int), .int .u32 (n : Int)]) (es := of.map vO) 0 j (q := vO ((a, n), l, z)) (by simp [h]) (by rw [vO, keyO]; simp) (fun j' hj q hq => by
  rw [List.getElem?_map, Option.map_eq_some_iff] at hq
  obtain ⟨e, he, rfl⟩ := hq
  rw [vO, keyO, decide_eq_false]
  exact fun hc => nodup_ne hn he h (by omega) (Prod.ext hc.1.symm hc.2.symm))
 rw [this, Nat.zero_add]; rfl
end
end Go.Ev
/- Policies by the document: contracts. -/
namespace Go.Ev
open Go Go.RowKit
variable {G : Tbl}
set_option maxRecDepth 10000
set_option maxHeartbeats 4000000
set_option linter.unusedSimpArgs false
set_option linter.unusedVariables false
def judgeD (d : Da) (p : Po) : Nat := ((p.rules.find? (fitsB d)).map (·.act)).getD p.dflt
def greatP (p : Po) : Bool := p.rules.any (fun r => decide (20 < r.conds.length)) || decide (100 < p.rules.length)
theorem Great10_ok [HasL10g G] (p : Po) (hl : p.rules.length ≤ maxLen) (hr : ∀ r ∈ p.rules, r.conds.length ≤ maxLen) : FP G 442 [.agg p.cs] (.bool (greatP p)) := by
 refine FP_of HasL10g.h_hurdlelaw10_Great (Nat.le_of_ble_eq_true rfl) ?_
 unfold maxLen at hl
 simp [Po.cs]
 refine W_up p.rules.length (fun i => [(1, .ptr 0 0), (3, .int .i64 i)]) (fun _ => [some (.cells p.cs)]) (fun i => (p.rules.take i).any (fun r => decide (20 < r.conds.length)) = false) ?_ ?_
 ·simp [keep_cl, trunc, Po.cs]
 intro i hi hp
 by_cases hlt : i < p.rules.length
 ·obtain ⟨x, hx⟩ : ∃ x, x = p.rules[i] := ⟨_, rfl⟩
  have hg : p.rules[i]? = some x := by rw [List.getElem?_eq_getElem hlt, hx]
  have hgc := RL_get hg
  have hget : (RL p.rules)[i]'(by simpa using hlt) = x.cs := by rw [List.getElem?_eq_getElem (by simpa using hlt)] at hgc; exact Option.some.inj hgc
  simp only [Ru.cs] at hgc hget
  have ht : (p.rules.take (i + 1)).any (fun r => decide (20 < r.conds.length)) = ((p.rules.take i).any (fun r => decide (20 < r.conds.length)) || decide (20 < x.conds.length)) := by rw [List.take_add_one, hg]; simp
  by_cases h20 : 20 < x.conds.length
  ·have h20' : (20 < (x.conds.length : Int)) = True := eq_true (by omega)
   have hgr : greatP p = true := by
    have : p.rules.any (fun r => decide (20 < r.conds.length)) = true := List.any_eq_true.2 ⟨x, List.mem_of_getElem? hg, by simpa using h20⟩
    simp [greatP, this]
   simp (disch := omega) [ltT, get_in, hgc, hget, Po.cs, hlt, h20', hgr]
  ·have h20' : (20 < (x.conds.length : Int)) = False := eq_false (by omega)
   have ht' : (p.rules.take (i + 1)).any (fun r => decide (20 < r.conds.length)) = false := by rw [ht, hp]; simpa using h20
   simp (disch := omega) [ltT, get_in, hgc, hget, Po.cs, hlt, h20', keep_cl, trunc, add1', -Int.natCast_add]
   simpa using ht'
 ·have : i = p.rules.length := by omega
  subst this
  rw [List.take_length] at hp
  have e : (100 < (p.rules.length : Int)) = (100 < p.rules.length) := by rw [eq_iff_iff]; omega
  simp (disch := omega) [ltF, keep_cl, trunc, Po.cs, greatP, hp, e]
end Go.Ev
/- A policy made a filter: contract. -/
namespace Go.Ev
open Go Go.RowKit
variable {G : Tbl}
set_option maxRecDepth 10000
set_option maxHeartbeats 8000000
set_option linter.unusedSimpArgs false
set_option linter.unusedVariables false
def Ru.wf (r : Ru) : Prop := r.conds.length ≤ maxLen ∧ (∀ x ∈ r.conds, x.ok) ∧ r.arch < 4294967296 ∧ r.nr < 4294967296 ∧ r.act < 4294967296
def Po.wf (p : Po) : Prop := p.rules.length ≤ maxLen ∧ (∀ r ∈ p.rules, r.wf) ∧ p.dflt < 4294967296
theorem right_fine {p : Po} (h : p.wf) (hr : rightP p = true) : p.fine ∧ p.rules.length ≤ 64 ∧ ∀ r ∈ p.rules, r.conds.length ≤ 4 := by
 simp only [rightP, Bool.and_eq_true, decide_eq_true_eq, List.all_eq_true, mayB] at hr
 obtain ⟨⟨h1, h2⟩, h3⟩ := hr
 exact ⟨⟨fun r hr => ⟨fun x hx => ⟨(h1 r hr).1.1 x hx, (h.2.1 r hr).2.1 x hx⟩, (h.2.1 r hr).2.2⟩, h.2.2⟩, h3, fun r hr => (h1 r hr).2⟩
theorem rootsL_snoc (rs : List Ru) (o : Nat) (a : Nat) : ∀ (l : List Nat) (c : List In4), rootsL rs o (l ++ [a]) c = (archC rs o a (rootsL rs o l c).1, (rootsL rs o l c).2 ++ [(a, (archC rs o a (rootsL rs o l c).1).length)])
 | [], c => rfl
 | m :: l, c => by
  have ih := rootsL_snoc rs o a l (archC rs o m c)
  simp only [List.cons_append, rootsL, ih]
theorem chainL_snoc (x : Nat × Nat) : ∀ (l : List (Nat × Nat)) (s : CLb), chainL (l ++ [x]) s = (branchL (chainL l s).1 21 x.1 x.2 (chainL l s).2, (branchL (chainL l s).1 21 x.1 x.2 (chainL l s).2).length)
 | [], s => rfl
 | y :: l, s => by
  have ih := chainL_snoc x l (branchL s.1 21 y.1 y.2 s.2, (branchL s.1 21 y.1 y.2 s.2).length)
  simp only [List.cons_append, chainL, ih]
structure LwSt where
 i : Nat
 of : List EO
 nrs : List EN
 ms : List Nat
 Z : Heap
theorem Lower_ok [HasWText G] [HasName G] [HasPol G] [HasIns G] [HasCode G] [HasMk G] [HasCondR G] [HasCondN G] [HasDataL G] [HasLow G] (p : Po) (hp : p.wf) :
  FP G 428 [.agg p.cs] (.tup [FL (if rightP p then lowerL p else []), .int .i64 (if rightP p then 0 else 1)]) := by
 refine FP_of HasLow.h_lower_Lower (Nat.le_of_ble_eq_true rfl) ?_
 have wr := polRight_ok (G := G) p hp.1 (fun r hr => ⟨(hp.2.1 r hr).1, (hp.2.1 r hr).2.2.2.2⟩) hp.2.2
 simp only [Po.cs] at wr
 simp [Po.cs]
 refine callP_of wr ?_
 cases hr : rightP p with
 | false => simp [FL]
 | true =>
  obtain ⟨hf, hl, hcl⟩ := right_fine hp hr
  have hk0 : Mkr [some (.cells p.cs), some (mkrC [] .full), some (.cells [.ptr 1 0]), none] 1 [] .full := ⟨rfl, .inr rfl, by intro n hn; simp at hn; simp [mkrC, Blk.cl, Po.cs, clL, V.cl, Tk.cl, show 1 < n by omega]⟩
  have w0 := addM_ok (G := G) hk0 6 p.dflt (.inr (.inl rfl)) (by simp)
  obtain ⟨c0, hc0⟩ : ∃ c0, c0 = putF [] 6 p.dflt := ⟨_, rfl⟩
  have hc0l : c0.length = 1 := by rw [hc0]; rfl
  rw [← hc0] at w0
  rw [hc0l] at w0
  simp only [mkrC, Po.cs, IL_nil] at w0
  simp
  refine callSF_of w0 ?_
  simp [mkSet, mkrC]
  have hpl : (RL p.rules).length = p.rules.length := by simp
  refine W_stateK (fun s : LwSt => p.rules.length - s.i) (fun s => [(4, .ptr 2 0), (5, .ptr 3 0), (6, .ptr 5 0), (7, .ptr 7 0), (8, .vs (nats .u32 s.ms) (.own 8)), (31, .vs (RL p.rules) .no), (32, .int .i64 p.rules.length), (33, .int .i64 s.i)])
   (fun s => LH p c0 (s.of.map vO) (s.nrs.map vN) s.ms.length s.Z) (fun s => s.i ≤ p.rules.length ∧ InvL (p.rules.take s.i) s.of s.nrs s.ms s.Z) ⟨0, [], [], [], []⟩ ?_ ?_
  ·refine ⟨⟨Nat.zero_le _, ⟨rfl, rfl, by simp, by simp, by simp, by simp, by simp, by simp, by simp, fun _ => rfl⟩⟩, ?_⟩
   simp [keep_cl, trunc, LH, mkrC, Po.cs]
   done
  rintro ⟨i, of, nrs, ms, Z⟩ ⟨hi, inv⟩
  simp only at hi inv ⊢
  have hsh : ∀ r : Heap, (∀ n, r.map (Option.map (Blk.cl n)) = r) → HShut (LH p c0 (of.map vO) (nrs.map vN) ms.length (Z ++ r)) := fun r hr => LH_shut (inv.more hr).cz (fun e he => (inv.more hr).oz_lt he) (fun e he => (inv.more hr).nz_lt he)
  by_cases hlt : i < p.rules.length
  ·obtain ⟨r, hr0⟩ : ∃ r, r = p.rules[i] := ⟨_, rfl⟩
   have hg : p.rules[i]? = some r := by rw [List.getElem?_eq_getElem hlt, hr0]
   have hgc := RL_get hg
   have hget : (RL p.rules)[i]'(by simpa using hlt) = r.cs := by rw [List.getElem?_eq_getElem (by simpa using hlt)] at hgc; exact Option.some.inj hgc
   have htk : p.rules.take (i + 1) = p.rules.take i ++ [r] := by rw [List.take_add_one, hg]; rfl
   have gk : ∀ (R : Heap) (k : Nat), (Z ++ R)[Z.length + k]? = R[k]? := fun R k => by rw [List.getElem?_append_right (by omega)]; congr 1; omega
   have gk0 : ∀ (R : Heap), (Z ++ R)[Z.length]? = R[0]? := fun R => gk R 0
   have sk : ∀ (R : Heap) (k : Nat) (x : Option Blk), (Z ++ R).set (Z.length + k) x = Z ++ R.set k x := fun R k x => by rw [List.set_append_right _ _ (by omega)]; congr 2; omega
   have sk0 : ∀ (R : Heap) (x : Option Blk), (Z ++ R).set Z.length x = Z ++ R.set 0 x := fun R x => sk R 0 x
   simp only [Ru.cs] at hgc hget
   have hrlen : ∀ a n, (rulesAt (p.rules.take i) a n).length ≤ 64 := fun a n => by have h1 := List.length_filter_le (fun r : Ru => decide (r.arch = a ∧ r.nr = n)) (p.rules.take i); have h2 := List.length_take_le i p.rules; unfold rulesAt; omega
   have hRLs : ∀ l : List Ru, (∀ f ∈ RL l, f.length = 4) = True := fun l => eq_true (fun f hf => by simp only [RL, List.mem_map] at hf; obtain ⟨x, _, rfl⟩ := hf; rfl)
   have hRL1 : ∀ l : List Ru, RL l ++ [[.int .u32 (r.arch : Int), .int .u32 (r.nr : Int), .vs (CL r.conds) .no, .int .u32 (r.act : Int)]] = RL (l ++ [r]) := fun l => by simp [RL, Ru.cs]
   have hkk := keyO r.arch r.nr r.arch r.nr
   simp only [and_self, decide_true] at hkk
   have hkn := keyN r.arch r.arch
   simp only [decide_true] at hkn
   have fin : ∀ (of' : List EO) (nrs' : List EN) (ms' : List Nat) (Z' : Heap) (e1 : Env) (H1 : Heap), InvL (p.rules.take (i + 1)) of' nrs' ms' Z' → H1 = LH p c0 (of'.map vO) (nrs'.map vN) ms'.length Z' →
     (keepE [4, 5, 6, 7, 8, 31, 32, 33] e1).cl (Z'.length + 9) = mkE [(4, .ptr 2 0), (5, .ptr 3 0), (6, .ptr 5 0), (7, .ptr 7 0), (8, .vs (nats .u32 ms') (.own 8)), (31, .vs (RL p.rules) .no), (32, .int .i64 p.rules.length), (33, .int .i64 (i + 1 : Nat))] →
     NxK (fun s : LwSt => p.rules.length - s.i) (fun s => [(4, .ptr 2 0), (5, .ptr 3 0), (6, .ptr 5 0), (7, .ptr 7 0), (8, .vs (nats .u32 s.ms) (.own 8)), (31, .vs (RL p.rules) .no), (32, .int .i64 p.rules.length), (33, .int .i64 s.i)])
      (fun s => LH p c0 (s.of.map vO) (s.nrs.map vN) s.ms.length s.Z) (fun s => s.i ≤ p.rules.length ∧ InvL (p.rules.take s.i) s.of s.nrs s.ms s.Z) [4, 5, 6, 7, 8, 31, 32, 33] 9 ⟨i, of, nrs, ms, Z⟩ e1 H1 := by
    intro of' nrs' ms' Z' e1 H1 hi' hH he
    subst hH
    have hs := (LH_shut (p := p) (c := c0) (m := ms'.length) hi'.cz (fun e he => hi'.oz_lt he) (fun e he => hi'.nz_lt he)).self
    rw [LH_len] at hs
    exact ⟨⟨i + 1, of', nrs', ms', Z'⟩, Z'.length + 9, by simp only; omega, ⟨hlt, hi'⟩, by omega, by rw [LH_len]; exact Nat.le_refl _, he, hs⟩
   simp (disch := omega) [ltT, get_in, hgc, hget, hlt, LH_app, LH_len, LH_z, LH_sz, gk, gk0, sk, sk0]
   by_cases hin : (r.arch, r.nr) ∈ of.map (·.1)
   ·obtain ⟨e, he, hek⟩ := List.mem_map.1 hin
    obtain ⟨j, hj⟩ := List.getElem?_of_mem he
    obtain ⟨⟨ea, en⟩, rl, z⟩ := e
    simp only [Prod.mk.injEq] at hek
    obtain ⟨rfl, rfl⟩ := hek
    have hfo := findO inv.ok hj
    have hrl := inv.ov _ he
    simp only at hrl
    have hrl64 : rl.length ≤ 64 := by rw [hrl]; exact hrlen _ _
    have hrl0 : (rl.length == 0) = false := by
     obtain ⟨x, hx, hxe⟩ := (inv.om (r.arch, r.nr)).1 hin
     have : x ∈ rl := by rw [hrl, rulesAt]; exact List.mem_filter.2 ⟨hx, by simpa using hxe⟩
     have := List.length_pos_of_mem this
     exact beq_false_of_ne (by omega)
    have hrl0' : ((rl.length : Int) == 0) = false := beqF (by have := ne_of_beq_false hrl0; omega)
    have hz := inv.oz _ he
    simp only at hz
    have hzl := inv.oz_lt he
    simp only at hzl
    have gz : ∀ R : Heap, (Z ++ R)[z]? = some (some (.zone rl.length)) := fun R => app_old hz
    have sz : ∀ (R : Heap) (x : Option Blk), (Z ++ R).set z x = Z.set z x ++ R := fun R x => List.set_append_left _ _ hzl
    have hjo : (of.map vO)[j]? = some (.agg [.int .u32 (r.arch : Int), .int .u32 (r.nr : Int)], .vs (RL rl) (.own (z + 9))) := by rw [List.getElem?_map, hj]; rfl
    have e1 : (of.map vO).set j (.agg [.int .u32 (r.arch : Int), .int .u32 (r.nr : Int)], .vs (RL rl) (.own (z + 9))) = of.map vO := set_same hjo
    have e2 : (of.map vO).set j (.agg [.int .u32 (r.arch : Int), .int .u32 (r.nr : Int)], .vs (RL (rl ++ [r])) (.own (z + 9))) = (of.set j ((r.arch, r.nr), rl ++ [r], z)).map vO := by rw [List.map_set]; rfl
    have hby : ((rl.length + 1) * 40 ≤ 140737488355328) = True := eq_true (by omega)
    simp (disch := omega) [LH_5, LH_4, LH_app, LH_len, LH_z, LH_sz, LH_s4, gk, gk0, sk, sk0, gz, sz, hfo, hkk, hrl0', e1, e2, hjo, hby, hRLs, hRL1]
    refine fin (of.set j ((r.arch, r.nr), rl ++ [r], z)) nrs ms (Z.set z (some (.zone (rl.length + 1))) ++ [some (.cells r.cs), some (.cells [.int .u32 (r.arch : Int), .int .u32 (r.nr : Int)]), none]) _ _ ?_ ?_ ?_
    ·rw [htk, ← sz]
     exact (inv.more (R := [some (.cells r.cs), some (.cells [.int .u32 (r.arch : Int), .int .u32 (r.nr : Int)]), none]) (fun n => by simp [Blk.cl, clL_cs, clL, V.cl])).oldC hj
    ·rw [List.map_set]; rfl
    ·simp (disch := omega) [keep_cl, ltTn, add1', -Int.natCast_add]
   ·have hfo := findO_no hin
    have hF2 : (Z.length + 2 ≤ Z.length) = False := eq_false (by omega)
    have hF21 : (Z.length + 2 ≤ Z.length + 1) = False := eq_false (by omega)
    have hF3 : (Z.length + 3 ≤ Z.length) = False := eq_false (by omega)
    have hF31 : (Z.length + 3 ≤ Z.length + 1) = False := eq_false (by omega)
    have hmo : (of.map vO ++ [(V.agg [.int .u32 (r.arch : Int), .int .u32 (r.nr : Int)], V.vs [] .full)])[of.length]? = some (V.agg [.int .u32 (r.arch : Int), .int .u32 (r.nr : Int)], V.vs [] .full) := by rw [List.getElem?_append_right (by simp)]; simp
    have hms : ∀ v, (of.map vO ++ [(V.agg [.int .u32 (r.arch : Int), .int .u32 (r.nr : Int)], V.vs [] .full)]).set of.length (V.agg [.int .u32 (r.arch : Int), .int .u32 (r.nr : Int)], v) = of.map vO ++ [(V.agg [.int .u32 (r.arch : Int), .int .u32 (r.nr : Int)], v)] := fun v => by rw [List.set_append_right _ _ (by simp)]; simp
    by_cases hia : r.arch ∈ nrs.map (·.1)
    ·obtain ⟨e, he, hek⟩ := List.mem_map.1 hia
     obtain ⟨j, hj⟩ := List.getElem?_of_mem he
     obtain ⟨ea, ns, z⟩ := e
     simp only at hek
     subst hek
     have hfn := findN (by rw [inv.nk]; exact firsts_nodup _) hj
     have hns := inv.nv _ he
     simp only at hns
     have hns0 : ((ns.length : Int) == 0) = false := by
      have : r.arch ∈ archsOf (p.rules.take i) := by rw [← inv.nk]; exact hia
      have := List.length_pos_iff.2 (nrs_ne this)
      rw [← hns] at this
      exact beqF (by omega)
     have hns64 : ns.length ≤ 64 := by
      have h1 := foldNew_len (((p.rules.take i).filter fun x => decide (x.arch = r.arch)).map (·.nr)) []
      have h2 := List.length_filter_le (fun x : Ru => decide (x.arch = r.arch)) (p.rules.take i)
      have h3 := List.length_take_le i p.rules
      simp only [List.length_map, List.length_nil, Nat.zero_add] at h1
      have : ns.length ≤ ((p.rules.take i).filter fun x => decide (x.arch = r.arch)).length := by rw [hns]; exact h1
      omega
     have hz := inv.nz _ he
     simp only at hz
     have hzl := inv.nz_lt he
     simp only at hzl
     have gz : ∀ R : Heap, (Z ++ R)[z]? = some (some (.zone ns.length)) := fun R => app_old hz
     have sz : ∀ (R : Heap) (x : Option Blk), (Z ++ R).set z x = Z.set z x ++ R := fun R x => List.set_append_left _ _ hzl
     have gk' : ∀ (x : Option Blk) (R : Heap) (k : Nat), (Z.set z x ++ R)[Z.length + k]? = R[k]? := fun x R k => by rw [List.getElem?_append_right (by simp), List.length_set]; congr 1; omega
     have gk0' : ∀ (x : Option Blk) (R : Heap), (Z.set z x ++ R)[Z.length]? = R[0]? := fun x R => gk' x R 0
     have sk' : ∀ (y : Option Blk) (R : Heap) (k : Nat) (x : Option Blk), (Z.set z y ++ R).set (Z.length + k) x = Z.set z y ++ R.set k x := fun y R k x => by rw [List.set_append_right _ _ (by simp), List.length_set]; congr 2; omega
     have hby : ((ns.length + 1) * 4 ≤ 140737488355328) = True := eq_true (by omega)
     have e3 : (nrs.map vN).set j (.int .u32 (r.arch : Int), .vs (nats .u32 (ns ++ [r.nr])) (.own (z + 9))) = (nrs.set j (r.arch, ns ++ [r.nr], z)).map vN := by rw [List.map_set]; rfl
     simp (disch := omega) [LH_5, LH_4, LH_6, LH_7, LH_8, LH_app, LH_len, LH_z, LH_sz, LH_s4, LH_s6, LH_s8, gk, gk0, sk, sk0, gz, sz, gk', gk0', sk', hfo, hkk, hkn, hfn, hns0, hmo, hms, e3, hby, hRLs, hRL1, hF2, hF21, hF3, hF31]
     have hlts : ∀ q ∈ nrs.map (·.2.2) ++ of.map (·.2.2), q < Z.length := by
      intro q hq
      rcases List.mem_append.1 hq with hq | hq
      ·obtain ⟨e, he, rfl⟩ := List.mem_map.1 hq; exact inv.nz_lt he
      ·obtain ⟨e, he, rfl⟩ := List.mem_map.1 hq; exact inv.oz_lt he
     refine fin (of ++ [((r.arch, r.nr), [r], Z.length + 3)]) (nrs.set j (r.arch, ns ++ [r.nr], z)) ms (Z.set z (some (.zone (ns.length + 1))) ++ [some (.cells r.cs), some (.cells [.int .u32 (r.arch : Int), .int .u32 (r.nr : Int)]), none, some (.zone 1)]) _ _ ?_ ?_ ?_
     ·rw [htk, ← sz]
      exact (inv.more (R := [some (.cells r.cs), some (.cells [.int .u32 (r.arch : Int), .int .u32 (r.nr : Int)]), none, some (.zone 1)]) (fun n => by simp [Blk.cl, clL_cs, clL, V.cl])).newC hin hj (by rw [gk]; rfl) (fun h => by have := hlts _ h; omega)
     ·rw [List.map_set, List.map_append]; rfl
     ·simp (disch := omega) [keep_cl, ltTn, add1', -Int.natCast_add]
    ·have hfn := findN_no hia
     have hms64 : ms.length ≤ 64 := by
      have h1 := archs_len (p.rules.take i)
      have h3 := List.length_take_le i p.rules
      rw [inv.ms_eq]; omega
     have hby : ((ms.length + 1) * 4 ≤ 140737488355328) = True := eq_true (by omega)
     have hF4 : (Z.length + 4 ≤ Z.length) = False := eq_false (by omega)
     have hF41 : (Z.length + 4 ≤ Z.length + 1) = False := eq_false (by omega)
     simp (disch := omega) [LH_5, LH_4, LH_6, LH_7, LH_8, LH_app, LH_len, LH_z, LH_sz, LH_s4, LH_s6, LH_s8, gk, gk0, sk, sk0, hfo, hkk, hkn, hfn, hmo, hms, hby, hRLs, hRL1, hF2, hF21, hF3, hF31, hF4, hF41]
     have hlts : ∀ q ∈ nrs.map (·.2.2) ++ of.map (·.2.2), q < Z.length := by
      intro q hq
      rcases List.mem_append.1 hq with hq | hq
      ·obtain ⟨e, he, rfl⟩ := List.mem_map.1 hq; exact inv.nz_lt he
      ·obtain ⟨e, he, rfl⟩ := List.mem_map.1 hq; exact inv.oz_lt he
     refine fin (of ++ [((r.arch, r.nr), [r], Z.length + 4)]) (nrs ++ [(r.arch, [r.nr], Z.length + 3)]) (ms ++ [r.arch]) (Z ++ [some (.cells r.cs), some (.cells [.int .u32 (r.arch : Int), .int .u32 (r.nr : Int)]), none, some (.zone 1), some (.zone 1)]) _ _ ?_ ?_ ?_
     ·rw [htk]
      exact (inv.more (R := [some (.cells r.cs), some (.cells [.int .u32 (r.arch : Int), .int .u32 (r.nr : Int)]), none, some (.zone 1), some (.zone 1)]) (fun n => by simp [Blk.cl, clL_cs, clL, V.cl])).newA hia (by rw [gk]; rfl) (by rw [gk]; rfl) (fun h => by have := hlts _ h; omega) (fun h => by have := hlts _ h; omega) (by omega)
     ·rw [List.map_append, List.map_append, List.length_append]; rfl
     ·simp (disch := omega) [keep_cl, ltTn, add1', -Int.natCast_add]
  ·have hin : i = p.rules.length := by omega
   subst hin
   rw [List.take_length] at inv
   have hs0 := (hsh [] (fun _ => rfl)).self
   simp only [List.append_nil, LH_len] at hs0
   simp (disch := omega) [ltF, keep_cl, ltTn, LH_len, hs0, LH_app]
   have hcost := lowCost_le hl hcl
   unfold lowCost at hcost
   have hms : ms = archsOf p.rules := inv.ms_eq
   have hmsl : ms.length ≤ 64 := by have := archs_len p.rules; rw [← hms] at this; omega
   obtain ⟨S, hS⟩ : ∃ S : Nat → List In4 × List (Nat × Nat), ∀ k, S k = rootsL p.rules 1 (ms.take k) c0 := ⟨_, fun _ => rfl⟩
   have hS0 : S 0 = (c0, []) := by rw [hS]; rfl
   have hSl : S ms.length = rootsL p.rules 1 (archsOf p.rules) c0 := by rw [hS, List.take_length, hms]
   have ho1 : 1 ≤ 1 ∧ 1 ≤ c0.length := ⟨Nat.le_refl _, by omega⟩
   have hSc : ∀ k, Came c0 ((S k).1, 1) (costRt p.rules (ms.take k)) ∧ labs (S k).1 (S k).2 ∧ (S k).2.map (·.1) = ms.take k := fun k => by
    rw [hS]
    exact roots_came hf.1 (fun a ha => by rw [hms] at ha; exact List.mem_of_mem_take ha) ho1
   have hshS : ∀ (c' : List In4) (r : Heap), (∀ n, r.map (Option.map (Blk.cl n)) = r) → HShut (LH p c' (of.map vO) (nrs.map vN) ms.length (Z ++ r)) := fun c' r hr => LH_shut (inv.more hr).cz (fun e he => (inv.more hr).oz_lt he) (fun e he => (inv.more hr).nz_lt he)
   have hMk : ∀ (c' : List In4) (r : Heap), (∀ n, r.map (Option.map (Blk.cl n)) = r) → Mkr (LH p c' (of.map vO) (nrs.map vN) ms.length (Z ++ r)) 1 c' .no := fun c' r hr => ⟨rfl, .inl rfl, hshS c' r hr⟩
   have hset : ∀ (c' c2 : List In4) (Z' : Heap), mkSet (LH p c' (of.map vO) (nrs.map vN) ms.length Z') 1 c2 = LH p c2 (of.map vO) (nrs.map vN) ms.length Z' := fun c' c2 Z' => rfl
   have gk : ∀ (R : Heap) (k : Nat), (Z ++ R)[Z.length + k]? = R[k]? := fun R k => by rw [List.getElem?_append_right (by omega)]; congr 1; omega
   have gk0 : ∀ (R : Heap), (Z ++ R)[Z.length]? = R[0]? := fun R => gk R 0
   have sk0 : ∀ (R : Heap) (x : Option Blk), (Z ++ R).set Z.length x = Z ++ R.set 0 x := fun R x => by rw [List.set_append_right _ _ (by omega), Nat.sub_self]
   have trS : ∀ (c' : List In4) (k : Nat) (r : Heap), trunc (Z.length + 1 + 9) (LH p c' (of.map vO) (nrs.map vN) ms.length (Z ++ some (.zone k) :: r)) = LH p c' (of.map vO) (nrs.map vN) ms.length (Z ++ [some (.zone k)]) := fun c' k r => by
    have := (hshS c' [some (.zone k)] (fun _ => rfl)).back r
    rw [LH_app, LH_len, List.length_append, List.append_assoc] at this
    exact this
   refine W_up ms.length (fun k => [(4, .ptr 2 0), (5, .ptr 3 0), (12, .fn 425 [.ptr 7 0, .ptr 2 0, .ptr 5 0, .ptr 3 0]), (13, .vs (EL (S k).2) (.own (Z.length + 9))), (79, .vs (nats .u32 ms) (.own 8)), (80, .int .i64 ms.length), (81, .int .i64 k)])
    (fun k => LH p (S k).1 (of.map vO) (nrs.map vN) ms.length (Z ++ [some (.zone k)])) (fun _ => True) ?_ ?_
   ·simp (disch := omega) [keep_cl, ltTn, LH_len, hS0, trS, show EL [] = [] from rfl]
   intro k hk _
   by_cases hlk : k < ms.length
   ·obtain ⟨a, ha0⟩ : ∃ a, a = ms[k] := ⟨_, rfl⟩
    have hga : ms[k]? = some a := by rw [List.getElem?_eq_getElem hlk, ha0]
    have hgn : (nats .u32 ms)[k]? = some [.int .u32 (a : Int)] := by simp [hga]
    have hge : (nats .u32 ms)[k]'(by simpa using hlk) = [.int .u32 (a : Int)] := by rw [List.getElem?_eq_getElem (by simpa using hlk)] at hgn; exact Option.some.inj hgn
    have ham : a ∈ archsOf p.rules := by rw [← hms]; exact List.mem_of_getElem? hga
    have hst : S (k + 1) = (archC p.rules 1 a (S k).1, (S k).2 ++ [(a, (archC p.rules 1 a (S k).1).length)]) := by rw [hS, hS, List.take_add_one, hga]; exact rootsL_snoc _ _ _ _ _
    obtain ⟨j1, j2, j3⟩ := hSc k
    have hln : (S k).2.length = k := by rw [← List.length_map (f := (·.1)), j3, List.length_take]; omega
    have hct := sumF_take (costA p.rules) ms k a hga
    rw [show sumF (costA p.rules) ms = costRt p.rules (archsOf p.rules) by rw [hms]; rfl] at hct
    have gj := j1.grown.len
    obtain ⟨⟨c1, es1⟩, hs1⟩ : ∃ s, s = S k := ⟨_, rfl⟩
    rw [← hs1] at hst gj j1 hln ⊢
    simp only [costRt] at hst gj hln hcost hct
    have hNj : ∃ j z : Nat, nrs[j]? = some (a, nrsOf p.rules a, z) := by
     have : a ∈ nrs.map (·.1) := by rw [inv.nk]; exact ham
     obtain ⟨e, he, hek⟩ := List.mem_map.1 this
     obtain ⟨j, hj⟩ := List.getElem?_of_mem he
     have hv := inv.nv e he
     obtain ⟨e1, e2, e3⟩ := e
     simp only at hek hv
     subst hek
     exact ⟨j, e3, by rw [hj, hv]⟩
    obtain ⟨jn, zn, hjn⟩ := hNj
    have hznl := inv.nz_lt (List.mem_of_getElem? hjn)
    simp only at hznl
    have hH1 : Holds1 (nrs.map vN) a (nrsOf p.rules a) (LH p c1 (of.map vO) (nrs.map vN) ms.length (Z ++ [some (.zone k), none])).length :=
     ⟨jn, .own (zn + 9), findN (by rw [inv.nk]; exact firsts_nodup _) hjn, fun m hm => by rw [LH_len] at hm; simp at hm; simp [Tk.cl]; omega⟩
    have hH2 : ∀ n ∈ nrsOf p.rules a, Holds2 (of.map vO) a n (rulesAt p.rules a n) (LH p c1 (of.map vO) (nrs.map vN) ms.length (Z ++ [some (.zone k), none])).length := fun n hn => by
     have : (a, n) ∈ of.map (·.1) := (inv.om _).2 (by obtain ⟨x, hx, e1, e2⟩ := nrs_mem.1 hn; exact ⟨x, hx, Prod.ext e1 e2⟩)
     obtain ⟨e, he, hek⟩ := List.mem_map.1 this
     obtain ⟨j, hj⟩ := List.getElem?_of_mem he
     have hv := inv.ov e he
     have hzl := inv.oz_lt he
     obtain ⟨e1, e2, e3⟩ := e
     simp only at hek hv hzl
     subst hek
     simp only at hv
     subst hv
     exact ⟨j, .own (e3 + 9), findO inv.ok hj, fun m hm => by rw [LH_len] at hm; simp at hm; simp [Tk.cl]; omega⟩
    have wb := beginM_ok (G := G) (rs := p.rules) (a := a) (o := 1) (hMk c1 [some (.zone k), none] (fun _ => rfl)) (pn := 7) (pm := 2) (po := 5) (px := 3) (mn := 6) (mo := 4) LH_7 LH_2 LH_5 LH_3 LH_6 LH_4 hH1 hH2 hf.1 ham (by omega) ⟨Nat.le_refl _, by omega⟩ (by omega)
    rw [hset] at wb
    obtain ⟨r1, H2, hB, hr1, hH2'⟩ := wb
    have hby : ((k + 1) * 16 ≤ 140737488355328) = True := eq_true (by omega)
    have hsn := EL_snoc es1 (a, (archC p.rules 1 a c1).length)
    simp only at hsn
    simp (disch := omega) [ltT, get_in, hgn, hge, hlk, LH_app, LH_len]
    refine callV_of (H1 := H2) (by simpa using hB) (fun h => by simp at h) ?_
    rw [hr1, hH2']
    simp (disch := omega) [EL_sz, LH_z, LH_sz, gk0, sk0, hln, hby, hsn, keep_cl, ltTn, add1', hst, trS, hlk, -Int.natCast_add]
   ·have hkn : k = ms.length := by omega
    subst hkn
    rw [hSl]
    have hms2 : ms.length = (rootsL p.rules 1 (archsOf p.rules) c0).2.length := by
     obtain ⟨_, _, h3⟩ := hSc ms.length
     rw [hSl, List.take_length] at h3
     have := congrArg List.length h3
     simpa using this.symm
    obtain ⟨q1, q2, q3⟩ := roots_came (rs := p.rules) (o := 1) hf.1 (l := archsOf p.rules) (c := c0) (fun _ h => h) ho1
    have hkq : ∀ e ∈ (rootsL p.rules 1 (archsOf p.rules) c0).2, e.1 < 4294967296 := by
     intro e he
     have : e.1 ∈ archsOf p.rules := by rw [← q3]; exact List.mem_map.2 ⟨e, he, rfl⟩
     obtain ⟨r, hr, h⟩ := archs_mem.1 this
     rw [← h]; exact (hf.1 r hr).2.1
    have hlow : lowerL p = if (rootsL p.rules 1 (archsOf p.rules) c0).2 = [] then (chainL (rootsL p.rules 1 (archsOf p.rules) c0).2 ((rootsL p.rules 1 (archsOf p.rules) c0).1, 1)).1 else putF (chainL (rootsL p.rules 1 (archsOf p.rules) c0).2 ((rootsL p.rules 1 (archsOf p.rules) c0).1, 1)).1 32 4 := by rw [hc0]; rfl
    rw [hlow]
    have gq := q1.grown.len
    have hac : (archsOf p.rules).length = ms.length := by rw [hms]
    obtain ⟨⟨cR, es⟩, hRs⟩ : ∃ s, s = rootsL p.rules 1 (archsOf p.rules) c0 := ⟨_, rfl⟩
    rw [← hRs] at q1 q2 q3 hkq gq hms2 ⊢
    have q1l := q1.lab
    simp only at gq hms2 q2 hkq q1l hcost ⊢
    obtain ⟨T, hT⟩ : ∃ T : Nat → CLb, ∀ k, T k = chainL (es.take k) (cR, 1) := ⟨_, fun _ => rfl⟩
    have hT0 : T 0 = (cR, 1) := by rw [hT]; rfl
    have hTl : T es.length = chainL es (cR, 1) := by rw [hT, List.take_length]
    have hTc : ∀ k, Came cR (T k) (3 * es.length) := fun k => by
     rw [hT]
     exact (chain_came (s := (cR, 1)) (fun e he => q2 e (List.mem_of_mem_take he)) (fun e he => hkq e (List.mem_of_mem_take he)) q1l).mono (by rw [List.length_take]; omega)
    have hel : es.length = ms.length := hms2.symm
    simp (disch := omega) [ltF, keep_cl, ltTn, LH_len, trS, LH_3, hel]
    have hM := fun c' => hMk c' [some (.zone ms.length)] (fun _ => rfl)
    refine W_up ms.length (fun k => [(4, .ptr 2 0), (13, .vs (EL es) (.own (Z.length + 9))), (16, .int .i64 (T k).2), (95, .vs (EL es) (.own (Z.length + 9))), (96, .int .i64 ms.length), (97, .int .i64 k)])
     (fun k => LH p (T k).1 (of.map vO) (nrs.map vN) ms.length (Z ++ [some (.zone ms.length)])) (fun _ => True) ?_ ?_
    ·simp (disch := omega) [keep_cl, ltTn, LH_len, hT0, trS, hel]
    intro k hk _
    by_cases hlk : k < ms.length
    ·have hlk' : k < es.length := by omega
     obtain ⟨x, hx0⟩ : ∃ x, x = es[k]'hlk' := ⟨_, rfl⟩
     have hgx : es[k]? = some x := by rw [List.getElem?_eq_getElem hlk', hx0]
     have hgc := EL_get hgx
     have hge : (EL es)[k]'(by simpa using hlk') = [.int .u32 (x.1 : Int), .int .i64 (x.2 : Int)] := by rw [List.getElem?_eq_getElem (by simpa using hlk')] at hgc; exact Option.some.inj hgc
     have hTs : T (k + 1) = (branchL (T k).1 21 x.1 x.2 (T k).2, (branchL (T k).1 21 x.1 x.2 (T k).2).length) := by rw [hT, hT, List.take_add_one, hgx]; exact chainL_snoc _ _ _
     have tc := chain_came (l := es.take k) (s := (cR, 1)) (fun e he => q2 e (List.mem_of_mem_take he)) (fun e he => hkq e (List.mem_of_mem_take he)) q1l
     rw [← hT] at tc
     have gt := tc.grown.len
     have lt := tc.lab
     rw [List.length_take] at gt
     have lx := q2 x (List.mem_of_getElem? hgx)
     simp only at lx gt
     obtain ⟨⟨c1, o1⟩, hs1⟩ : ∃ s, s = T k := ⟨_, rfl⟩
     rw [← hs1] at hTs gt lt ⊢
     simp only at gt lt hTs
     have wb := branchM_ok (G := G) (hMk c1 [some (.zone ms.length), some (.cells [.int .u32 (x.1 : Int), .int .i64 (x.2 : Int)])] (fun n => rfl)) 21 x.1 x.2 o1 (.inl rfl) ⟨lx.1, by omega⟩ lt (by omega)
     rw [hset] at wb
     simp (disch := omega) [ltT, get_in, hgc, hge, hlk, LH_app, LH_len, LH_z, LH_sz, gk, gk0, LH_2]
     refine callSF_of wb ?_
     simp (disch := omega) [keep_cl, ltTn, add1', hTs, trS, hlk, -Int.natCast_add]
    ·have hkn2 : k = ms.length := by omega
     subst hkn2
     have hTe : T ms.length = chainL es (cR, 1) := by rw [← hel]; exact hTl
     by_cases hes : es = []
     ·have hm0 : ms.length = 0 := by rw [← hel, hes]; rfl
      have hm0' : (0 < ms.length) = False := eq_false (by omega)
      rw [if_pos hes]
      rw [hTe]
      generalize chainL es (cR, 1) = s2
      simp (disch := omega) [ltF, keep_cl, ltTn, LH_len, trS, hel, hm0', LH_1, LH_2, FL]
     ·have hm0 : ms.length ≠ 0 := by rw [← hel]; exact fun h => hes (List.length_eq_zero_iff.1 h)
      have hm0' : ((0 : Int) < (ms.length : Int)) = True := eq_true (by omega)
      have tc := (hTc ms.length).grown.len
      rw [hTe] at tc
      rw [if_neg hes]
      rw [hTe]
      generalize chainL es (cR, 1) = s2 at *
      have wa := addM_ok (G := G) (hM s2.1) 32 4 (.inr (.inr ⟨rfl, by decide, by decide⟩)) (by omega)
      rw [hset] at wa
      simp (disch := omega) [ltF, keep_cl, ltTn, LH_len, trS, hel, hm0', LH_1, LH_2]
      refine callSF_of wa ?_
      simp (disch := omega) [ltF, keep_cl, ltTn, LH_len, trS, hel, hm0', LH_1, LH_2, FL]
end Go.Ev
