/- A window's values are what it makes of a state: plain laws. -/
import Derived.Test.YtpfmblidlbjcmaaGreatDoorCheckBW
namespace Go.Ev
open Go Go.RowKit
set_option maxRecDepth 10000
set_option maxHeartbeats 1000000
set_option linter.unusedSimpArgs false
set_option linter.unusedVariables false
variable {L L' : List Nd} {v : List Nat}
theorem hasI_nat {n : Nat} (h : n < L.length) : hasI L (n : Int) = true := by simp [hasI]; exact h
theorem valI_extI {k : Nat} {x : Int} (e : Ext L L' k) (h : hasI L x = true) : hasI L' x = true ∧ valI v L' x = valI v L x := by
  obtain ⟨h0, h1⟩ : 0 ≤ x ∧ x < L.length := by simpa [hasI] using h
  obtain ⟨n, rfl⟩ := Int.eq_ofNat_of_zero_le h0
  have := e.pre.length_le
  exact ⟨hasI_nat (by omega), valI_ext e (by omega)⟩
theorem Res.has {q : Int × List Nd} {o : Option Nat} (h : Res v q o) : hasI q.2 q.1 = true ∧ valI v q.2 q.1 = o := by
  obtain ⟨n, h1, h2, h3⟩ := h
  rw [h1]
  exact ⟨hasI_nat h2, h3⟩
/-- The parts of a state. -/
def pt (t : St) : List Nat := t.a :: t.x :: t.m
structure PV (v : List Nat) (L : List Nd) (p : List Int) (t : St) : Prop where
  len : p.length = 18
  val : ∀ i, i < 18 → hasI L (p.getD i 0) = true ∧ valI v L (p.getD i 0) = some ((pt t).getD i 0)
theorem pt_len {t : St} (h : t.ok) : (pt t).length = 18 := by simp [pt, h.2.2.1]
theorem PV.set {p : List Int} {t t' : St} {k i n : Nat} {x : Int} (h : PV v L p t) (e : Ext L L' k) (hx : hasI L' x = true) (hv : valI v L' x = some n) (hi : i < 18) (hl : (pt t).length = 18) (ht : pt t' = (pt t).set i n) : PV v L' (p.set i x) t' := by
  refine ⟨by rw [List.length_set]; exact h.len, fun j hj => ?_⟩
  rw [ht, List.getD_eq_getElem?_getD, List.getD_eq_getElem?_getD, List.getElem?_set, List.getElem?_set]
  by_cases hij : i = j
  · subst hij
    simp only [if_true, h.len, hl, hi, Option.getD_some]
    exact ⟨hx, hv⟩
  · simp only [hij, if_false, ← List.getD_eq_getElem?_getD]
    obtain ⟨h1, h2⟩ := h.val j hj
    obtain ⟨h3, h4⟩ := valI_extI (v := v) e h1
    exact ⟨h3, by rw [h4, h2]⟩
theorem PV.same {p : List Int} {t : St} {k : Nat} (h : PV v L p t) (e : Ext L L' k) : PV v L' p t :=
  ⟨h.len, fun j hj => by obtain ⟨h1, h2⟩ := h.val j hj; obtain ⟨h3, h4⟩ := valI_extI (v := v) e h1; exact ⟨h3, by rw [h4, h2]⟩⟩
theorem aluT_valid {op : Int} (h : (aluT op).2.2 = true) : (doW (aluT op).1 0 1).2 = true := by
  unfold aluT at h ⊢
  split at h
  · rename_i hm
    rw [if_pos hm]
    simp only [List.mem_cons, List.not_mem_nil, or_false] at hm
    rcases hm with rfl | rfl | rfl | rfl | rfl | rfl | rfl | rfl | rfl <;> decide
  · rename_i hn
    rw [if_neg hn]
    split at h
    · rename_i hm
      rw [if_pos hm]
      simp only [List.mem_cons, List.not_mem_nil, or_false] at hm
      rcases hm with rfl | rfl | rfl | rfl | rfl | rfl | rfl | rfl | rfl <;> decide
    · cases h
/-- What an instruction that is done makes of the values. -/
theorem step_val {s : VS} {t : St} {st0 : St} {d : Da} {x : In4} (hi : Inv s.L) (h : PV (asgL st0 d) s.L s.p t) (hs0 : st0.ok) (hd : d.ok) (ht : t.ok) (hk : x.k < 4294967296) (hx : plainW x = true) (hgo : (stepS t x d).2 = true) :
    PV (asgL st0 d) (stepV s x).L (stepV s x).p (stepS t x d).1 := by
  have hv := asgL_len hs0 hd
  have hvw := asgL_lt hs0 hd
  obtain ⟨v, hvd⟩ : ∃ v, v = asgL st0 d := ⟨_, rfl⟩
  have hw18 : ∀ j, j < 16 → v[18 + j]?.getD 0 = (wordsD d).getD j 0 := fun j hj => by
    have := asgL_drop (d := d) hs0
    rw [← hvd] at this
    rw [List.getD_eq_getElem?_getD, ← this, List.getElem?_drop]
  rw [← hvd] at h hv hvw ⊢
  have hl := pt_len ht
  have rk : ∀ (q : Int × List Nd) (n : Nat), Res v q (some n) → ∀ (i k : Nat) (t' : St), Ext s.L q.2 k → i < 18 → pt t' = (pt t).set i n → PV v q.2 (s.p.set i q.1) t' := fun q n hr i k t' e hi' ht' => by
    obtain ⟨h1, h2⟩ := hr.has
    exact h.set e h1 h2 hi' hl ht'
  have cp : ∀ (i j : Nat) (t' : St), i < 18 → j < 18 → pt t' = (pt t).set i ((pt t).getD j 0) → PV v s.L (s.p.set i (s.p.getD j 0)) t' := fun i j t' hi' hj ht' => by
    obtain ⟨h1, h2⟩ := h.val j hj
    exact h.set (.refl hi 0) h1 h2 hi' hl ht'
  have rc : Res v (putN s.L (sumNd (x.k :: zeros 34))) (some x.k) := const_res hi hv hk
  have ec : Ext s.L (putN s.L (sumNd (x.k :: zeros 34))).2 1 := (put_ext hi (sum_good (by simp) (const_lt hk) _)).1
  have hmem : x.op = 96 ∨ x.op = 97 ∨ x.op = 2 ∨ x.op = 3 → x.k < 16 := fun ho => by
    simp only [plainW, Bool.and_eq_true] at hx
    have h2 := hx.2
    rcases ho with ho | ho | ho | ho <;> simp [ruleB, ho] at h2 <;> exact h2
  have hld : x.op = 32 → x.k % 4 = 0 ∧ x.k < 64 := fun ho => by
    simp only [plainW, Bool.and_eq_true] at hx
    have h2 := hx.2
    simp [ruleB, ho] at h2; exact h2
  cases hal : (aluT x.op).2.2 with
  | true =>
    rw [stepS, if_pos hal] at hgo
    simp only at hgo
    have hst : (stepS t x d).1 = { t with a := (aluR t x).1 } := by rw [stepS, if_pos hal]; simp only [hgo, if_true]
    rw [hst, stepV, if_pos hal]
    -- by what
    have hby : Ext s.L (byV s x).2 1 ∧ hasI (byV s x).2 (byV s x).1 = true ∧ valI v (byV s x).2 (byV s x).1 = some (aluB t x) := by
      rw [byV, aluB]
      cases hb : (aluT x.op).2.1 with
      | true =>
        simp only [if_true]
        obtain ⟨h1, h2⟩ := h.val 1 (by omega)
        exact ⟨.refl hi 1, h1, h2⟩
      | false =>
        simp only [Bool.false_eq_true, if_false]
        obtain ⟨h1, h2⟩ := rc.has
        exact ⟨ec, h1, h2⟩
    obtain ⟨e1, b1, b2⟩ := hby
    obtain ⟨p1, p2⟩ := h.val 0 (by omega)
    obtain ⟨p3, p4⟩ := valI_extI (v := v) e1 p1
    have r := alu_res (v := v) (kind := (aluT x.op).1) (x := s.p.getD 0 0) (y := (byV s x).1) e1.inv hv hvw (aluT_valid hal) p3 b1
    rw [p4, p2, b2] at r
    have ha : (pt t).getD 0 0 = t.a := rfl
    have hr : aluV (aluT x.op).1 (some t.a) (some (aluB t x)) = some (aluR t x).1 := aluV_some hgo
    rw [ha, hr] at r
    exact rk _ _ r 0 3 _ (e1.trans (alu_ext e1.inv)) (by omega) rfl
  | false =>
    have hst : (stepS t x d).1 = stepO t x d := by rw [stepS, if_neg (by simp [hal])]
    rw [hst, stepV, if_neg (by simp [hal]), stepO]
    by_cases o0 : x.op = 0
    · simp only [o0, if_true]
      exact rk _ _ rc 0 1 _ ec (by omega) rfl
    by_cases o1 : x.op = 1
    · simp only [o1, if_true]
      exact rk _ _ rc 1 1 _ ec (by omega) rfl
    by_cases o32 : x.op = 32
    · obtain ⟨k4, k64⟩ := hld o32
      have r := var_res (v := v) (i := ((18 + x.k / 4 : Nat) : Int)) hi hv hvw (by omega) (by omega)
      rw [Int.toNat_natCast, hw18 _ (by omega)] at r
      have hw : (wordS d x.k).1 = (wordsD d).getD (x.k / 4) 0 := by rw [wordS, if_pos ⟨k4, k64⟩]
      rw [if_neg o0, if_neg o1, if_pos o32, if_neg o0, if_neg o1, if_pos o32]
      have e : ((18 + x.k / 4 : Nat) : Int) = 18 + ((x.k / 4 : Nat) : Int) := by omega
      rw [e] at r
      exact rk _ _ r 0 1 _ (var_ext hi) (by omega) (by rw [hw]; rfl)
    by_cases o96 : x.op = 96
    · have k16 := hmem (.inl o96)
      rw [if_neg o0, if_neg o1, if_neg o32, if_pos o96, if_neg o0, if_neg o1, if_neg o32, if_pos o96]
      exact cp 0 (2 + x.k) _ (by omega) (by omega) (by rw [cellS, if_pos k16]; simp only [pt, List.set_cons_zero]; rw [show 2 + x.k = x.k + 1 + 1 by omega, List.getD_cons_succ, List.getD_cons_succ])
    by_cases o97 : x.op = 97
    · have k16 := hmem (.inr (.inl o97))
      rw [if_neg o0, if_neg o1, if_neg o32, if_neg o96, if_pos o97, if_neg o0, if_neg o1, if_neg o32, if_neg o96, if_pos o97]
      exact cp 1 (2 + x.k) _ (by omega) (by omega) (by rw [cellS, if_pos k16]; simp only [pt, List.set_cons_succ, List.set_cons_zero]; rw [show 2 + x.k = x.k + 1 + 1 by omega, List.getD_cons_succ, List.getD_cons_succ])
    by_cases o2 : x.op = 2
    · have k16 := hmem (.inr (.inr (.inl o2)))
      rw [if_neg o0, if_neg o1, if_neg o32, if_neg o96, if_neg o97, if_pos o2, if_neg o0, if_neg o1, if_neg o32, if_neg o96, if_neg o97, if_pos o2]
      exact cp (2 + x.k) 0 _ (by omega) (by omega) (by rw [storeS, if_pos k16, show 2 + x.k = x.k + 1 + 1 by omega]; rfl)
    by_cases o3 : x.op = 3
    · have k16 := hmem (.inr (.inr (.inr o3)))
      rw [if_neg o0, if_neg o1, if_neg o32, if_neg o96, if_neg o97, if_neg o2, if_pos o3, if_neg o0, if_neg o1, if_neg o32, if_neg o96, if_neg o97, if_neg o2, if_pos o3]
      exact cp (2 + x.k) 1 _ (by omega) (by omega) (by rw [storeS, if_pos k16, show 2 + x.k = x.k + 1 + 1 by omega]; rfl)
    rw [if_neg o0, if_neg o1, if_neg o32, if_neg o96, if_neg o97, if_neg o2, if_neg o3, if_neg o0, if_neg o1, if_neg o32, if_neg o96, if_neg o97, if_neg o2, if_neg o3]
    by_cases o132 : x.op = 132
    · obtain ⟨p1, p2⟩ := h.val 0 (by omega)
      have r := neg_res (v := v) hi hv hvw p1
      rw [p2] at r
      simp only [o132, if_true]
      exact rk _ (negW t.a) r 0 3 _ (neg_ext hi) (by omega) rfl
    by_cases o7 : x.op = 7
    · simp only [o7, if_true]
      have h1 := cp 1 0 { t with x := t.a } (by omega) (by omega) rfl
      obtain ⟨p1, p2⟩ := h.val 0 (by omega)
      exact h1.set (.refl hi 0) p1 p2 (by omega) (by simp [pt, ht.2.2.1]) rfl
    by_cases o135 : x.op = 135
    · simp only [o135, if_true]
      exact cp 0 1 _ (by omega) (by omega) rfl
    simp only [o132, o7, o135, if_false]
    exact h
end Go.Ev
/- A window's values, from its front to its end: plain laws. -/
namespace Go.Ev
open Go Go.RowKit
set_option maxRecDepth 10000
set_option maxHeartbeats 1000000
set_option linter.unusedSimpArgs false
set_option linter.unusedVariables false
variable {L L' : List Nd} {v : List Nat}
/-- How many divisions by X there are among the first so many. -/
def divN (w : List In4) (n : Nat) : Nat := (w.take n).countP fun x => decide (x.op = 60)
theorem divN_cons (x : In4) (w : List In4) (n : Nat) : divN (x :: w) (n + 1) = (if x.op = 60 then 1 else 0) + divN w n := by
  simp only [divN, List.take_succ_cons, List.countP_cons, decide_eq_true_eq]; omega
theorem divN_le (w : List In4) (n : Nat) : divN w n ≤ n := by
  have := List.countP_le_length (p := fun x : In4 => decide (x.op = 60)) (l := w.take n)
  simp only [divN]; simp at this; omega
theorem aluT_div {op : Int} : (aluT op).2.1 = true ∧ (aluT op).1 = 52 ↔ op = 60 := by
  constructor
  · rintro ⟨h1, h2⟩
    unfold aluT at h1 h2
    split at h1
    · cases h1
    · rename_i hn
      rw [if_neg hn] at h2
      split at h1
      · rename_i hm
        rw [if_pos hm] at h2
        simp only at h2
        omega
      · cases h1
  · rintro rfl
    decide
theorem aluT_60 : aluT 60 = (52, true, true) := by decide
theorem st_push (s : VS) (x : In4) : (stepV s x).st = s.st ++ (if x.op = 60 then [s.p.getD 1 0] else []) := by
  by_cases h : x.op = 60
  · have ht : (aluT x.op).2.2 = true := by rw [h]; decide
    rw [stepV, if_pos ht, if_pos h]
    simp only [aluT_div.2 h, and_self, if_true]
  · rw [if_neg h, List.append_nil, stepV]
    split
    · simp only [show ¬ ((aluT x.op).2.1 = true ∧ (aluT x.op).1 = 52) from fun h' => h (aluT_div.1 h'), if_false]
    · repeat (first | rfl | split)
theorem doW_false {kind : Int} {a b : Nat} (hk : (doW kind 0 1).2 = true) (h : (doW kind a b).2 = false) : kind = 52 ∧ b = 0 := by
  unfold doW at hk h
  by_cases h52 : kind = 52
  · subst h52
    refine ⟨rfl, ?_⟩
    by_cases hb : b = 0
    · exact hb
    · simp [hb] at h
  · exfalso
    repeat' split at h
    all_goals first | (cases h; done) | skip
    all_goals simp_all
theorem div_only {t : St} {x : In4} {d : Da} (hx : plainW x = true) (h : (stepS t x d).2 = false) : x.op = 60 ∧ t.x = 0 := by
  rw [stepS] at h
  split at h
  · rename_i ht
    simp only at h
    obtain ⟨h1, h2⟩ := doW_false (aluT_valid ht) h
    cases hb : (aluT x.op).2.1 with
    | true =>
      rw [aluB, if_pos hb] at h2
      exact ⟨aluT_div.1 ⟨hb, h1⟩, h2⟩
    | false =>
      exfalso
      rw [aluB, hb, if_neg (by simp)] at h2
      have : x.op = 52 := by
        unfold aluT at h1 hb
        split at h1
        · exact h1
        · rename_i hn
          rw [if_neg hn] at hb
          split at h1
          · rename_i hm
            rw [if_pos hm] at hb
            cases hb
          · cases h1
      simp only [plainW, ruleB, this, Bool.and_eq_true] at hx
      simp at hx
      omega
  · cases h
theorem go_div {t : St} {x : In4} {d : Da} (h : (stepS t x d).2 = true) (ho : x.op = 60) : t.x ≠ 0 := by
  intro h0
  rw [stepS, if_pos (by rw [ho]; decide)] at h
  simp only [aluR, aluB, ho, aluT_60, if_true, h0] at h
  simp [doW] at h
theorem stepV_ext {s : VS} {x : In4} (hi : Inv s.L) (hp : s.p.length = 18) (hk : x.k < 4294967296) : Ext s.L (stepV s x).L 3 ∧ (stepV s x).p.length = 18 := by
  have := stepV_ok (L := s.L) (s := s) (k := 0) (n := s.st.length) ⟨.refl hi 0, hp, Nat.le_refl _⟩ hk
  exact ⟨this.ext, this.len⟩
theorem fold_ext : ∀ (w : List In4) {s : VS}, Inv s.L → s.p.length = 18 → (∀ x ∈ w, x.k < 4294967296) → Ext s.L (w.foldl stepV s).L (3 * w.length) ∧ (w.foldl stepV s).p.length = 18
  | [], s, hi, hp, _ => ⟨.refl hi _, hp⟩
  | x :: w, s, hi, hp, hk => by
    obtain ⟨e1, h1⟩ := stepV_ext hi hp (hk x (by simp))
    obtain ⟨e2, h2⟩ := fold_ext w (s := stepV s x) e1.inv h1 fun y hy => hk y (by simp [hy])
    exact ⟨(e1.trans e2).mono (by simp; omega), h2⟩
theorem fold_st : ∀ (w : List In4) (s : VS), ∃ new, (w.foldl stepV s).st = s.st ++ new ∧ new.length = divN w w.length
  | [], s => ⟨[], by simp, by simp [divN]⟩
  | x :: w, s => by
    obtain ⟨new, h1, h2⟩ := fold_st w (stepV s x)
    refine ⟨(if x.op = 60 then [s.p.getD 1 0] else []) ++ new, by rw [List.foldl_cons, h1, st_push, List.append_assoc], ?_⟩
    rw [List.length_cons, divN_cons, List.length_append, h2]
    split <;> rfl
/-- What a window's values and stops have. -/
structure WV (v : List Nat) (L : List Nd) (p st : List Int) (w : List In4) (d : Da) (t : St) : Prop where
  num : st.length = divN w w.length
  ahead : ∀ i, i < divN w (runW d w t).2 → ∃ x n, st[i]? = some x ∧ hasI L x = true ∧ valI v L x = some n ∧ n ≠ 0
  stop : (runW d w t).2 < w.length → ∃ x, st[divN w (runW d w t).2]? = some x ∧ hasI L x = true ∧ valI v L x = some 0
  done : (runW d w t).2 = w.length → PV v L p (runW d w t).1
theorem fold_vals {s0 : St} {d : Da} (hs0 : s0.ok) (hd : d.ok) : ∀ (w : List In4) {s : VS} {t : St}, Inv s.L → PV (asgL s0 d) s.L s.p t → t.ok → (∀ x ∈ w, x.k < 4294967296) → (∀ x ∈ w, plainW x = true) →
    ∃ new, (w.foldl stepV s).st = s.st ++ new ∧ WV (asgL s0 d) (w.foldl stepV s).L (w.foldl stepV s).p new w d t
  | [], s, t, hi, hp, ht, _, _ => ⟨[], by simp, by simp [divN], fun i h => by simp [divN] at h, fun h => by simp [runW] at h, fun _ => hp⟩
  | x :: w, s, t, hi, hp, ht, hk, hx => by
    have hkx := hk x (by simp)
    have hxx := hx x (by simp)
    obtain ⟨e1, h1⟩ := stepV_ext hi hp.len hkx
    have hkw : ∀ y ∈ w, y.k < 4294967296 := fun y hy => hk y (by simp [hy])
    obtain ⟨e2, h2⟩ := fold_ext w (s := stepV s x) e1.inv h1 hkw
    have e := e1.trans e2
    obtain ⟨q1, q2⟩ := hp.val 1 (by omega)
    obtain ⟨q3, q4⟩ := valI_extI (v := asgL s0 d) e q1
    rw [q2] at q4
    have hp1 : (pt t).getD 1 0 = t.x := rfl
    rw [hp1] at q4
    rw [List.foldl_cons]
    cases hgo : (stepS t x d).2 with
    | true =>
      have hp' := step_val hi hp hs0 hd ht hkx hxx hgo
      have ht' := stepS_ok' ht hkx hd
      obtain ⟨new, n1, n2⟩ := fold_vals hs0 hd w e1.inv hp' ht' hkw fun y hy => hx y (by simp [hy])
      have hr : runW d (x :: w) t = ((runW d w (stepS t x d).1).1, (runW d w (stepS t x d).1).2 + 1) := by simp only [runW, hgo, if_true]
      obtain ⟨m1, m2, m3, m4⟩ := n2
      refine ⟨(if x.op = 60 then [s.p.getD 1 0] else []) ++ new, by rw [n1, st_push, List.append_assoc], ?_, ?_, ?_, ?_⟩
      · rw [List.length_cons, divN_cons, List.length_append, m1]
        split <;> rfl
      · rw [hr]
        intro i hlt
        simp only [divN_cons] at hlt
        by_cases ho : x.op = 60
        · rw [if_pos ho] at hlt ⊢
          cases i with
          | zero => exact ⟨_, _, rfl, q3, q4, go_div hgo ho⟩
          | succ i =>
            obtain ⟨y, n, a1, a2⟩ := m2 i (by omega)
            exact ⟨y, n, by simpa using a1, a2⟩
        · rw [if_neg ho] at hlt ⊢
          obtain ⟨y, n, a1, a2⟩ := m2 i (by omega)
          exact ⟨y, n, by simpa using a1, a2⟩
      · rw [hr]
        intro hlt
        simp only [divN_cons, List.length_cons] at hlt ⊢
        obtain ⟨y, a1, a2⟩ := m3 (by omega)
        refine ⟨y, ?_, a2⟩
        by_cases ho : x.op = 60
        · rw [if_pos ho, if_pos ho, Nat.add_comm]
          simpa using a1
        · rw [if_neg ho, if_neg ho, Nat.zero_add]
          simpa using a1
      · rw [hr]
        intro h
        simp only [List.length_cons] at h
        exact m4 (by omega)
    | false =>
      obtain ⟨ho, h0⟩ := div_only hxx hgo
      have hr : runW d (x :: w) t = (t, 0) := by simp only [runW, hgo, Bool.false_eq_true, if_false]
      obtain ⟨new, n1, n2⟩ := fold_st w (stepV s x)
      refine ⟨(if x.op = 60 then [s.p.getD 1 0] else []) ++ new, by rw [n1, st_push, List.append_assoc], ?_, ?_, ?_, ?_⟩
      · rw [List.length_cons, divN_cons, List.length_append, n2]
        split <;> rfl
      · rw [hr]; intro i hlt; simp [divN] at hlt
      · rw [hr]
        intro _
        rw [if_pos ho]
        exact ⟨_, rfl, q3, by rw [q4, h0]⟩
      · rw [hr]; intro h; simp at h
theorem asg_pt {s : St} {d : Da} (hs : s.ok) {i : Nat} (hi : i < 18) : (asgL s d).getD i 0 = (pt s).getD i 0 := by
  have hl := hs.2.2.1
  have e : asgL s d = pt s ++ wordsD d := by simp [asgL, pt]
  rw [e, List.getD_eq_getElem?_getD, List.getD_eq_getElem?_getD, List.getElem?_append_left (by simp [pt, hl]; omega)]
theorem vars_val {s : St} {d : Da} (hi : Inv L) (hs : s.ok) (hd : d.ok) : PV (asgL s d) (varsV L 18).L (varsV L 18).p s := by
  have hv := asgL_len hs hd
  have hvw := asgL_lt hs hd
  have main : ∀ n, n ≤ 18 → ∀ i, i < n → hasI (varsV L n).L ((varsV L n).p.getD i 0) = true ∧ valI (asgL s d) (varsV L n).L ((varsV L n).p.getD i 0) = some ((pt s).getD i 0) := by
    intro n
    induction n with
    | zero => intro _ i h; omega
    | succ n ih =>
      intro hn i hin
      have ok := varsV_ok hi n
      rw [varsV_succ, varV]
      simp only
      have r := var_res (v := asgL s d) (i := (n : Int)) ok.ext.inv hv hvw (by omega) (by omega)
      obtain ⟨r1, r2⟩ := r.has
      by_cases h : i = n
      · subst h
        rw [List.getD_eq_getElem?_getD, List.getElem?_set, if_pos rfl, if_pos (by rw [ok.len]; omega), Option.getD_some]
        refine ⟨r1, ?_⟩
        rw [r2, Int.toNat_natCast, ← List.getD_eq_getElem?_getD, asg_pt hs (by omega)]
      · rw [List.getD_eq_getElem?_getD, List.getElem?_set, if_neg (by omega), ← List.getD_eq_getElem?_getD]
        obtain ⟨h1, h2⟩ := ih (by omega) i (by omega)
        obtain ⟨h3, h4⟩ := valI_extI (v := asgL s d) (var_ext ok.ext.inv) h1
        exact ⟨h3, by rw [h4, h2]⟩
  exact ⟨(varsV_ok hi 18).len, fun i h => main 18 (Nat.le_refl _) i h⟩
/-- What the values of a window have, of a state and a record. -/
theorem win_vals {s : St} {d : Da} {w : List In4} (hi : Inv L) (hs : s.ok) (hd : d.ok) (hk : ∀ x ∈ w, x.k < 4294967296) (hw : winB w = true) : WV (asgL s d) (winV L w).L (winV L w).p (winV L w).st w d s := by
  have hwp : ∀ x ∈ w, plainW x = true := by simp only [winB, Bool.and_eq_true, List.all_eq_true] at hw; exact hw.2
  obtain ⟨new, h1, h2⟩ := fold_vals hs hd w (varsV_ok hi 18).ext.inv (vars_val hi hs hd) hs hk hwp
  rw [varsV_st, List.nil_append] at h1
  rw [← h1] at h2
  exact h2
/-- They have the same in a book that was made of theirs. -/
theorem WV.ext {p st : List Int} {w : List In4} {d : Da} {t : St} {k : Nat} (h : WV v L p st w d t) (e : Ext L L' k) : WV v L' p st w d t := by
  have tr : ∀ {x : Int} {o : Option Nat}, hasI L x = true → valI v L x = o → hasI L' x = true ∧ valI v L' x = o := fun a b => by
    obtain ⟨h3, h4⟩ := valI_extI (v := v) e a
    exact ⟨h3, by rw [h4, b]⟩
  refine ⟨h.num, fun i hi => ?_, fun hl => ?_, fun hl => (h.done hl).same e⟩
  · obtain ⟨x, n, a, b, c, d⟩ := h.ahead i hi
    obtain ⟨h1, h2⟩ := tr b c
    exact ⟨x, n, a, h1, h2, d⟩
  · obtain ⟨x, a, b, c⟩ := h.stop hl
    obtain ⟨h1, h2⟩ := tr b c
    exact ⟨x, a, h1, h2⟩
end Go.Ev
/- WindowValues. -/
namespace Go.Ev
open Go Go.RowKit
variable {G : Tbl}
set_option maxRecDepth 10000
set_option maxHeartbeats 4000000
set_option linter.unusedSimpArgs false
set_option linter.unusedVariables false
theorem divN_succ {w : List In4} {i : Nat} {x : In4} (h : w[i]? = some x) : divN w (i + 1) = divN w i + (if x.op = 60 then 1 else 0) := by
  rw [divN, List.take_add_one, h, List.countP_append, divN]
  simp [List.countP_cons]
theorem Divides_ok [HasR17d G] (w : List In4) (n : Nat) (hf : w.length ≤ 1000000) (hn : n ≤ w.length) : FP G 305 [FL w, .int .i64 n] (.int .i64 (divN w n : Nat)) := by
  refine FP_of HasR17d.h_hurdleref17_Divides (Nat.le_of_ble_eq_true rfl) ?_
  simp [FL]
  refine W_up n (fun i => [(0, .vs (IL w) .no), (1, .int .i64 n), (5, .int .i64 (divN w i : Nat)), (6, .int .i64 i)]) (fun _ => []) (fun _ => True) ?_ ?_
  · simp [keep_cl, trunc, divN]
  intro i hi _
  by_cases hlt : i < n
  · obtain ⟨x, hx⟩ : ∃ x, w[i]? = some x := ⟨_, get_in (by omega)⟩
    have gx : (IL w)[i]? = some x.cs := by simp [hx]
    have gx' := (List.getElem?_eq_some_iff.1 gx).2
    have c0 : x.cs.take 1 = [.int .i64 x.op] := rfl
    have hcl : x.cs.length = 4 := rfl
    have h1 : ((i : Int) < (n : Int)) = True := eq_true (by omega)
    have h2 : ((i : Int) < (w.length : Int)) = True := eq_true (by omega)
    have h3 : i < w.length := by omega
    have hs := divN_succ hx
    have hdl := divN_le w i
    simp (disch := omega) [ltT, hlt, h1, h2, h3, gx, gx', c0, hcl, leTn]
    by_cases ho : x.op = 60
    · rw [if_pos ho] at hs
      simp (disch := omega) [ho, hlt, hs, keep_cl, trunc, add1', -Int.natCast_add]
    · rw [if_neg ho, Nat.add_zero] at hs
      simp (disch := omega) [beqF ho, hlt, hs, keep_cl, trunc, add1', -Int.natCast_add]
  · obtain rfl : i = n := by omega
    simp
/-- The blocks behind a new book, behind two of plain cells. -/
def newH2 (c d : List V) : Heap := [some (.cells c), some (.cells d), some (.map []), some (.cells [.vs [] (.own 4), .mp 2]), some (.zone 0)]
theorem newH2_bk {c d : List V} (hc : ∀ n, clL n c = c) (hd : ∀ n, clL n d = d) : Bk (newH2 c d) 3 4 2 [] := by
  refine ⟨rfl, rfl, rfl, fun n hn => ?_, fun a h => (by cases h), by decide⟩
  simp only [newH2, List.length_cons, List.length_nil] at hn
  simp [newH2, Blk.cl, hc, hd, clL, V.cl, Tk.cl, show 4 < n by omega, show 2 < n by omega]
theorem New2_ok [HasSymNew G] (c d : List V) : Big G (.F 256 [] [some (.cells c), some (.cells d)] (.ptr 3 0) [some (.cells c), some (.cells d), some (.map []), some (.cells [.vs [] .full, .mp 2])]) := by
  refine F_of HasSymNew.h_sym_New (Nat.le_of_ble_eq_true rfl) ?_
  simp
theorem cs_cl (s : St) (n : Nat) : clL n s.cs = s.cs := by simp [St.cs, clL, V.cl, clL_eq_map, cnats, Function.comp_def]
theorem dcs_cl (d : Da) (n : Nat) : clL n d.cs = d.cs := by simp [Da.cs, clL, V.cl, clL_eq_map, cnats, Function.comp_def]
theorem cs_nf (s : St) : s.cs.map V.nf1 = s.cs := by simp [St.cs, cnats, Function.comp_def, V.nf1]
theorem dcs_nf (d : Da) : d.cs.map V.nf1 = d.cs := by simp [Da.cs, cnats, Function.comp_def, V.nf1]
theorem cs_len {s : St} (h : s.ok) : s.cs.length = 18 := by simp [St.cs, h.2.2.1]
theorem dcs_len {d : Da} (h : d.ok) : d.cs.length = 9 := by simp [Da.cs, h.2.2.2.1]
theorem WindowValues_ok [HasWd G] [HasNeg G] [HasIns G] [HasCheck G] [HasData G] [HasStep G] [HasWRight G] [HasWinRun G] [HasWinAsg G] [HasWinOf G] [HasR2 G] [hR1 : HasR1 G] [HasR1n G] [HasR4 G] [HasR5o G] [HasR6s G] [HasR17 G] [HasR17r G] [HasR17d G] [HasAffine G] [HasBitsE G] [HasSymNew G] [HasSym G] [HasSymEval G] [HasL17g G] [HasL17v G] (hkn : FP G 299 [] (.bool true))
    (w : List In4) (s : St) (d : Da) (hf : w.length ≤ maxLen) (hk : ∀ x ∈ w, x.k < 4294967296) (hs : s.ok) (hd : d.ok) : FP G 306 [FL w, SV s, DV d] (.bool true) := by
  refine FP_of HasL17v.h_hurdlelaw17_WindowValues (Nat.le_of_ble_eq_true rfl) ?_
  have hgr := great17_ok (G := G) w
  have sl := cs_len hs
  have dl := dcs_len hd
  have st := List.take_of_length_le (i := 18) (l := s.cs) (by omega)
  have dt := List.take_of_length_le (i := 9) (l := d.cs) (by omega)
  have hB := newH2_bk (cs_cl s) (dcs_cl d)
  obtain ⟨H0, hH0⟩ : ∃ H0, H0 = newH2 s.cs d.cs := ⟨_, rfl⟩
  rw [← hH0] at hB
  have n0 : H0.length = 5 := by rw [hH0]; rfl
  have t0 : ∀ r, trunc 5 (H0 ++ r) = H0 := fun r => by have := hB.shut.back r; rwa [n0] at this
  have a5 : ∀ r : Heap, (H0 ++ r)[5]? = r[0]? := fun r => apn0 n0
  have b5 : ∀ (r : Heap) x, (H0 ++ r).set 5 x = H0 ++ r.set 0 x := fun r x => setn0 n0 x
  have e0 : ∀ r : Heap, (H0 ++ r)[0]? = some (some (.cells s.cs)) := fun r => by rw [hH0]; rfl
  have e1 : ∀ r : Heap, (H0 ++ r)[1]? = some (some (.cells d.cs)) := fun r => by rw [hH0]; rfl
  obtain ⟨Z, hZ⟩ : ∃ Z : List V, Z = vcs (List.replicate 18 0) [] .full := ⟨_, rfl⟩
  have lZ : Z.length = 19 := by rw [hZ]; rfl
  have drop19 : Z.drop 19 = [] := List.drop_eq_nil_of_le (by omega)
  have hZz : [V.int .i64 0, .int .i64 0, .int .i64 0, .int .i64 0, .int .i64 0, .int .i64 0, .int .i64 0, .int .i64 0, .int .i64 0, .int .i64 0, .int .i64 0, .int .i64 0, .int .i64 0, .int .i64 0, .int .i64 0, .int .i64 0, .int .i64 0, .int .i64 0, .vs [] .full] = Z := by rw [hZ]; rfl
  simp only [FL] at hgr
  simp [FL, SV, DV]
  refine callK_of (New2_ok s.cs d.cs) (by simp) ?_
  simp
  rw [show ([some (.cells s.cs), some (.cells d.cs), some (.map []), some (.cells [.vs [] (.own 4), .mp 2]), some (.zone 0)] : Heap) = H0 from hH0.symm]
  refine callP_of hgr ?_
  by_cases hb : 100 < w.length
  · simp [hb]
    refine callP_of hkn ?_
    simp
  have hw17 := Right17_ok (G := G) w (by omega) hk
  have hBn : Bk (H0 ++ [none]) 3 4 2 [] := hB.app fun n => by simp
  simp only [FL] at hw17
  simp [hb, n0]
  cases hw : winB w with
  | false =>
    have hof := Of_no (G := G) w hBn hf hk hw
    rw [← hZ] at hof
    simp only [FL] at hof
    refine callSF_of hof ?_
    simp [a5, b5, hZz, lZ, drop19, List.take_of_length_le, e0, e1]
    refine callP_of hw17 ?_
    simp [hw, a5, b5, hZz, lZ, drop19, hZ, vcs]
    refine callP_of hkn ?_
    simp
  | true =>
    have hof := Of_ok (G := G) w hBn Inv.nil (by decide) hf hk hw
    have hV := win_vals Inv.nil hs hd hk hw
    have hVk := winV_ok Inv.nil w hk
    obtain ⟨X, hVe⟩ : ∃ X, X = winV [] w := ⟨_, rfl⟩
    rw [← hVe] at hof hV hVk
    have hw32 : w.length ≤ 32 := by simp only [winB, Bool.and_eq_true, decide_eq_true_eq] at hw; exact hw.1
    have hVl := hVk.ext.len
    simp at hVl
    have hi := hVk.ext.inv
    obtain ⟨U, hU⟩ : ∃ U, U = upd H0 3 4 2 X.L := ⟨_, rfl⟩
    have hUB : Bk U 3 4 2 X.L := by rw [hU]; exact hB.to hi (by omega)
    have uU : upd (H0 ++ [none]) 3 4 2 X.L = U ++ [none] := by rw [hB.upd_app, ← hU]
    rw [uU] at hof
    have nU : U.length = 5 := by rw [hU, upd_len, n0]
    have U0 : ∀ r : Heap, (U ++ r)[0]? = some (some (.cells s.cs)) := fun r => by
      rw [List.getElem?_append_left (by omega), hU]; exact upd_other hB (by have := e0 []; simpa using this) (by decide)
    have U1 : ∀ r : Heap, (U ++ r)[1]? = some (some (.cells d.cs)) := fun r => by
      rw [List.getElem?_append_left (by omega), hU]; exact upd_other hB (by have := e1 []; simpa using this) (by decide)
    have U0' : ∀ (r : Heap) h, (U ++ r)[0]'h = some (.cells s.cs) := fun r h => (List.getElem?_eq_some_iff.1 (U0 r)).2
    have U1' : ∀ (r : Heap) h, (U ++ r)[1]'h = some (.cells d.cs) := fun r h => (List.getElem?_eq_some_iff.1 (U1 r)).2
    have g5 : ∀ r : Heap, (U ++ r)[5]? = r[0]? := fun r => apn0 nU
    have g6 : ∀ r : Heap, (U ++ r)[6]? = r[1]? := fun r => apnk nU 1
    have g7 : ∀ r : Heap, (U ++ r)[7]? = r[2]? := fun r => apnk nU 2
    have g8 : ∀ r : Heap, (U ++ r)[8]? = r[3]? := fun r => apnk nU 3
    have s5 : ∀ (r : Heap) x, (U ++ r).set 5 x = U ++ r.set 0 x := fun r x => setn0 nU x
    have s6 : ∀ (r : Heap) x, (U ++ r).set 6 x = U ++ r.set 1 x := fun r x => setnk nU 1 x
    have s7 : ∀ (r : Heap) x, (U ++ r).set 7 x = U ++ r.set 2 x := fun r x => setnk nU 2 x
    have s8 : ∀ (r : Heap) x, (U ++ r).set 8 x = U ++ r.set 3 x := fun r x => setnk nU 3 x
    obtain ⟨W, hW⟩ : ∃ W : List V, W = vcs X.p X.st .no := ⟨_, rfl⟩
    have hpl := hVk.len
    have lW : W.length = 19 := by rw [hW]; exact vcs_len hpl
    have tW : W.take 19 = W := List.take_of_length_le (by omega)
    have kW : ∀ n, clL n W = W := fun n => by rw [hW, clL_eq_map, vcs]; simp [cints, Function.comp_def, V.cl, Tk.cl]
    have W18 : W[18]? = some (.vs (ints .i64 X.st) .no) := by rw [hW, vcs, List.getElem?_append_right (by simp [hpl])]; simp [hpl]
    have W18' := (List.getElem?_eq_some_iff.1 W18).2
    rw [← hW] at hof
    obtain ⟨R, hR⟩ : ∃ R, R = runW d w s := ⟨_, rfl⟩
    have hRl := runW_le d w s
    have hRo := runW_ok hd w s hs hk
    have hrr := WinRunR_ok (G := G) w s d (by omega) hk hs hd
    rw [← hR] at hRl hRo hrr
    have rl := cs_len hRo
    have rt := List.take_of_length_le (i := 18) (l := R.1.cs) (by omega)
    have has := WinAssign_ok (G := G) s d hs hd
    have hal := asgL_len hs hd
    have halt := asgL_lt hs hd
    have har := WinAssign_ok (G := G) R.1 d hRo hd
    have hrl := asgL_len hRo hd
    obtain ⟨A, hA⟩ : ∃ A, A = asgL s d := ⟨_, rfl⟩
    rw [← hA] at has hal halt hV
    have hat := take_full (k := .u32) hal
    obtain ⟨B, hBB⟩ : ∃ B, B = asgL R.1 d := ⟨_, rfl⟩
    have hBp : ∀ i, i < 18 → B.getD i 0 = (pt R.1).getD i 0 := fun i hi => by rw [hBB]; exact asg_pt hRo hi
    rw [← hBB] at har hrl
    have hbt := take_full (k := .u32) hrl
    have hdn := Divides_ok (G := G) w R.2 (by omega) hRl
    have hdw := Divides_ok (G := G) w w.length (by omega) (Nat.le_refl _)
    simp only [FL, SV, DV] at hof hrr has har hdn hdw
    have z18 : (cnats .u32 (zeros 18)).drop 18 = [] := rfl
    refine callSF_of hof ?_
    simp [g5, s5, hZz, lZ, lW, tW, drop19]
    refine callP_of hw17 ?_
    simp [hw, U0, U1, U0', U1', sl, st, dl, dt, cs_cl, cs_nf, dcs_cl, dcs_nf]
    refine callP_of hrr ?_
    simp [g6, s6, rl, rt, nU, z18, U0, U1, U0', U1', sl, st, dl, dt, cs_cl, cs_nf, dcs_cl, dcs_nf]
    refine callP_of has ?_
    simp [g7, s7, g6, s6, hal, hat, nU]
    refine callP_of hdn ?_
    have Wst : (W.drop 18).take 1 = [.vs (ints .i64 X.st) .no] := by rw [hW]; exact vcs_st hpl
    simp [g5, g6, g7, lW, Wst, nU]
    refine callP_of hdw ?_
    obtain ⟨k, hkd⟩ : ∃ k, k = divN w R.2 := ⟨_, rfl⟩
    have hnum := hV.num
    have hka := hV.ahead
    have hks := hV.stop
    have hkn' := hV.done
    rw [← hR] at hka hks hkn'
    rw [← hkd] at hka hks ⊢
    obtain ⟨BB, hBB'⟩ : ∃ BB : Heap, BB = U ++ [some (.cells W), some (.cells R.1.cs), some (.cells (cnats .u32 A))] := ⟨_, rfl⟩
    have hBk : Bk BB 3 4 2 X.L := by rw [hBB']; exact hUB.app fun n => by simp [Blk.cl, kW, cs_cl]
    have nB : BB.length = 8 := by rw [hBB']; simp [nU]
    have hBs := hBk.shut.self
    have hBt := hBk.shut.back
    rw [nB] at hBs hBt
    have hBt0 := hBt []
    rw [List.append_nil] at hBt0
    have B1 : BB[1]? = some (some (.cells d.cs)) := by rw [hBB']; exact U1 _
    have B5 : BB[5]? = some (some (.cells W)) := by rw [hBB', g5]; rfl
    have B6 : BB[6]? = some (some (.cells R.1.cs)) := by rw [hBB', g6]; rfl
    have B7 : BB[7]? = some (some (.cells (cnats .u32 A))) := by rw [hBB', g7]; rfl
    have B1' := (List.getElem?_eq_some_iff.1 B1).2
    have B5' := (List.getElem?_eq_some_iff.1 B5).2
    have B6' := (List.getElem?_eq_some_iff.1 B6).2
    have B7' := (List.getElem?_eq_some_iff.1 B7).2
    have app : ∀ {i : Nat} {c : List V}, BB[i]? = some (some (.cells c)) → ∀ r : Heap, (BB ++ r)[i]? = some (some (.cells c)) := fun h r => by
      rw [List.getElem?_append_left (List.getElem?_eq_some_iff.1 h).1]; exact h
    have A1 := app B1
    have A5 := app B5
    have A6 := app B6
    have A7 := app B7
    have g8' : ∀ r : Heap, (BB ++ r)[8]? = r[0]? := fun r => apn0 nB
    have s8' : ∀ (r : Heap) x, (BB ++ r).set 8 x = BB ++ r.set 0 x := fun r x => setn0 nB x
    have hk32 : k ≤ 32 := by have := divN_le w R.2; omega
    have hev := fun x => Eval_F (G := G) x A hBk hi hal halt
    simp [hnum, nU]
    rw [← hBB']
    refine W_up k (fun i => [(0, .vs (IL w) .no), (5, .ptr 1 0), (7, .ptr 3 0), (8, .ptr 5 0), (10, .ptr 6 0), (11, .int .i64 R.2), (12, .ptr 7 0), (13, .int .i64 k), (14, .int .i64 i)]) (fun _ => BB) (fun _ => True) ?_ ?_
    · simp [keep_cl, nB, hBt0]
    intro i hile _
    by_cases hlt : i < k
    · obtain ⟨x, n, hx, hxh, hxv, hn0⟩ := hka i hlt
      have gx : (ints .i64 X.st)[i]? = some [.int .i64 x] := by simp [hx]
      have gx' := (List.getElem?_eq_some_iff.1 gx).2
      have hil : i < X.st.length := (List.getElem?_eq_some_iff.1 hx).1
      have he := hev x
      rw [hxv] at he
      simp (disch := omega) [nB, ltT, hlt, B5, B5', B7, B7', lW, Wst, gx, gx', hil, hal, hat]
      refine callSF_of he ?_
      have hn0' : (n : Int) ≠ 0 := by omega
      simp (disch := omega) [hn0', hn0, beqF, hlt, keep_cl, nB, hBt0, add1', -Int.natCast_add]
    · obtain rfl : i = k := by omega
      simp
      by_cases hstop : R.2 < w.length
      · obtain ⟨x, hx, hxh, hxv⟩ := hks hstop
        have gx : (ints .i64 X.st)[i]? = some [.int .i64 x] := by simp [hx]
        have gx' := (List.getElem?_eq_some_iff.1 gx).2
        have hil : i < X.st.length := (List.getElem?_eq_some_iff.1 hx).1
        have he := hev x
        rw [hxv] at he
        simp (disch := omega) [nB, ltT, hstop, B5, B5', B7, B7', lW, Wst, gx, gx', hil, hal, hat]
        refine callSF_of he ?_
        simp
        refine callP_of hkn ?_
        simp
      · have hdone := hkn' (by omega)
        simp (disch := omega) [nB, ltT, hstop, A1, A6, rl, rt, dl, dt, cs_cl, cs_nf, dcs_cl, dcs_nf]
        refine callP_of har ?_
        simp [g8', s8', hrl, hbt]
        obtain ⟨BC, hBC⟩ : ∃ BC : Heap, BC = BB ++ [some (.cells (cnats .u32 B))] := ⟨_, rfl⟩
        have hBCk : Bk BC 3 4 2 X.L := by rw [hBC]; exact hBk.app fun n => by simp [Blk.cl]
        have nC : BC.length = 9 := by rw [hBC]; simp [nB]
        have hCt := hBCk.shut.back
        rw [nC] at hCt
        have hCt0 := hCt []
        rw [List.append_nil] at hCt0
        have C5 : BC[5]? = some (some (.cells W)) := by rw [hBC]; exact A5 _
        have C7 : BC[7]? = some (some (.cells (cnats .u32 A))) := by rw [hBC]; exact A7 _
        have C8 : BC[8]? = some (some (.cells (cnats .u32 B))) := by rw [hBC, g8']; rfl
        have C5' := (List.getElem?_eq_some_iff.1 C5).2
        have C7' := (List.getElem?_eq_some_iff.1 C7).2
        have C8' := (List.getElem?_eq_some_iff.1 C8).2
        have hec := fun x => Eval_F (G := G) x A hBCk hi hal halt
        rw [← hBC]
        refine W_up 18 (fun i => [(7, .ptr 3 0), (8, .ptr 5 0), (12, .ptr 7 0), (19, .ptr 8 0), (20, .int .i64 i)]) (fun _ => BC) (fun _ => True) ?_ ?_
        · simp [keep_cl, nC, nB, hCt0]
        intro j hj _
        by_cases hjt : j < 18
        · obtain ⟨q1, q2⟩ := hdone.val j hjt
          have wg := vcs_get (st := X.st) (tk := .no) hpl hjt
          rw [← hW] at wg
          have hpg : X.p.getD j 0 = X.p[j]'(by omega) := by rw [List.getD_eq_getElem?_getD, get_in (by omega)]; rfl
          have he := hec (X.p[j]'(by omega))
          rw [hpg] at q2
          rw [q2] at he
          have cg := cnats_get .u32 B j (by omega)
          have hbj := hBp j hjt
          have hbg : B.getD j 0 = B[j]'(by omega) := by rw [List.getD_eq_getElem?_getD, get_in (by omega)]; rfl
          rw [hbg] at hbj
          rw [hbj] at cg
          have hj18 : ((j : Int) < 18) = True := eq_true (by omega)
          simp (disch := omega) [nC, ltT, hj18, hjt, C5, C5', C7, C7', C8, C8', lW, wg, hal, hat, hrl, leTn]
          refine callSF_of he ?_
          simp (disch := omega) [nC, ltT, hj18, hjt, C8, C8', hrl, cg, leTn, keep_cl, hCt0, add1', -Int.natCast_add]
        · obtain rfl : j = 18 := by omega
          simp
          refine callP_of hkn ?_
          simp
end Go.Ev
