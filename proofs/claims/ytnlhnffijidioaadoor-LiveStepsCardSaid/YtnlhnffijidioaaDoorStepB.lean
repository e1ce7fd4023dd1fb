/- An instruction changes nothing but what it sets, and hangs on what it needs. -/
import Derived.Test.YtnlhnffijidioaaDoorStepA
namespace Go.Ev
open Go Go.RowKit
variable {G : Tbl}
set_option maxRecDepth 10000
set_option maxHeartbeats 2000000
set_option linter.unusedSimpArgs false
set_option linter.unusedVariables false

/-- A state's parts: A, X, the cells. -/
def part (s : St) : Nat → Nat
  | 0 => s.a
  | 1 => s.x
  | i + 2 => s.m.getD i 0
theorem st_ext {s t : St} (hs : s.m.length = 16) (ht : t.m.length = 16) (h : ∀ i, i < 18 → part s i = part t i) : s = t := by
  obtain ⟨a, x, m⟩ := s
  obtain ⟨a', x', m'⟩ := t
  have h0 := h 0 (by decide)
  have h1 := h 1 (by decide)
  simp only [part] at h0 h1 hs ht
  subst h0; subst h1
  congr
  apply List.ext_getElem?
  intro i
  by_cases hi : i < 16
  · have := h (i + 2) (by omega)
    simp only [part, List.getD, List.getElem?_eq_getElem (show i < m.length by omega), List.getElem?_eq_getElem (show i < m'.length by omega), Option.getD_some] at this
    rw [List.getElem?_eq_getElem (by omega), List.getElem?_eq_getElem (by omega), this]
  · rw [List.getElem?_eq_none (by omega), List.getElem?_eq_none (by omega)]
theorem part_mix (mask : Nat) (s t : St) (i : Nat) (hi : i < 18) : part (mixS mask s t) i = if mask.testBit i then part s i else part t i := by
  match i, hi with
  | 0, _ => rfl
  | 1, _ => rfl
  | i + 2, hi =>
    have : i < 16 := by omega
    simp [part, mixS, mixL, this, mixN]
theorem part_set (s : St) (k v i : Nat) (hl : s.m.length = 16) : part (storeS s k v) i = if k < 16 ∧ i = k + 2 then v else part s i := by
  unfold storeS
  split
  · rename_i hk
    match i with
    | 0 => simp [part]
    | 1 => simp [part]
    | i + 2 =>
      simp only [part, List.getD, List.getElem?_set]
      by_cases e : k = i
      · subst e; simp [hk, hl]
      · simp [e, show ¬ i = k from fun h => e h.symm]
  · rename_i hk; simp [hk]
theorem part_cell (s : St) (k : Nat) : cellS s k = if k < 16 then part s (k + 2) else 0 := rfl

theorem stepO_frame (s : St) (x : In4) (d : Da) (hs : s.m.length = 16) (hal : (aluT x.op).2.2 = false) (i : Nat) (hi : i < 18) (h : setsP x i = false) : part (stepO s x d) i = part s i := by
  unfold setsP at h
  have two : ∀ v, (x.op = 2 ∨ x.op = 3) → part (storeS s x.k v) i = part s i := by
    intro v h23
    rw [part_set s x.k v i hs]
    split
    · rename_i hk
      exfalso
      rw [if_neg (by omega), if_neg (by omega)] at h
      simp only [decide_eq_false_iff_not] at h
      exact h ⟨h23, hk.2.symm⟩
    · rfl
  match i, hi with
  | 0, _ =>
    simp [hal] at h
    unfold stepO
    repeat' split
    all_goals first
      | rfl
      | (exfalso; omega)
      | exact two _ (by omega)
  | 1, _ =>
    simp at h
    unfold stepO
    repeat' split
    all_goals first
      | rfl
      | (exfalso; omega)
      | exact two _ (by omega)
  | i + 2, hi =>
    unfold stepO
    repeat' split
    all_goals first
      | rfl
      | exact two _ (by omega)

theorem stepO_uses (s t : St) (x : In4) (d : Da) (hs : s.m.length = 16) (ht : t.m.length = 16) (h : ∀ i, i < 18 → usesP x i = true → part s i = part t i) (i : Nat) (hi : i < 18) (hal : (aluT x.op).2.2 = false) (hset : setsP x i = true) :
    part (stepO s x d) i = part (stepO t x d) i := by
  have u0 : x.op ∈ [2, 7, 132, 22] → s.a = t.a := fun hm => h 0 (by decide) (by simp only [usesP, hm]; simp)
  have u1 : x.op ∈ [3, 135] → s.x = t.x := fun hm => h 1 (by decide) (by simp only [usesP, hm]; simp)
  have uc : (x.op = 96 ∨ x.op = 97) → cellS s x.k = cellS t x.k := by
    intro hm
    rw [part_cell, part_cell]
    split
    · rename_i hk
      exact h (x.k + 2) (by omega) (by simp [usesP, hm])
    · rfl
  unfold setsP at hset
  have two : ∀ v, (x.op = 2 ∨ x.op = 3) → part (storeS s x.k v) i = part (storeS t x.k v) i := by
    intro v h23
    rw [part_set s x.k v i hs, part_set t x.k v i ht]
    split
    · rfl
    · rename_i hk
      exfalso
      by_cases i0 : i = 0
      · subst i0; simp [hal] at hset; omega
      · by_cases i1 : i = 1
        · subst i1; simp at hset; omega
        · rw [if_neg i0, if_neg i1] at hset
          simp only [decide_eq_true_eq] at hset
          apply hk; omega
  match i, hi with
  | 0, _ =>
    simp [hal] at hset
    rcases hset with e | e | e | e | e
    · simp [stepO, e, part]
    · simp [stepO, e, part]
    · simp [stepO, e, part, uc (.inl e)]
    · simp [stepO, e, part, u1 (by simp [e])]
    · simp [stepO, e, part, u0 (by simp [e])]
  | 1, _ =>
    simp at hset
    rcases hset with e | e | e
    · simp [stepO, e, part]
    · simp [stepO, e, part, uc (.inr e)]
    · simp [stepO, e, part, u0 (by simp [e])]
  | i + 2, _ =>
    simp at hset
    rcases hset.1 with e | e
    · have := two s.a (.inl e)
      rw [u0 (by simp [e])] at this
      simp [stepO, e, u0 (by simp [e])]
      exact this
    · have := two s.x (.inr e)
      rw [u1 (by simp [e])] at this
      simp [stepO, e, u1 (by simp [e])]
      exact this

theorem stepS_frame (s : St) (x : In4) (d : Da) (hs : s.m.length = 16) (i : Nat) (hi : i < 18) (h : setsP x i = false) : part (stepS s x d).1 i = part s i := by
  unfold stepS
  cases hal : (aluT x.op).2.2
  · simp only [Bool.false_eq_true, if_false]; exact stepO_frame s x d hs hal i hi h
  · simp only [if_true]
    split
    · match i, hi with
      | 0, _ => simp [setsP, hal] at h
      | 1, _ => rfl
      | i + 2, _ => rfl
    · rfl
theorem stepS_uses (s t : St) (x : In4) (d : Da) (hs : s.m.length = 16) (ht : t.m.length = 16) (h : ∀ i, i < 18 → usesP x i = true → part s i = part t i) :
    (stepS s x d).2 = (stepS t x d).2 ∧ ∀ i, i < 18 → setsP x i = true → part (stepS s x d).1 i = part (stepS t x d).1 i := by
  unfold stepS
  cases hal : (aluT x.op).2.2
  · simp only [Bool.false_eq_true, if_false, true_and]
    exact fun i hi hset => stepO_uses s t x d hs ht h i hi hal hset
  · have h0 : s.a = t.a := h 0 (by decide) (by simp [usesP, hal])
    have hb : aluB s x = aluB t x := by
      unfold aluB
      split
      · rename_i hx; exact h 1 (by decide) (by simp [usesP, byXB, hx])
      · rfl
    have hr : aluR s x = aluR t x := by unfold aluR; rw [h0, hb]
    simp only [if_true, hr, true_and]
    intro i hi hset
    split
    · match i, hi with
      | 0, _ => rfl
      | 1, _ =>
        exfalso
        have key : ∀ p ∈ [4, 20, 36, 52, 68, 84, 100, 116, 164, 12, 28, 44, 60, 76, 92, 108, 124, (172 : Int)], decide (p ∈ [1, 97, (7 : Int)]) = false := by decide
        have := key _ (alu_two hal)
        simp only [setsP] at hset
        simp at hset this
        omega
      | i + 2, _ =>
        exfalso
        have key : ∀ p ∈ [4, 20, 36, 52, 68, 84, 100, 116, 164, 12, 28, 44, 60, 76, 92, 108, 124, (172 : Int)], ¬ p = 2 ∧ ¬ p = 3 := by decide
        have := key _ (alu_two hal)
        simp [setsP] at hset
        omega
    · match i, hi with
      | 0, _ => exact h0
      | 1, _ =>
        exfalso
        have key : ∀ p ∈ [4, 20, 36, 52, 68, 84, 100, 116, 164, 12, 28, 44, 60, 76, 92, 108, 124, (172 : Int)], decide (p ∈ [1, 97, (7 : Int)]) = false := by decide
        have := key _ (alu_two hal)
        simp only [setsP] at hset
        simp at hset this
        omega
      | i + 2, _ =>
        exfalso
        have key : ∀ p ∈ [4, 20, 36, 52, 68, 84, 100, 116, 164, 12, 28, 44, 60, 76, 92, 108, 124, (172 : Int)], ¬ p = 2 ∧ ¬ p = 3 := by decide
        have := key _ (alu_two hal)
        simp [setsP] at hset
        omega

theorem eqks_nats : ∀ {n : Nat} {a b : List Nat}, a.length = n → b.length = n → eqks (List.replicate n .int) (cnats .u32 a) (cnats .u32 b) = some (decide (a = b))
  | 0, [], [], _, _ => rfl
  | n + 1, a :: as, b :: bs, h1, h2 => by
    have := eqks_nats (n := n) (a := as) (b := bs) (by simpa using h1) (by simpa using h2)
    simp only [List.replicate_succ, cnats, List.map_cons] at this ⊢
    simp only [eqks, eqk, if_true, this]
    congr 1
    rw [Bool.eq_iff_iff]
    simp
  | 0, _ :: _, _, h, _ => by simp at h
  | 0, [], _ :: _, _, h => by simp at h
  | n + 1, [], _, h, _ => by simp at h
  | n + 1, _ :: _, [], _, h => by simp at h
theorem eqks_st {s t : St} (hs : s.m.length = 16) (ht : t.m.length = 16) : eqks (List.replicate 18 .int) s.cs t.cs = some (decide (s = t)) := by
  have := eqks_nats (n := 18) (a := s.a :: s.x :: s.m) (b := t.a :: t.x :: t.m) (by simp [hs]) (by simp [ht])
  rw [show St.cs s = cnats .u32 (s.a :: s.x :: s.m) from rfl, show St.cs t = cnats .u32 (t.a :: t.x :: t.m) from rfl, this]
  congr 1
  obtain ⟨a, x, m⟩ := s
  obtain ⟨a', x', m'⟩ := t
  simp

/-- LIVESTEPS. -/
theorem LiveSteps_ok [HasWd G] [HasNeg G] [HasIns G] [HasData G] [HasStep G] [HasTells G] [HasR7m G] [HasL7 G] (hkn : FP G 216 [] (.bool true)) (x : In4) (s t : St) (d : Da) (hk : x.k < 4294967296) (hs : s.ok) (ht : t.ok) (hd : d.ok) :
    FP G 222 [IV x, SV s, SV t, DV d] (.bool true) := by
  refine FP_of HasL7.h_hurdlelaw07_LiveSteps (Nat.le_of_ble_eq_true rfl) ?_
  have hm := mix_ok (mask := usesM x) hs ht
  have hu := stepS_ok' hs hk hd
  have hv := stepS_ok' hm hk hd
  have c1 := Step_ok (G := G) s x d hs hk hd
  have c2 := Uses_ok (G := G) x
  have c3 := Mix_ok (G := G) (usesM x) s t (by have := usesM_lt x; omega) hs.2.2.1 ht.2.2.1
  have c4 := Step_ok (G := G) (mixS (usesM x) s t) x d hm hk hd
  have c5 := Sets_ok (G := G) x
  have c6 := Mix_ok (G := G) (setsM x) (stepS s x d).1 s (by have := setsM_lt x; omega) hu.2.2.1 hs.2.2.1
  have c7 := Mix_ok (G := G) (setsM x) (stepS (mixS (usesM x) s t) x d).1 (stepS s x d).1 (by have := setsM_lt x; omega) hv.2.2.1 hu.2.2.1
  have q1 : mixS (setsM x) (stepS s x d).1 s = (stepS s x d).1 := st_ext (mix_ok hu hs).2.2.1 hu.2.2.1 fun i hi => by
    rw [part_mix _ _ _ i hi, sets_bit]
    simp only [hi, decide_true, Bool.true_and]
    split
    · rfl
    · rename_i h; exact (stepS_frame s x d hs.2.2.1 i hi (by simpa using h)).symm
  obtain ⟨q2, q3⟩ := stepS_uses (mixS (usesM x) s t) s x d hm.2.2.1 hs.2.2.1 fun i hi hui => by
    rw [part_mix _ _ _ i hi, uses_bit]; simp [hi, hui]
  have q4 : mixS (setsM x) (stepS (mixS (usesM x) s t) x d).1 (stepS s x d).1 = (stepS s x d).1 := st_ext (mix_ok hv hu).2.2.1 hu.2.2.1 fun i hi => by
    rw [part_mix _ _ _ i hi, sets_bit]
    simp only [hi, decide_true, Bool.true_and]
    split
    · rename_i h; exact q3 i hi h
    · rfl
  have q5 : (stepS s x d).2 = false → (stepS s x d).1 = s := by
    unfold stepS
    split
    · intro h; simp only at h ⊢; rw [if_neg (by simp [h])]
    · intro h; cases h
  rw [q1] at c6
  rw [q4] at c7
  rw [q2] at c4
  have sz : ∀ u : St, u.ok → u.cs.length = 18 := fun u hu => by simp [St.cs, hu.2.2.1]
  have tk : ∀ u : St, u.ok → u.cs.take 18 = u.cs := fun u hu => List.take_of_length_le (by rw [sz u hu]; exact Nat.le_refl _)
  have cl : ∀ (n : Nat) (u : St), clL n u.cs = u.cs := fun n u => by simp [St.cs]
  have szd : d.cs.length = 9 := by simp [Da.cs, hd.2.2.2.1]
  have tkd : d.cs.take 9 = d.cs := List.take_of_length_le (by rw [szd]; exact Nat.le_refl _)
  have cld : ∀ n, clL n d.cs = d.cs := fun n => by simp [Da.cs]
  have clx : ∀ n, clL n x.cs = x.cs := fun n => by simp [In4.cs]
  have nfs : ∀ u : St, u.cs.map V.nf1 = u.cs := fun u => by simp [St.cs]
  have nfd : d.cs.map V.nf1 = d.cs := by simp [Da.cs]
  have nfx : x.cs.map V.nf1 = x.cs := by simp [In4.cs]
  have tkx : x.cs.take 4 = x.cs := rfl
  have e1 := eqks_st (s := (stepS s x d).1) (t := (stepS s x d).1) hu.2.2.1 hu.2.2.1
  have e2 := eqks_st (s := (stepS s x d).1) (t := s) hu.2.2.1 hs.2.2.1
  have r18 : List.replicate 18 Kd.int = [Kd.int, .int, .int, .int, .int, .int, .int, .int, .int, .int, .int, .int, .int, .int, .int, .int, .int, .int] := rfl
  rw [r18] at e1 e2
  simp only [decide_true] at e1
  simp [SV, IV, DV] at c1 c2 c3 c4 c5 c6 c7 ⊢
  simp [sz _ hs, sz _ ht, tk _ hs, tk _ ht, szd, tkd, tkx, cl, cld, clx, nfs, nfd, nfx]
  refine callP_of c1 ?_
  simp [sz _ hs, sz _ ht, tk _ hs, tk _ ht, szd, tkd, tkx, cl, cld, clx, nfs, nfd, nfx, sz _ hu, tk _ hu]
  refine callP_of c2 ?_
  simp [sz _ hs, sz _ ht, tk _ hs, tk _ ht, szd, tkd, tkx, cl, cld, clx, nfs, nfd, nfx, sz _ hu, tk _ hu]
  refine callP_of c3 ?_
  simp [sz _ hs, sz _ ht, tk _ hs, tk _ ht, szd, tkd, tkx, cl, cld, clx, nfs, nfd, nfx, sz _ hu, tk _ hu]
  refine callP_of c4 ?_
  simp [sz _ hs, sz _ ht, tk _ hs, tk _ ht, szd, tkd, tkx, cl, cld, clx, nfs, nfd, nfx, sz _ hu, tk _ hu, sz _ hv, tk _ hv]
  refine callP_of c5 ?_
  simp [sz _ hs, sz _ ht, tk _ hs, tk _ ht, szd, tkd, tkx, cl, cld, clx, nfs, nfd, nfx, sz _ hu, tk _ hu, sz _ hv, tk _ hv]
  refine callP_of c6 ?_
  simp [e1, sz _ hs, sz _ ht, tk _ hs, tk _ ht, szd, tkd, tkx, cl, cld, clx, nfs, nfd, nfx, sz _ hu, tk _ hu, sz _ hv, tk _ hv]
  cases hg : (stepS s x d).2
  · rw [q5 hg] at e2 ⊢
    simp only [decide_true] at e2
    simp [e2, sz _ hs, tk _ hs]
    refine callP_of hkn ?_
    simp
  · simp
    refine callP_of c5 ?_
    simp [sz _ hs, sz _ ht, tk _ hs, tk _ ht, szd, tkd, tkx, cl, cld, clx, nfs, nfd, nfx, sz _ hu, tk _ hu, sz _ hv, tk _ hv]
    refine callP_of c7 ?_
    simp [e1, sz _ hs, sz _ ht, tk _ hs, tk _ ht, szd, tkd, tkx, cl, cld, clx, nfs, nfd, nfx, sz _ hu, tk _ hu, sz _ hv, tk _ hv]
    refine callP_of hkn ?_
    simp

end Go.Ev
