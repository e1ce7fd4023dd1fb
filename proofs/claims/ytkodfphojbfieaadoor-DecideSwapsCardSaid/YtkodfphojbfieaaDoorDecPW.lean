/- Numbers of two books that stand for the same: what is made of such in both is such again. -/
import Derived.Test.YtkodfphojbfieaaDoorArgIW
import Derived.Test.YtkodfphojbfieaaDoorEvSymCW
set_option linter.unusedVariables false
set_option linter.unusedSimpArgs false
namespace Go.Ev
open Go Go.RowKit
set_option maxRecDepth 10000
set_option maxHeartbeats 4000000
set_option linter.unusedSimpArgs false
set_option linter.unusedVariables false
variable {L M : List Nd}
inductive Rl (L M : List Nd) : Nat → Nat → Prop
  | leaf {i j : Nat} {a : Nd} : L[i]? = some a → M[j]? = some a → a.kind ≠ 2 → Rl L M i j
  | deed {i j : Nat} {k : Int} {x y u w : Nat} : L[i]? = some (deedNd k x y) → M[j]? = some (deedNd k u w) → Rl L M x u → Rl L M y w → Rl L M i j
  | swap {i j : Nat} {k : Int} {x y u w : Nat} : L[i]? = some (deedNd k x y) → M[j]? = some (deedNd k u w) → swapsB k = true → Rl L M x w → Rl L M y u → Rl L M i j
theorem Rl.flip {i j : Nat} (h : Rl L M i j) : Rl M L j i := by
  induction h with
  | leaf h1 h2 h3 => exact .leaf h2 h1 h3
  | deed h1 h2 _ _ r1 r2 => exact .deed h2 h1 r1 r2
  | swap h1 h2 hs _ _ r1 r2 => exact .swap h2 h1 hs r2 r1
theorem Rl.mono {L' M' : List Nd} (hl : L <+: L') (hm : M <+: M') {i j : Nat} (h : Rl L M i j) : Rl L' M' i j := by
  induction h with
  | leaf h1 h2 h3 => exact .leaf (pre_get hl h1) (pre_get hm h2) h3
  | deed h1 h2 _ _ r1 r2 => exact .deed (pre_get hl h1) (pre_get hm h2) r1 r2
  | swap h1 h2 hs _ _ r1 r2 => exact .swap (pre_get hl h1) (pre_get hm h2) hs r1 r2
def Srt (L : List Nd) : Prop := ∀ k x y, deedNd k x y ∈ L → swapsB k = true → x ≤ y
theorem deed_inj {k k' : Int} {x y u w : Nat} (h : deedNd k x y = deedNd k' u w) : k = k' ∧ x = u ∧ y = w := by
  simp only [deedNd, Nd.mk.injEq] at h
  exact ⟨h.2.2.2.2.2.1, h.2.2.2.2.2.2.1, h.2.2.2.2.2.2.2⟩
theorem nodup_at {α : Type} {l : List α} (h : l.Nodup) {i j : Nat} {a : α} (hi : l[i]? = some a) (hj : l[j]? = some a) : i = j := by
  obtain ⟨h1, e1⟩ := List.getElem?_eq_some_iff.1 hi
  obtain ⟨h2, e2⟩ := List.getElem?_eq_some_iff.1 hj
  have hp := List.pairwise_iff_getElem.1 h
  rcases Nat.lt_trichotomy i j with hlt | rfl | hlt
  · exact absurd (e1.trans e2.symm) (hp i j h1 h2 hlt)
  · rfl
  · exact absurd (e2.trans e1.symm) (hp j i h2 h1 hlt)
theorem Rl.fn (hM : M.Nodup) (sM : Srt M) {i j : Nat} (h : Rl L M i j) : ∀ {j' : Nat}, Rl L M i j' → j = j' := by
  induction h with
  | @leaf i j a h1 h2 h3 =>
    intro j' h
    cases h with
    | leaf g1 g2 g3 => rw [h1] at g1; cases g1; exact nodup_at hM h2 g2
    | deed g1 => rw [h1] at g1; cases g1; exact absurd rfl h3
    | swap g1 => rw [h1] at g1; cases g1; exact absurd rfl h3
  | @deed i j k x y u w h1 h2 _ _ r1 r2 =>
    intro j' h
    cases h with
    | leaf g1 g2 g3 => rw [h1] at g1; cases g1; exact absurd rfl g3
    | deed g1 g2 p1 p2 =>
      rw [h1] at g1
      obtain ⟨rfl, rfl, rfl⟩ := deed_inj (Option.some.inj g1)
      obtain rfl := r1 p1
      obtain rfl := r2 p2
      exact nodup_at hM h2 g2
    | swap g1 g2 hs p1 p2 =>
      rw [h1] at g1
      obtain ⟨rfl, rfl, rfl⟩ := deed_inj (Option.some.inj g1)
      obtain rfl := r1 p1
      obtain rfl := r2 p2
      have s1 := sM _ _ _ (List.mem_of_getElem? h2) hs
      have s2 := sM _ _ _ (List.mem_of_getElem? g2) hs
      obtain rfl : u = w := by omega
      exact nodup_at hM h2 g2
  | @swap i j k x y u w h1 h2 hs _ _ r1 r2 =>
    intro j' h
    cases h with
    | leaf g1 g2 g3 => rw [h1] at g1; cases g1; exact absurd rfl g3
    | deed g1 g2 p1 p2 =>
      rw [h1] at g1
      obtain ⟨rfl, rfl, rfl⟩ := deed_inj (Option.some.inj g1)
      obtain rfl := r1 p1
      obtain rfl := r2 p2
      have s1 := sM _ _ _ (List.mem_of_getElem? h2) hs
      have s2 := sM _ _ _ (List.mem_of_getElem? g2) hs
      obtain rfl : u = w := by omega
      exact nodup_at hM h2 g2
    | swap g1 g2 hs' p1 p2 =>
      rw [h1] at g1
      obtain ⟨rfl, rfl, rfl⟩ := deed_inj (Option.some.inj g1)
      obtain rfl := r1 p1
      obtain rfl := r2 p2
      exact nodup_at hM h2 g2
theorem Rl.eq_iff (hL : L.Nodup) (hM : M.Nodup) (sL : Srt L) (sM : Srt M) {i i' j j' : Nat} (h : Rl L M i j) (h' : Rl L M i' j') : i = i' ↔ j = j' := by
  constructor
  · rintro rfl; exact h.fn hM sM h'
  · rintro rfl; exact h.flip.fn hL sL h'.flip
theorem put_srt {a : Nd} (h : Srt L) (ha : ∀ k x y, a = deedNd k x y → swapsB k = true → x ≤ y) : Srt (putN L a).2 := by
  intro k x y hm hs
  simp only [putN, insN] at hm
  split at hm
  · exact h k x y hm hs
  · rcases List.mem_append.1 hm with hm | hm
    · exact h k x y hm hs
    · exact ha k x y (by simpa using (List.mem_singleton.1 hm).symm) hs
def RI (L M : List Nd) (x y : Int) : Prop := ∃ m n : Nat, x = m ∧ y = n ∧ Rl L M m n
theorem RI.mono {L' M' : List Nd} (hl : L <+: L') (hm : M <+: M') {x y : Int} (h : RI L M x y) : RI L' M' x y := by
  obtain ⟨m, n, rfl, rfl, h⟩ := h
  exact ⟨m, n, rfl, rfl, h.mono hl hm⟩
theorem RI.eq_iff (hL : L.Nodup) (hM : M.Nodup) (sL : Srt L) (sM : Srt M) {x x' y y' : Int} (h : RI L M x y) (h' : RI L M x' y') : x = x' ↔ y = y' := by
  obtain ⟨m, n, rfl, rfl, h⟩ := h
  obtain ⟨m', n', rfl, rfl, h'⟩ := h'
  have := h.eq_iff hL hM sL sM h'
  omega
def Par (f : List Nd → Int × List Nd) : Prop := (∀ L, Srt L → Srt (f L).2) ∧ (∀ L, L <+: (f L).2) ∧ ∀ L M, RI (f L).2 (f M).2 (f L).1 (f M).1
def Par3 (f : List Nd → R3) : Prop := (∀ L, Srt L → Srt (f L).2.2) ∧ (∀ L, L <+: (f L).2.2) ∧ (∀ L M, (f L).2.1 = (f M).2.1) ∧ ∀ L M, (f L).2.1 = true → RI (f L).2.2 (f M).2.2 (f L).1 (f M).1
theorem put_par {a : Nd} (ha : a.kind ≠ 2) : Par fun L => putN L a := by
  refine ⟨fun L h => put_srt h fun k x y e => ?_, (put_stab a).1, fun L M => ?_⟩
  · rw [e] at ha; exact absurd rfl ha
  · obtain ⟨m, h1, h2⟩ := put_at L a
    obtain ⟨n, h3, h4⟩ := put_at M a
    exact ⟨m, n, h1, h3, .leaf h2 h4 ha⟩
theorem okP_par {f : List Nd → Int × List Nd} (h : Par f) : Par3 fun L => okP (f L) := ⟨h.1, h.2.1, fun _ _ => rfl, fun L M _ => h.2.2 L M⟩
theorem noR_par : Par3 fun L => noR L := ⟨fun L h => h, fun L => List.prefix_refl _, fun _ _ => rfl, fun L M h => by cases h⟩
theorem both3_par {f : List Nd → Int × List Nd} (h : Par f) (b : Bool) : Par3 fun L => ((f L).1, b, (f L).2) := ⟨h.1, h.2.1, fun _ _ => rfl, fun L M _ => h.2.2 L M⟩
theorem sumk (f : List Nat) : (sumNd f).kind ≠ 2 := by show (0 : Nat) ≠ 2; decide
theorem bitk (fv : List Int) (ft : List Nat) : (bitNd fv ft).kind ≠ 2 := by show (1 : Nat) ≠ 2; decide
theorem sums_par (kind : Int) (a c : Nd) : Par3 fun L => sumsN L kind a c := by
  by_cases h1 : a.kind = 0 ∧ c.kind = 0
  case neg => simp only [sumsN, if_neg h1]; exact noR_par
  simp only [sumsN, if_pos h1]
  by_cases h4 : kind = 4
  · simp only [if_pos h4]; exact okP_par (put_par (sumk _))
  by_cases h20 : kind = 20
  · simp only [if_neg h4, if_pos h20]; exact okP_par (put_par (sumk _))
  simp only [if_neg h4, if_neg h20]
  cases fConst a.f with
  | none =>
    cases fConst c.f with
    | none => exact noR_par
    | some v =>
      simp only []
      by_cases h36 : kind = 36
      · simp only [if_pos h36]; exact okP_par (put_par (sumk _))
      by_cases h100 : kind = 100
      · simp only [if_neg h36, if_pos h100]; exact okP_par (put_par (sumk _))
      simp only [if_neg h36, if_neg h100]; exact noR_par
  | some u =>
    cases fConst c.f with
    | none =>
      simp only []
      by_cases h36 : kind = 36
      · simp only [if_pos h36]; exact okP_par (put_par (sumk _))
      simp only [if_neg h36]; exact noR_par
    | some v =>
      simp only []
      by_cases h36 : kind = 36
      · simp only [if_pos h36]; exact okP_par (put_par (sumk _))
      by_cases h100 : kind = 100
      · simp only [if_neg h36, if_pos h100]; exact okP_par (put_par (sumk _))
      simp only [if_neg h36, if_neg h100]; exact both3_par (put_par (sumk _)) _
theorem bits_par (fv : List Int) (ft : List Nat) : Par fun L => bitsN L fv ft := by
  match fv with
  | [] => exact put_par (sumk _)
  | [i] =>
    simp only [bitsN]
    by_cases h1 : ft = [0, ones]
    · simp only [if_pos h1]; exact put_par (sumk _)
    by_cases h2 : ft = [ones, 0]
    · simp only [if_neg h1, if_pos h2]; exact put_par (sumk _)
    simp only [if_neg h1, if_neg h2]; exact put_par (bitk _ _)
  | i :: j :: l => exact put_par (bitk _ _)
theorem both_par (kind : Int) (a c : Nd) : Par3 fun L => bothN L kind a c := by
  simp only [bothN]
  cases asB a with
  | none => exact noR_par
  | some p =>
    cases asB c with
    | none => exact noR_par
    | some q =>
      simp only []
      cases bdo kind p q with
      | none => exact noR_par
      | some r => exact okP_par (bits_par _ _)
theorem Rl.nodes {i j : Nat} {a a' : Nd} (h : Rl L M i j) (ha : L[i]? = some a) (hb : M[j]? = some a') : a = a' ∨ a.kind = 2 ∧ a'.kind = 2 := by
  cases h with
  | leaf h1 h2 h3 => rw [h1] at ha; rw [h2] at hb; cases ha; cases hb; exact .inl rfl
  | deed h1 h2 => rw [h1] at ha; rw [h2] at hb; cases ha; cases hb; exact .inr ⟨rfl, rfl⟩
  | swap h1 h2 => rw [h1] at ha; rw [h2] at hb; cases ha; cases hb; exact .inr ⟨rfl, rfl⟩
theorem sums_deed {kind : Int} {a c : Nd} (h : a.kind = 2 ∨ c.kind = 2) (L : List Nd) : sumsN L kind a c = noR L := by
  rw [sumsN, if_neg]
  rintro ⟨h1, h2⟩
  rcases h with h | h <;> omega
theorem asB_deed {a : Nd} (h : a.kind = 2) : asB a = none := by simp [asB, h]
theorem both_deed {kind : Int} {a c : Nd} (h : a.kind = 2 ∨ c.kind = 2) (L : List Nd) : bothN L kind a c = noR L := by
  rcases h with h | h
  · simp [bothN, asB_deed h]
  · cases e : asB a <;> simp [bothN, asB_deed h, e]
def PP (f g : List Nd → R3) : Prop := ∀ L M, Srt L → Srt M → Srt (f L).2.2 ∧ Srt (g M).2.2 ∧ L <+: (f L).2.2 ∧ M <+: (g M).2.2 ∧ (f L).2.1 = (g M).2.1 ∧ ((f L).2.1 = true → RI (f L).2.2 (g M).2.2 (f L).1 (g M).1)
theorem Par3.pp {f : List Nd → R3} (h : Par3 f) : PP f f := fun L M sL sM => ⟨h.1 L sL, h.1 M sM, h.2.1 L, h.2.1 M, h.2.2.1 L M, h.2.2.2 L M⟩
theorem sums_pp {kind : Int} {a c a' c' : Nd} (h1 : a = a' ∨ a.kind = 2 ∧ a'.kind = 2) (h2 : c = c' ∨ c.kind = 2 ∧ c'.kind = 2) : PP (fun L => sumsN L kind a c) (fun L => sumsN L kind a' c') := by
  rcases h1 with rfl | ⟨h1, h1'⟩
  · rcases h2 with rfl | ⟨h2, h2'⟩
    · exact (sums_par kind a c).pp
    · simp only [sums_deed (.inr h2), sums_deed (.inr h2')]; exact noR_par.pp
  · simp only [sums_deed (.inl h1), sums_deed (.inl h1')]; exact noR_par.pp
theorem both_pp {kind : Int} {a c a' c' : Nd} (h1 : a = a' ∨ a.kind = 2 ∧ a'.kind = 2) (h2 : c = c' ∨ c.kind = 2 ∧ c'.kind = 2) : PP (fun L => bothN L kind a c) (fun L => bothN L kind a' c') := by
  rcases h1 with rfl | ⟨h1, h1'⟩
  · rcases h2 with rfl | ⟨h2, h2'⟩
    · exact (both_par kind a c).pp
    · simp only [both_deed (.inr h2), both_deed (.inr h2')]; exact noR_par.pp
  · simp only [both_deed (.inl h1), both_deed (.inl h1')]; exact noR_par.pp
theorem const_pp {a a' : Nd} (h : a = a' ∨ a.kind = 2 ∧ a'.kind = 2) : constA a = constA a' := by
  rcases h with rfl | ⟨h1, h2⟩
  · rfl
  · simp [constA, h1, h2]
theorem plain_pp {kind : Int} {c : Option Nat} {x y u w : Int} (he : x = y ↔ u = w) : (plainN kind c x y).2 = (plainN kind c u w).2 ∧ ((plainN kind c x y).2 = true → (plainN kind c x y).1 = x ∧ (plainN kind c u w).1 = u) := by
  have hd : decide (x = y) = decide (u = w) := by simp only [he]
  unfold plainN
  by_cases h1 : kind = 4 ∨ kind = 20 ∨ kind = 100 ∨ kind = 116
  · simp only [if_pos h1]; exact ⟨trivial, fun _ => ⟨trivial, trivial⟩⟩
  by_cases h2 : kind = 68
  · simp only [if_neg h1, if_pos h2, hd]; exact ⟨trivial, fun _ => ⟨trivial, trivial⟩⟩
  by_cases h3 : kind = 164
  · simp only [if_neg h1, if_neg h2, if_pos h3]; exact ⟨trivial, fun _ => ⟨trivial, trivial⟩⟩
  by_cases h4 : kind = 84
  · simp only [if_neg h1, if_neg h2, if_neg h3, if_pos h4, hd]; exact ⟨trivial, fun _ => ⟨trivial, trivial⟩⟩
  simp only [if_neg h1, if_neg h2, if_neg h3, if_neg h4]
  exact ⟨trivial, fun h => by cases h⟩
theorem put_deed {k : Int} {x y u w : Nat} (h : Rl L M x u ∧ Rl L M y w ∨ swapsB k = true ∧ Rl L M x w ∧ Rl L M y u) : RI (putN L (deedNd k x y)).2 (putN M (deedNd k u w)).2 (putN L (deedNd k x y)).1 (putN M (deedNd k u w)).1 := by
  obtain ⟨m, h1, h2⟩ := put_at L (deedNd k x y)
  obtain ⟨n, h3, h4⟩ := put_at M (deedNd k u w)
  have p1 := (put_stab (deedNd k x y)).1 L
  have p2 := (put_stab (deedNd k u w)).1 M
  refine ⟨m, n, h1, h3, ?_⟩
  rcases h with ⟨r1, r2⟩ | ⟨hs, r1, r2⟩
  · exact .deed h2 h4 (r1.mono p1 p2) (r2.mono p1 p2)
  · exact .swap h2 h4 hs (r1.mono p1 p2) (r2.mono p1 p2)
theorem deed_srt {k : Int} {x y : Nat} (h : Srt L) (hs : swapsB k = true → x ≤ y) : Srt (putN L (deedNd k x y)).2 := put_srt h fun k' x' y' e hs' => by
  obtain ⟨rfl, rfl, rfl⟩ := deed_inj e
  exact hs hs'
theorem alu2_par (hL : L.Nodup) (hM : M.Nodup) (sL : Srt L) (sM : Srt M) {kind : Int} {x y u w : Nat} {a c a' c' : Nd} (hx : L[x]? = some a) (hy : L[y]? = some c) (hu : M[u]? = some a') (hw : M[w]? = some c') (r1 : Rl L M x u) (r2 : Rl L M y w) :
    Srt (bAlu2 L kind x y a c).2 ∧ Srt (bAlu2 M kind u w a' c').2 ∧ RI (bAlu2 L kind x y a c).2 (bAlu2 M kind u w a' c').2 (bAlu2 L kind x y a c).1 (bAlu2 M kind u w a' c').1 := by
  have n1 := r1.nodes hx hu
  have n2 := r2.nodes hy hw
  have hxy : ((x : Int) = (y : Int)) ↔ ((u : Int) = (w : Int)) := by have := r1.eq_iff hL hM sL sM r2; omega
  have hyx : ((y : Int) = (x : Int)) ↔ ((w : Int) = (u : Int)) := by have := r1.eq_iff hL hM sL sM r2; omega
  obtain ⟨sa, sb, pa, pb, ef, er⟩ := sums_pp (kind := kind) n1 n2 L M sL sM
  simp only [] at sa sb pa pb ef er
  obtain ⟨ta, tb, qa, qb, gf, gr⟩ := both_pp (kind := kind) n1 n2 (sumsN L kind a c).2.2 (sumsN M kind a' c').2.2 sa sb
  simp only [] at ta tb qa qb gf gr
  obtain ⟨f3, v3⟩ := plain_pp (kind := kind) (c := constA c) hxy
  rw [const_pp n2] at f3 v3
  obtain ⟨f4, v4⟩ := plain_pp (kind := kind) (c := constA a) hyx
  rw [const_pp n1] at f4 v4
  have c1 := const_pp n1
  have c2 := const_pp n2
  have R1 := r1.mono pa pb
  have R2 := r2.mono pa pb
  simp only [bAlu2]
  rw [← ef, ← gf, c1, c2, ← f3, ← f4]
  by_cases h1 : (sumsN L kind a c).2.1 = true
  · simp only [if_pos h1]; exact ⟨sa, sb, er h1⟩
  simp only [if_neg h1]
  by_cases h2 : (bothN (sumsN L kind a c).2.2 kind a c).2.1 = true
  · simp only [if_pos h2]; exact ⟨ta, tb, gr h2⟩
  simp only [if_neg h2]
  by_cases h3 : (plainN kind (constA c') x y).2 = true
  · simp only [if_pos h3]
    obtain ⟨e1, e2⟩ := v3 h3
    rw [e1, e2]
    exact ⟨sa, sb, x, u, rfl, rfl, R1⟩
  simp only [if_neg h3]
  by_cases h4 : swapsB kind = true ∧ (plainN kind (constA a') y x).2 = true
  · simp only [if_pos h4]
    obtain ⟨e1, e2⟩ := v4 h4.2
    rw [e1, e2]
    exact ⟨sa, sb, y, w, rfl, rfl, R2⟩
  simp only [if_neg h4]
  by_cases hs : swapsB kind = true
  · by_cases h5 : y < x
    · rw [if_pos ⟨hs, h5⟩]
      by_cases h6 : w < u
      · rw [if_pos ⟨hs, h6⟩]
        exact ⟨deed_srt sa fun _ => by omega, deed_srt sb fun _ => by omega, put_deed (.inl ⟨R2, R1⟩)⟩
      · rw [if_neg (fun h => h6 h.2)]
        exact ⟨deed_srt sa fun _ => by omega, deed_srt sb fun _ => by omega, put_deed (.inr ⟨hs, R2, R1⟩)⟩
    · rw [if_neg (fun h => h5 h.2)]
      by_cases h6 : w < u
      · rw [if_pos ⟨hs, h6⟩]
        exact ⟨deed_srt sa fun _ => by omega, deed_srt sb fun _ => by omega, put_deed (.inr ⟨hs, R1, R2⟩)⟩
      · rw [if_neg (fun h => h6 h.2)]
        exact ⟨deed_srt sa fun _ => by omega, deed_srt sb fun _ => by omega, put_deed (.inl ⟨R1, R2⟩)⟩
  · rw [if_neg (fun h => hs h.1), if_neg (fun h => hs h.1)]
    exact ⟨deed_srt sa fun h => absurd h hs, deed_srt sb fun h => absurd h hs, put_deed (.inl ⟨R1, R2⟩)⟩
theorem Rl.lt {i j : Nat} (h : Rl L M i j) : i < L.length ∧ j < M.length := by
  cases h with
  | leaf h1 h2 => exact ⟨(List.getElem?_eq_some_iff.1 h1).1, (List.getElem?_eq_some_iff.1 h2).1⟩
  | deed h1 h2 => exact ⟨(List.getElem?_eq_some_iff.1 h1).1, (List.getElem?_eq_some_iff.1 h2).1⟩
  | swap h1 h2 => exact ⟨(List.getElem?_eq_some_iff.1 h1).1, (List.getElem?_eq_some_iff.1 h2).1⟩
theorem RI.has {x y : Int} (h : RI L M x y) : hasI L x = true ∧ hasI M y = true := by
  obtain ⟨m, n, rfl, rfl, h⟩ := h
  have := h.lt
  simp only [hasI, decide_eq_true_eq]
  omega
structure Two (L M L' M' : List Nd) : Prop where
  iL : Inv L'
  iM : Inv M'
  sL : Srt L'
  sM : Srt M'
  pL : L <+: L'
  pM : M <+: M'
theorem alu_par (iL : Inv L) (iM : Inv M) (sL : Srt L) (sM : Srt M) {kind x y u w : Int} (hk : (doW kind 0 1).2 = true) (r1 : RI L M x u) (r2 : RI L M y w) :
    Two L M (bAlu L kind x y).2 (bAlu M kind u w).2 ∧ RI (bAlu L kind x y).2 (bAlu M kind u w).2 (bAlu L kind x y).1 (bAlu M kind u w).1 := by
  have e1 := alu_ext (kind := kind) (x := x) (y := y) iL
  have e2 := alu_ext (kind := kind) (x := u) (y := w) iM
  obtain ⟨hx, hu⟩ := r1.has
  obtain ⟨hy, hw⟩ := r2.has
  obtain ⟨x, u, rfl, rfl, r1⟩ := r1
  obtain ⟨y, w, rfl, rfl, r2⟩ := r2
  obtain ⟨lx, lu⟩ := r1.lt
  obtain ⟨ly, lw⟩ := r2.lt
  have gx := List.getElem?_eq_getElem lx
  have gy := List.getElem?_eq_getElem ly
  have gu := List.getElem?_eq_getElem lu
  have gw := List.getElem?_eq_getElem lw
  have hR : bAlu L kind x y = bAlu2 L kind x y L[x] L[y] := by rw [bAlu, if_pos ⟨hk, hx, hy⟩]; simp [gx, gy]
  have hS : bAlu M kind u w = bAlu2 M kind u w M[u] M[w] := by rw [bAlu, if_pos ⟨hk, hu, hw⟩]; simp [gu, gw]
  obtain ⟨a1, a2, a3⟩ := alu2_par iL.one iM.one sL sM (kind := kind) gx gy gu gw r1 r2
  rw [← hR, ← hS] at a3
  rw [← hR] at a1
  rw [← hS] at a2
  exact ⟨⟨e1.inv, e2.inv, a1, a2, e1.pre, e2.pre⟩, a3⟩
theorem Two.trans {L' M' L'' M'' : List Nd} (h : Two L M L' M') (k : Two L' M' L'' M'') : Two L M L'' M'' := ⟨k.iL, k.iM, k.sL, k.sM, h.pL.trans k.pL, h.pM.trans k.pM⟩
theorem Two.refl (iL : Inv L) (iM : Inv M) (sL : Srt L) (sM : Srt M) : Two L M L M := ⟨iL, iM, sL, sM, List.prefix_refl _, List.prefix_refl _⟩
theorem put_two (iL : Inv L) (iM : Inv M) (sL : Srt L) (sM : Srt M) {f : List Nat} (hf : f.length = 35) (hw : ∀ c ∈ f, c < 4294967296) :
    Two L M (putN L (sumNd f)).2 (putN M (sumNd f)).2 ∧ RI (putN L (sumNd f)).2 (putN M (sumNd f)).2 (putN L (sumNd f)).1 (putN M (sumNd f)).1 := by
  have p := put_par (sumk f)
  have e1 := (put_ext iL (sum_good hf hw _)).1
  have e2 := (put_ext iM (sum_good hf hw _)).1
  exact ⟨⟨e1.inv, e2.inv, p.1 L sL, p.1 M sM, e1.pre, e2.pre⟩, p.2.2 L M⟩
theorem neg_par (iL : Inv L) (iM : Inv M) (sL : Srt L) (sM : Srt M) {x u : Int} (r : RI L M x u) : Two L M (bNeg L x).2 (bNeg M u).2 ∧ RI (bNeg L x).2 (bNeg M u).2 (bNeg L x).1 (bNeg M u).1 := by
  obtain ⟨hx, hu⟩ := r.has
  obtain ⟨t, r0⟩ := put_two iL iM sL sM (f := 0 :: zeros 34) (by simp) (const_lt (by decide))
  rw [bNeg, bNeg, if_pos hx, if_pos hu]
  obtain ⟨t2, r2⟩ := alu_par t.iL t.iM t.sL t.sM (kind := 20) (by decide +kernel) r0 (r.mono t.pL t.pM)
  exact ⟨t.trans t2, r2⟩
theorem var_two (iL : Inv L) (iM : Inv M) (sL : Srt L) (sM : Srt M) {i : Int} (h0 : 0 ≤ i) (h1 : i < 34) : Two L M (varN L i).2 (varN M i).2 ∧ RI (varN L i).2 (varN M i).2 (varN L i).1 (varN M i).1 := by
  rw [varN, varN, if_pos ⟨h0, h1⟩, if_pos ⟨h0, h1⟩]
  exact put_two iL iM sL sM (varL_len _) (varL_lt _)
end Go.Ev
/- Two windows' values in two books that were made in another order. -/
namespace Go.Ev
open Go Go.RowKit
set_option maxRecDepth 10000
set_option maxHeartbeats 4000000
set_option linter.unusedSimpArgs false
set_option linter.unusedVariables false
variable {L M : List Nd}
structure PW (n : Nat) (s t : VS) : Prop where
  iL : Inv s.L
  iM : Inv t.L
  sL : Srt s.L
  sM : Srt t.L
  lp : s.p.length = 18
  lq : t.p.length = 18
  parts : ∀ i < n, RI s.L t.L (s.p.getD i 0) (t.p.getD i 0)
  ls : s.st.length = t.st.length
  stops : ∀ i < s.st.length, RI s.L t.L (s.st.getD i 0) (t.st.getD i 0)
theorem PW.to {n : Nat} {s t : VS} (h : PW n s t) {L' M' : List Nd} (k : Two s.L t.L L' M') : PW n ⟨L', s.p, s.st⟩ ⟨M', t.p, t.st⟩ :=
  ⟨k.iL, k.iM, k.sL, k.sM, h.lp, h.lq, fun i hi => (h.parts i hi).mono k.pL k.pM, h.ls, fun i hi => (h.stops i hi).mono k.pL k.pM⟩
theorem PW.set {n i : Nat} {L M : List Nd} {p q st tt : List Int} (h : PW n ⟨L, p, st⟩ ⟨M, q, tt⟩) {x y : Int} (r : RI L M x y) : PW n ⟨L, p.set i x, st⟩ ⟨M, q.set i y, tt⟩ := by
  refine ⟨h.iL, h.iM, h.sL, h.sM, by simpa using h.lp, by simpa using h.lq, fun j hj => ?_, h.ls, h.stops⟩
  have h1 := h.lp
  have h2 := h.lq
  have h3 := h.parts j hj
  simp only [] at h1 h2 h3 ⊢
  by_cases e : i = j
  · subst e
    by_cases hi : i < 18
    · rw [List.getD_eq_getElem?_getD, List.getD_eq_getElem?_getD, List.getElem?_set_self (by omega), List.getElem?_set_self (by omega)]; exact r
    · rw [List.set_eq_of_length_le (by omega), List.set_eq_of_length_le (by omega)]; exact h3
  · rw [List.getD_eq_getElem?_getD, List.getD_eq_getElem?_getD, List.getElem?_set_ne e, List.getElem?_set_ne e, ← List.getD_eq_getElem?_getD, ← List.getD_eq_getElem?_getD]; exact h3
theorem PW.stop {n : Nat} {L M : List Nd} {p q st tt : List Int} (h : PW n ⟨L, p, st⟩ ⟨M, q, tt⟩) {x y : Int} (r : RI L M x y) : PW n ⟨L, p, st ++ [x]⟩ ⟨M, q, tt ++ [y]⟩ := by
  have hl := h.ls
  simp only [] at hl
  refine ⟨h.iL, h.iM, h.sL, h.sM, h.lp, h.lq, h.parts, by simpa using hl, fun j hj => ?_⟩
  simp only [List.length_append, List.length_cons, List.length_nil] at hj ⊢
  rw [List.getD_eq_getElem?_getD, List.getD_eq_getElem?_getD]
  by_cases e : j < st.length
  · rw [List.getElem?_append_left e, List.getElem?_append_left (by omega), ← List.getD_eq_getElem?_getD, ← List.getD_eq_getElem?_getD]
    exact h.stops j e
  · obtain rfl : j = st.length := by omega
    rw [List.getElem?_append_right (Nat.le_refl _), List.getElem?_append_right (by omega), hl]
    simpa using r
theorem step_two {s t : VS} {x : In4} (h : PW 18 s t) (hx : plainW x = true) (hk : x.k < 4294967296) : PW 18 (stepV s x) (stepV t x) ∧ s.L <+: (stepV s x).L ∧ t.L <+: (stepV t x).L := by
  have hc := put_two h.iL h.iM h.sL h.sM (f := x.k :: zeros 34) (by simp) (const_lt hk)
  have hp := h.parts
  have rf : s.L <+: s.L := List.prefix_refl _
  have rg : t.L <+: t.L := List.prefix_refl _
  cases hal : (aluT x.op).2.2 with
  | true =>
    unfold stepV
    simp only [hal, if_true]
    have hby : Two s.L t.L (byV s x).2 (byV t x).2 ∧ RI (byV s x).2 (byV t x).2 (byV s x).1 (byV t x).1 := by
      unfold byV
      cases hb : (aluT x.op).2.1 with
      | true => simp only [if_true]; exact ⟨.refl h.iL h.iM h.sL h.sM, hp 1 (by omega)⟩
      | false => simp only [Bool.false_eq_true, if_false]; exact hc
    obtain ⟨k1, r1⟩ := hby
    obtain ⟨k2, r2⟩ := alu_par k1.iL k1.iM k1.sL k1.sM (kind := (aluT x.op).1) (aluT_valid hal) ((hp 0 (by omega)).mono k1.pL k1.pM) r1
    have k3 := k1.trans k2
    refine ⟨?_, k3.pL, k3.pM⟩
    have h0 := (h.to k3).set (i := 0) r2
    by_cases hs : (aluT x.op).2.1 = true ∧ (aluT x.op).1 = 52
    · simp only [if_pos hs]
      exact h0.stop ((hp 1 (by omega)).mono k3.pL k3.pM)
    · simp only [if_neg hs]; exact h0
  | false =>
    have hmem : x.op = 96 ∨ x.op = 97 ∨ x.op = 2 ∨ x.op = 3 → x.k < 16 := plain_mem hx
    unfold stepV
    simp only [hal, Bool.false_eq_true, if_false]
    by_cases o0 : x.op = 0
    · simp only [if_pos o0]; exact ⟨(h.to hc.1).set hc.2, hc.1.pL, hc.1.pM⟩
    by_cases o1 : x.op = 1
    · simp only [if_neg o0, if_pos o1]; exact ⟨(h.to hc.1).set hc.2, hc.1.pL, hc.1.pM⟩
    by_cases o32 : x.op = 32
    · obtain ⟨_, k64⟩ := plain_abs hx o32
      have hv := var_two (i := 18 + (x.k / 4 : Nat)) h.iL h.iM h.sL h.sM (by omega) (by omega)
      simp only [if_neg o0, if_neg o1, if_pos o32]; exact ⟨(h.to hv.1).set hv.2, hv.1.pL, hv.1.pM⟩
    by_cases o96 : x.op = 96
    · have := hmem (.inl o96)
      simp only [if_neg o0, if_neg o1, if_neg o32, if_pos o96]; exact ⟨h.set (hp _ (by omega)), rf, rg⟩
    by_cases o97 : x.op = 97
    · have := hmem (.inr (.inl o97))
      simp only [if_neg o0, if_neg o1, if_neg o32, if_neg o96, if_pos o97]; exact ⟨h.set (hp _ (by omega)), rf, rg⟩
    by_cases o2 : x.op = 2
    · simp only [if_neg o0, if_neg o1, if_neg o32, if_neg o96, if_neg o97, if_pos o2]; exact ⟨h.set (hp _ (by omega)), rf, rg⟩
    by_cases o3 : x.op = 3
    · simp only [if_neg o0, if_neg o1, if_neg o32, if_neg o96, if_neg o97, if_neg o2, if_pos o3]; exact ⟨h.set (hp _ (by omega)), rf, rg⟩
    by_cases o132 : x.op = 132
    · have hn := neg_par h.iL h.iM h.sL h.sM (hp 0 (by omega))
      simp only [if_neg o0, if_neg o1, if_neg o32, if_neg o96, if_neg o97, if_neg o2, if_neg o3, if_pos o132]
      exact ⟨(h.to hn.1).set hn.2, hn.1.pL, hn.1.pM⟩
    by_cases o7 : x.op = 7
    · simp only [if_neg o0, if_neg o1, if_neg o32, if_neg o96, if_neg o97, if_neg o2, if_neg o3, if_neg o132, if_pos o7]
      exact ⟨(h.set (i := 1) (hp 0 (by omega))).set (hp 0 (by omega)), rf, rg⟩
    by_cases o135 : x.op = 135
    · simp only [if_neg o0, if_neg o1, if_neg o32, if_neg o96, if_neg o97, if_neg o2, if_neg o3, if_neg o132, if_neg o7, if_pos o135]; exact ⟨h.set (hp 1 (by omega)), rf, rg⟩
    simp only [if_neg o0, if_neg o1, if_neg o32, if_neg o96, if_neg o97, if_neg o2, if_neg o3, if_neg o132, if_neg o7, if_neg o135]
    exact ⟨h, rf, rg⟩
theorem fold_two : ∀ (w : List In4) {s t : VS}, PW 18 s t → (∀ x ∈ w, plainW x = true) → (∀ x ∈ w, x.k < 4294967296) → PW 18 (w.foldl stepV s) (w.foldl stepV t) ∧ s.L <+: (w.foldl stepV s).L ∧ t.L <+: (w.foldl stepV t).L
  | [], s, t, h, _, _ => ⟨h, List.prefix_refl _, List.prefix_refl _⟩
  | x :: w, s, t, h, hp, hk => by
    obtain ⟨h1, h2, h3⟩ := step_two h (hp x (by simp)) (hk x (by simp))
    obtain ⟨k1, k2, k3⟩ := fold_two w h1 (fun y hy => hp y (by simp [hy])) (fun y hy => hk y (by simp [hy]))
    exact ⟨k1, h2.trans k2, h3.trans k3⟩
theorem vars_two (iL : Inv L) (iM : Inv M) (sL : Srt L) (sM : Srt M) : ∀ n, n ≤ 18 → PW n (varsV L n) (varsV M n) ∧ L <+: (varsV L n).L ∧ M <+: (varsV M n).L
  | 0, _ => ⟨⟨iL, iM, sL, sM, by simp [varsV], by simp [varsV], fun i h => absurd h (by omega), rfl, fun i h => absurd h (by simp [varsV])⟩, List.prefix_refl _, List.prefix_refl _⟩
  | n + 1, hn => by
    obtain ⟨ih, h1, h2⟩ := vars_two iL iM sL sM n (by omega)
    have hv := var_two (i := (n : Int)) ih.iL ih.iM ih.sL ih.sM (by omega) (by omega)
    rw [varsV_succ, varsV_succ]
    refine ⟨?_, h1.trans hv.1.pL, h2.trans hv.1.pM⟩
    have k := (ih.to hv.1).set (i := n) hv.2
    refine ⟨k.iL, k.iM, k.sL, k.sM, k.lp, k.lq, fun i hi => ?_, k.ls, k.stops⟩
    by_cases hne : i = n
    · subst hne
      have l1 := ih.lp
      have l2 := ih.lq
      simp only [varV]
      rw [List.getD_eq_getElem?_getD, List.getD_eq_getElem?_getD, List.getElem?_set_self (by omega), List.getElem?_set_self (by omega)]
      exact hv.2
    · exact k.parts i (by omega)
theorem win_two {w : List In4} (iL : Inv L) (iM : Inv M) (sL : Srt L) (sM : Srt M) (hk : ∀ x ∈ w, x.k < 4294967296) (hw : winB w = true) :
    PW 18 (winV L w) (winV M w) ∧ L <+: (winV L w).L ∧ M <+: (winV M w).L := by
  have hwp : ∀ x ∈ w, plainW x = true := by simp only [winB, Bool.and_eq_true, List.all_eq_true] at hw; exact hw.2
  obtain ⟨h1, h2, h3⟩ := vars_two iL iM sL sM 18 (Nat.le_refl _)
  obtain ⟨k1, k2, k3⟩ := fold_two w h1 hwp hk
  exact ⟨k1, h2.trans k2, h3.trans k3⟩
theorem Srt.nil : Srt [] := fun k x y h => by cases h
theorem getD_ext {s t : List Int} (hl : s.length = t.length) (h : ∀ i < s.length, s.getD i 0 = t.getD i 0) : s = t := by
  refine List.ext_getElem hl fun i h1 h2 => ?_
  have := h i h1
  simpa [List.getD_eq_getElem?_getD, List.getElem?_eq_getElem h1, List.getElem?_eq_getElem h2] using this
theorem same_of {s1 s2 t1 t2 : VS} {live : Nat} (a : PW 18 s1 t2) (b : PW 18 s2 t1) (p1 : s1.L <+: s2.L) (p2 : t1.L <+: t2.L) (h : sameB s1.p s2.p s1.st s2.st live = true) : sameB t1.p t2.p t1.st t2.st live = true := by
  have nL := b.iL.one
  have nM := a.iM.one
  have sL := b.sL
  have sM := a.sM
  obtain ⟨h1, h2⟩ := sameB_yes.1 h
  refine sameB_yes.2 ⟨fun i hi => ?_, ?_⟩
  · have e := h1 i hi
    unfold numDiff at e ⊢
    cases hb : partB live i with
    | false => rfl
    | true =>
      rw [hb, Bool.true_and] at e
      rw [Bool.true_and]
      simp only [bne_eq_false_iff_eq] at e ⊢
      exact (RI.eq_iff nL nM sL sM ((b.parts i hi).mono (List.prefix_refl _) p2) ((a.parts i hi).mono p1 (List.prefix_refl _))).1 e.symm
  · have l1 := a.ls
    have l2 := b.ls
    have l3 := congrArg List.length h2
    refine getD_ext (by omega) fun i hi => ?_
    have e : s2.st.getD i 0 = s1.st.getD i 0 := by rw [h2]
    exact (RI.eq_iff nL nM sL sM ((b.stops i (by omega)).mono (List.prefix_refl _) p2) ((a.stops i (by omega)).mono p1 (List.prefix_refl _))).1 e
theorem same_swap1 {v w : List In4} {live : Nat} (hkv : ∀ x ∈ v, x.k < 4294967296) (hkw : ∀ x ∈ w, x.k < 4294967296) (hv : winB v = true) (hw : winB w = true)
    (h : sameB (winV [] v).p (winV (winV [] v).L w).p (winV [] v).st (winV (winV [] v).L w).st live = true) :
    sameB (winV [] w).p (winV (winV [] w).L v).p (winV [] w).st (winV (winV [] w).L v).st live = true := by
  have a0 := (win_two Inv.nil Inv.nil Srt.nil Srt.nil hkv hv).1
  have b0 := (win_two Inv.nil Inv.nil Srt.nil Srt.nil hkw hw).1
  exact same_of (win_two Inv.nil b0.iL Srt.nil b0.sL hkv hv).1 (win_two a0.iL Inv.nil a0.sL Srt.nil hkw hw).1 (win_two a0.iL Inv.nil a0.sL Srt.nil hkw hw).2.1 (win_two b0.iL Inv.nil b0.sL Srt.nil hkv hv).2.1 h
theorem dec_swap {v w : List In4} {live : Nat} (hkv : ∀ x ∈ v, x.k < 4294967296) (hkw : ∀ x ∈ w, x.k < 4294967296) (hv : winB v = true) (hw : winB w = true) : (decR v w live).1 = 0 ↔ (decR w v live).1 = 0 := by
  have one : ∀ {v w : List In4}, (∀ x ∈ v, x.k < 4294967296) → (∀ x ∈ w, x.k < 4294967296) → winB v = true → winB w = true → (decR v w live).1 = 0 → (decR w v live).1 = 0 := fun {v w} hkv hkw hv hw h0 => by
    rcases dec_tells (live := live) hv hw with ⟨_, hs⟩ | ⟨r, h1, _⟩ | ⟨h1, _⟩
    · have hs' := same_swap1 hkv hkw hv hw hs
      rcases dec_tells (live := live) hw hv with ⟨h2, _⟩ | ⟨r, _, _, _, h2⟩ | ⟨_, _, h2⟩
      · rw [h2]
      · rw [hs'] at h2; cases h2
      · rw [hs'] at h2; cases h2
    · rw [h1] at h0; cases h0
    · rw [h1] at h0; cases h0
  exact ⟨one hkv hkw hv hw, one hkw hkv hw hv⟩
end Go.Ev
/- The law DecideSwaps. -/
namespace Go.Ev
open Go Go.RowKit
variable {G : Tbl}
set_option maxRecDepth 10000
set_option maxHeartbeats 4000000
set_option linter.unusedSimpArgs false
set_option linter.unusedVariables false
theorem DecideSwaps_ok [HasWd G] [HasNeg G] [HasIns G] [HasCheck G] [HasData G] [HasWith G] [HasStep G] [HasWRight G] [HasWinRun G] [HasWinAsg G] [HasWinState G] [HasWinOf G] [HasAffApart G] [HasAffine G] [hBA : HasBitsA G] [HasSymNew G] [HasSym G] [HasSymApart G] [HasDecDf G] [HasDec G]
    [HasR2 G] [HasR5o G] [HasR17 G] [HasL18 G] [HasL18d G]
    (hkn : FP G 319 [] (.bool true)) (v w : List In4) (live : Nat) (hf : v.length ≤ maxLen) (hg : w.length ≤ maxLen)
    (hk : ∀ x ∈ v, x.k < 4294967296) (hkw : ∀ x ∈ w, x.k < 4294967296) (hlv : live < 4294967296) :
    FP G 325 [FL v, FL w, .int .u32 live] (.bool true) := by
  refine FP_of HasL18d.h_hurdlelaw18_DecideSwaps (Nat.le_of_ble_eq_true rfl) ?_
  have hgr := great18_ok (G := G) v w
  simp only [FL] at hgr
  simp [FL]
  refine callP_of hgr ?_
  by_cases hb : 100 < v.length ∨ 100 < w.length
  · have hb' : (decide (100 < v.length) || decide (100 < w.length)) = true := by simpa using hb
    simp [hb']
    refine callP_of hkn ?_
    simp
  have hb' : (decide (100 < v.length) || decide (100 < w.length)) = false := by simpa using hb
  simp only [not_or, Nat.not_lt] at hb
  have hd2 := Decide_ok (G := G) v w live hf hg hk hkw hlv
  have hd3 := Decide_ok (G := G) w v live hg hf hkw hk hlv
  have hfa := fair_ok (G := G) v w (by omega) (by omega) hk hkw
  simp only [FL] at hd2 hd3 hfa
  simp [hb']
  refine callP_of hfa ?_
  cases hww : winB v && winB w with
  | false =>
    simp
    refine callP_of hkn ?_
    simp
  | true =>
  have hv : winB v = true := by simp only [Bool.and_eq_true] at hww; exact hww.1
  have hw : winB w = true := by simp only [Bool.and_eq_true] at hww; exact hww.2
  have hwv : (winB w && winB v) = true := by rw [hv, hw]; rfl
  have fact := dec_swap (live := live) hk hkw hv hw
  have two : ∀ v w : List In4, ∃ (c : Int) (B : List V), (decR v w live).1 = c ∧ B = ansC (decR v w live).1 (decR v w live).2 ∧ (∀ n, clL n B = B) ∧ B.length = 28 ∧ B.take 1 = [.int .i64 c] := fun v w =>
    ⟨_, _, rfl, rfl, fun n => ansC_cl _ _ n, decR_len v w live, ansC_hd _ _⟩
  obtain ⟨A, hA⟩ : ∃ A, A = ansC 0 none := ⟨_, rfl⟩
  have lA : A.length = 28 := by rw [hA]; rfl
  have hA0z : V.int .i64 0 :: (cnats .u32 (zeros 20) ++ cnats .u64 (zeros 7)) = A := by rw [hA]; rfl
  have tA : A.take 28 = A := List.take_of_length_le (by omega)
  have dA : A.drop 28 = [] := List.drop_eq_nil_of_le (by omega)
  have kA : ∀ n, clL n A = A := fun n => by rw [hA]; exact ansC_cl _ _ n
  obtain ⟨c, B, hc, hB, kB, lB, B1⟩ := two v w
  obtain ⟨e, C, he, hC, kC, lC, C1⟩ := two w v
  have tB : B.take 28 = B := List.take_of_length_le (by omega)
  have dB : B.drop 28 = [] := List.drop_eq_nil_of_le (by omega)
  have tC : C.take 28 = C := List.take_of_length_le (by omega)
  have dC : C.drop 28 = [] := List.drop_eq_nil_of_le (by omega)
  rw [hww, if_pos rfl, ← hB] at hd2
  rw [hwv, if_pos rfl, ← hC] at hd3
  rw [hc, he] at fact
  simp
  refine callP_of hd2 ?_
  simp [hA0z, lA, tA, dA, kA, lB, tB, dB, kB, keep_cl]
  refine callP_of hd3 ?_
  simp [hA0z, lA, tA, dA, kA, lB, tB, dB, B1, kB, lC, tC, dC, C1, kC, keep_cl]
  by_cases h0 : c = 0
  · have h1 := fact.1 h0
    subst h0 h1
    simp [lA, tA, lB, tB, B1, lC, tC, C1]
    refine callP_of hkn ?_
    simp
  · have h1 : ¬ e = 0 := fun h => h0 (fact.2 h)
    simp [beqF h0, beqF h1, h0, h1, lA, tA, lB, tB, B1, lC, tC, C1]
    refine callP_of hkn ?_
    simp
end Go.Ev
