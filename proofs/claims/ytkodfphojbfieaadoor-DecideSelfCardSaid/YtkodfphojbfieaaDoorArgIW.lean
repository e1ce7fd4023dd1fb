/- Arguments of the statements: instructions, states, records. -/
import Derived.Test.YtkodfphojbfieaaDoorCheckBW
import Derived.Test.YtkodfphojbfieaaDoorEvSW
import Derived.Test.YtkodfphojbfieaaDoorDecEW
import Derived.Test.YtkodfphojbfieaaDoorWinKW
import Derived.Test.YtkodfphojbfieaaDoorEvSymCW
set_option linter.unusedVariables false
set_option linter.unusedSimpArgs false
namespace Go.Ev
open Go Go.RowKit
set_option linter.unusedSimpArgs false
set_option linter.unusedVariables false
def i64R (n : Int) : Prop := -9223372036854775808 ≤ n ∧ n ≤ 9223372036854775807
def In4.ok (x : In4) : Prop := (i64R x.op ∧ i64R x.jt ∧ i64R x.jf) ∧ x.k < 4294967296
theorem i64_wf {n : Int} (h : (Lit.int .i64 n).wf = true) : i64R n := by
  simp [Lit.wf, IntKind.min, IntKind.max, IntKind.signed, IntKind.bits] at h
  unfold i64R
  omega
theorem ins_cells {cs : List V} (h : HasTy (.agg [.int .i64, .int .i64, .int .i64, .int .u32]) cs) : ∃ x : In4, cs = x.cs ∧ x.ok := by
  simp only [HasTy, HasTys] at h
  obtain ⟨a, _, rfl, ⟨n1, rfl, w1⟩, b, _, rfl, ⟨n2, rfl, w2⟩, c, _, rfl, ⟨n3, rfl, w3⟩, d, _, rfl, ⟨n4, rfl, w4⟩, rfl⟩ := h
  have w4 := u32_wf w4
  refine ⟨⟨n1, n2, n3, n4.toNat⟩, ?_, ⟨i64_wf w1, i64_wf w2, i64_wf w3⟩, by simp only; omega⟩
  simp [In4.cs, Int.toNat_of_nonneg w4.1]
theorem flt_list : ∀ {es : List (List V)}, (∀ x ∈ es, HasTy (.agg [.int .i64, .int .i64, .int .i64, .int .u32]) x) → ∃ f : List In4, es = IL f ∧ ∀ x ∈ f, x.ok
  | [], _ => ⟨[], rfl, by simp⟩
  | e :: es, h => by
    obtain ⟨x, rfl, hx⟩ := ins_cells (h e (by simp))
    obtain ⟨f, rfl, hf⟩ := flt_list (es := es) fun y hy => h y (by simp [hy])
    refine ⟨x :: f, by simp [IL], fun y hy => ?_⟩
    simp only [List.mem_cons] at hy
    rcases hy with rfl | hy
    · exact hx
    · exact hf y hy
theorem flt_arg {v : V} (h : ArgIs (.sl (.agg [.int .i64, .int .i64, .int .i64, .int .u32])) v) : ∃ f : List In4, v = FL f ∧ f.length ≤ maxLen ∧ ∀ x ∈ f, x.ok := by
  have h : HasTy (.sl (.agg [.int .i64, .int .i64, .int .i64, .int .u32])) [v] := h
  rw [HasTy] at h
  obtain ⟨es, hes, hl, he⟩ := h
  obtain ⟨f, rfl, hf⟩ := flt_list he
  simp only [List.cons.injEq, and_true] at hes
  exact ⟨f, by rw [hes]; rfl, by simpa using hl, hf⟩
end Go.Ev
/- The laws DecideEqual, DecideDiffer. -/
namespace Go.Ev
open Go Go.RowKit
variable {G : Tbl}
set_option maxRecDepth 10000
set_option maxHeartbeats 4000000
set_option linter.unusedSimpArgs false
set_option linter.unusedVariables false
theorem ansC_hd (c : Int) (o : Option (List Nat)) : (ansC c o).take 1 = [.int .i64 c] := by cases o <;> rfl
theorem decR_len (v w : List In4) (live : Nat) : (ansC (decR v w live).1 (decR v w live).2).length = 28 := by
  cases hww : winB v && winB w with
  | false =>
    have hd0 : decR v w live = (0, none) := by simp [decR, hww]
    rw [hd0]; rfl
  | true =>
    simp only [Bool.and_eq_true] at hww
    rcases dec_tells (live := live) hww.1 hww.2 with ⟨e, _⟩ | ⟨r, e, hr, _, _⟩ | ⟨e, _, _⟩
    · rw [e]; rfl
    · obtain ⟨h1, h2⟩ := triesL_ok hr
      rw [e]; exact (ansC_cells h1 h2 1).1
    · rw [e]; rfl
end Go.Ev
/- The parts of windows of sums, and of bits: plain laws. -/
namespace Go.Ev
open Go Go.RowKit
set_option maxRecDepth 10000
set_option maxHeartbeats 2000000
set_option linter.unusedSimpArgs false
set_option linter.unusedVariables false
variable {G : Tbl} {L L' : List Nd}
def Lasts (F : Nat → List Nd → Int → Prop) : Prop := ∀ i L L' x, F i L x → L <+: L' → F i L' x
def AllN (F : Nat → List Nd → Int → Prop) (n : Nat) (L : List Nd) (p : List Int) : Prop := p.length = 18 ∧ ∀ i < n, F i L (p.getD i 0)
theorem AllN.pre {F : Nat → List Nd → Int → Prop} {n : Nat} {p : List Int} (h : AllN F n L p) (hF : Lasts F) (e : L <+: L') : AllN F n L' p := ⟨h.1, fun i hi => hF i _ _ _ (h.2 i hi) e⟩
theorem AllN.set {F : Nat → List Nd → Int → Prop} {n i : Nat} {p : List Int} {x : Int} (h : AllN F n L p) (hF : Lasts F) (e : L <+: L') (hx : F i L' x) : AllN F n L' (p.set i x) := by
  refine ⟨by rw [List.length_set]; exact h.1, fun j hj => ?_⟩
  by_cases hij : i = j
  · subst hij
    by_cases hl : i < p.length
    · rw [List.getD_eq_getElem?_getD, List.getElem?_set_self hl]; exact hx
    · rw [List.set_eq_of_length_le (by omega)]; exact hF _ _ _ _ (h.2 i hj) e
  · rw [List.getD_eq_getElem?_getD, List.getElem?_set_ne hij, ← List.getD_eq_getElem?_getD]; exact hF _ _ _ _ (h.2 j hj) e
theorem plain_mem {x : In4} (hx : plainW x = true) (ho : x.op = 96 ∨ x.op = 97 ∨ x.op = 2 ∨ x.op = 3) : x.k < 16 := by
  simp only [plainW, Bool.and_eq_true] at hx
  have h2 := hx.2
  rcases ho with ho | ho | ho | ho <;> simp [ruleB, ho] at h2 <;> exact h2
theorem plain_abs {x : In4} (hx : plainW x = true) (ho : x.op = 32) : x.k % 4 = 0 ∧ x.k < 64 := by
  simp only [plainW, Bool.and_eq_true] at hx
  have h2 := hx.2
  simp [ruleB, ho] at h2; exact h2
end Go.Ev
/- What is made again in a book that has it all has the same numbers. -/
namespace Go.Ev
open Go Go.RowKit
set_option maxRecDepth 10000
set_option maxHeartbeats 4000000
set_option linter.unusedSimpArgs false
set_option linter.unusedVariables false
variable {L M : List Nd}
def Stab (f : List Nd → Int × List Nd) : Prop := (∀ L, L <+: (f L).2) ∧ ∀ L M, (f L).2 <+: M → f M = ((f L).1, M)
def Stab3 (f : List Nd → R3) : Prop := (∀ L, L <+: (f L).2.2) ∧ ∀ L M, (f L).2.2 <+: M → f M = ((f L).1, (f L).2.1, M)
theorem put_stab (a : Nd) : Stab fun L => putN L a := by
  refine ⟨fun L => ?_, fun L M h => ?_⟩
  · simp only [putN, insN]
    split
    · exact List.prefix_refl _
    · exact List.prefix_append _ _
  · obtain ⟨t, rfl⟩ := h
    simp only [putN]
    have hm : a ∈ insN L a := by unfold insN; split <;> simp_all
    have hm2 : a ∈ insN L a ++ t := List.mem_append.2 (.inl hm)
    have h1 : (insN L a ++ t).idxOf a = (insN L a).idxOf a := by rw [List.idxOf_append, if_pos hm]
    have h2 : (insN L a).idxOf a = L.idxOf a := by
      unfold insN
      split
      · rfl
      · rename_i hn
        rw [List.idxOf_append, if_neg hn, idxOf_out hn]; simp
    have h3 : ∀ N : List Nd, a ∈ N → insN N a = N := fun N h => if_pos h
    rw [h1, h2, h3 _ hm2]
theorem okP_stab {f : List Nd → Int × List Nd} (h : Stab f) : Stab3 fun L => okP (f L) := by
  refine ⟨fun L => h.1 L, fun L M hp => ?_⟩
  have := h.2 L M hp
  simp only [okP] at this ⊢
  rw [this]
theorem noR_stab : Stab3 fun L => noR L := ⟨fun L => List.prefix_refl _, fun L M h => rfl⟩
theorem both3_stab {f : List Nd → Int × List Nd} (h : Stab f) (b : Bool) : Stab3 fun L => ((f L).1, b, (f L).2) := by
  refine ⟨fun L => h.1 L, fun L M hp => ?_⟩
  have := h.2 L M hp
  simp only [this]
theorem sums_stab (kind : Int) (a c : Nd) : Stab3 fun L => sumsN L kind a c := by
  by_cases h1 : a.kind = 0 ∧ c.kind = 0
  case neg => simp only [sumsN, if_neg h1]; exact noR_stab
  simp only [sumsN, if_pos h1]
  by_cases h4 : kind = 4
  · simp only [if_pos h4]; exact okP_stab (put_stab _)
  by_cases h20 : kind = 20
  · simp only [if_neg h4, if_pos h20]; exact okP_stab (put_stab _)
  simp only [if_neg h4, if_neg h20]
  cases fConst a.f with
  | none =>
    cases fConst c.f with
    | none => exact noR_stab
    | some v =>
      simp only []
      by_cases h36 : kind = 36
      · simp only [if_pos h36]; exact okP_stab (put_stab _)
      by_cases h100 : kind = 100
      · simp only [if_neg h36, if_pos h100]; exact okP_stab (put_stab _)
      simp only [if_neg h36, if_neg h100]; exact noR_stab
  | some u =>
    cases fConst c.f with
    | none =>
      simp only []
      by_cases h36 : kind = 36
      · simp only [if_pos h36]; exact okP_stab (put_stab _)
      simp only [if_neg h36]; exact noR_stab
    | some v =>
      simp only []
      by_cases h36 : kind = 36
      · simp only [if_pos h36]; exact okP_stab (put_stab _)
      by_cases h100 : kind = 100
      · simp only [if_neg h36, if_pos h100]; exact okP_stab (put_stab _)
      simp only [if_neg h36, if_neg h100]; exact both3_stab (put_stab _) _
theorem bits_stab (fv : List Int) (ft : List Nat) : Stab fun L => bitsN L fv ft := by
  match fv with
  | [] => exact put_stab _
  | [i] =>
    simp only [bitsN]
    by_cases h1 : ft = [0, ones]
    · simp only [if_pos h1]; exact put_stab _
    by_cases h2 : ft = [ones, 0]
    · simp only [if_neg h1, if_pos h2]; exact put_stab _
    simp only [if_neg h1, if_neg h2]; exact put_stab _
  | i :: j :: l => exact put_stab _
theorem both_stab (kind : Int) (a c : Nd) : Stab3 fun L => bothN L kind a c := by
  simp only [bothN]
  cases asB a with
  | none => exact noR_stab
  | some p =>
    cases asB c with
    | none => exact noR_stab
    | some q =>
      simp only []
      cases bdo kind p q with
      | none => exact noR_stab
      | some r => exact okP_stab (bits_stab _ _)
theorem alu2_stab (kind : Int) (x y : Nat) (a c : Nd) : Stab fun L => bAlu2 L kind x y a c := by
  obtain ⟨s1, s2⟩ := sums_stab kind a c
  obtain ⟨b1, b2⟩ := both_stab kind a c
  refine ⟨fun L => ?_, fun L M hp => ?_⟩
  · have p1 := s1 L
    have p2 := b1 (sumsN L kind a c).2.2
    simp only [bAlu2]
    repeat' split
    all_goals first
      | exact p1
      | exact p1.trans p2
      | exact p1.trans ((put_stab _).1 _)
  · have q1 := s2 L M
    have p2 := b1 (sumsN L kind a c).2.2
    have q2 := b2 (sumsN L kind a c).2.2 M
    have q3 := fun k => (put_stab k).2 (sumsN L kind a c).2.2 M
    simp only [bAlu2] at hp ⊢
    by_cases h1 : (sumsN L kind a c).2.1 = true
    · rw [if_pos h1] at hp
      have e1 := q1 hp
      simp only [] at e1
      rw [e1]; simp only [h1, if_true]
    rw [if_neg h1] at hp
    by_cases h2 : (bothN (sumsN L kind a c).2.2 kind a c).2.1 = true
    · rw [if_pos h2] at hp
      have e1 := q1 (p2.trans hp)
      have e2 := q2 hp
      simp only [] at e1 e2
      rw [e1]
      simp only [h1, h2, e2, if_true, if_false, Bool.false_eq_true]
    rw [if_neg h2] at hp
    by_cases h3 : (plainN kind (constA c) x y).2 = true
    · rw [if_pos h3] at hp
      have e1 := q1 hp
      simp only [] at e1
      have e2 := q2 (by rw [bothN_L _ _ _ _ (by simpa using h2)]; exact hp)
      simp only [] at e2
      rw [e1]
      simp only [h1, h2, h3, e2, if_true, if_false, Bool.false_eq_true]
    rw [if_neg h3] at hp
    by_cases h4 : swapsB kind = true ∧ (plainN kind (constA a) y x).2 = true
    · rw [if_pos h4] at hp
      have e1 := q1 hp
      simp only [] at e1
      have e2 := q2 (by rw [bothN_L _ _ _ _ (by simpa using h2)]; exact hp)
      simp only [] at e2
      rw [e1]
      simp only [h1, h2, h3, h4, e2, if_true, if_false, Bool.false_eq_true, and_self]
    rw [if_neg h4] at hp
    have pre : ∀ n, (putN (sumsN L kind a c).2.2 n).2 <+: M → (sumsN L kind a c).2.2 <+: M := fun n h => ((put_stab n).1 _).trans h
    have fin : ∀ n, (putN (sumsN L kind a c).2.2 n).2 <+: M → sumsN M kind a c = ((sumsN L kind a c).1, (sumsN L kind a c).2.1, M) ∧ bothN M kind a c = ((bothN (sumsN L kind a c).2.2 kind a c).1, (bothN (sumsN L kind a c).2.2 kind a c).2.1, M) ∧ putN M n = ((putN (sumsN L kind a c).2.2 n).1, M) := fun n h => by
      have h0 := pre n h
      exact ⟨q1 h0, q2 (by rw [bothN_L _ _ _ _ (by simpa using h2)]; exact h0), q3 n h⟩
    by_cases h5 : swapsB kind = true ∧ y < x
    · rw [if_pos h5] at hp
      obtain ⟨e1, e2, e3⟩ := fin _ hp
      rw [e1]
      simp only [h1, h2, h3, e2, e3, if_false, Bool.false_eq_true]
      rw [if_neg h4, if_pos h5, if_neg h4, if_pos h5]
    · rw [if_neg h5] at hp
      obtain ⟨e1, e2, e3⟩ := fin _ hp
      rw [e1]
      simp only [h1, h2, h3, e2, e3, if_false, Bool.false_eq_true]
      rw [if_neg h4, if_neg h5, if_neg h4, if_neg h5]
theorem has_pre {x : Int} (e : L <+: M) (h : hasI L x = true) : hasI M x = true := by
  have := e.length_le
  simp only [hasI, decide_eq_true_eq] at h ⊢
  omega
theorem alu_stab {kind x y : Int} (hi : Inv L) (hx : hasI L x = true) (hy : hasI L y = true) (h : (bAlu L kind x y).2 <+: M) : bAlu M kind x y = ((bAlu L kind x y).1, M) := by
  have hLM := (alu_ext (kind := kind) (x := x) (y := y) hi).pre.trans h
  have hx' := has_pre hLM hx
  have hy' := has_pre hLM hy
  unfold bAlu at h ⊢
  by_cases hk : (doW kind 0 1).2 = true
  · simp only [hk, hx, hy, hx', hy', and_self, if_true] at h ⊢
    obtain ⟨x0, x1⟩ : 0 ≤ x ∧ x < L.length := by simpa [hasI] using hx
    obtain ⟨y0, y1⟩ : 0 ≤ y ∧ y < L.length := by simpa [hasI] using hy
    have gx : L[x.toNat]? = some (L[x.toNat]'(by omega)) := List.getElem?_eq_getElem (by omega)
    have gy : L[y.toNat]? = some (L[y.toNat]'(by omega)) := List.getElem?_eq_getElem (by omega)
    have gx' := pre_get hLM gx
    have gy' := pre_get hLM gy
    rw [gx, gy] at h ⊢
    rw [gx', gy']
    exact (alu2_stab kind x.toNat y.toNat _ _).2 L M h
  · simp only [hk, Bool.false_eq_true, false_and, if_false] at h ⊢
theorem neg_stab {x : Int} (hi : Inv L) (hx : hasI L x = true) (h : (bNeg L x).2 <+: M) : bNeg M x = ((bNeg L x).1, M) := by
  have e0 := zero_ext hi
  unfold bNeg at h ⊢
  rw [if_pos hx] at h ⊢
  have hin := (alu_ext (kind := 20) (x := (negN' L).1) (y := x) e0.inv).pre
  have hLM := e0.pre.trans (hin.trans h)
  rw [if_pos (has_pre hLM hx)]
  have hz : negN' M = ((negN' L).1, M) := (put_stab _).2 L M (hin.trans h)
  rw [hz]
  obtain ⟨n, h1, h2⟩ := put_at L (sumNd (0 :: zeros 34))
  have hn : hasI (negN' L).2 (negN' L).1 = true := by
    show hasI (putN L _).2 (putN L _).1 = true
    rw [h1]; simp only [hasI, decide_eq_true_eq]
    have := (List.getElem?_eq_some_iff.1 h2).1
    omega
  exact alu_stab e0.inv hn (has_pre e0.pre hx) h
theorem var_stab (i : Int) : Stab fun L => varN L i := by
  by_cases h : 0 ≤ i ∧ i < 34
  · simp only [varN, if_pos h]; exact put_stab _
  · simp only [varN, if_neg h]; exact ⟨fun L => List.prefix_refl _, fun L M h => rfl⟩
def HasP (s : VS) : Prop := s.p.length = 18 ∧ ∀ i < 18, hasI s.L (s.p.getD i 0) = true
def withL (s : VS) (M : List Nd) : VS := { s with L := M }
theorem step_stab {s : VS} {x : In4} (hi : Inv s.L) (hp : HasP s) (hk : x.k < 4294967296) (h : (stepV s x).L <+: M) : stepV (withL s M) x = withL (stepV s x) M := by
  have pc := (put_stab (sumNd (x.k :: zeros 34)))
  have pcM : (putN s.L (sumNd (x.k :: zeros 34))).2 <+: M → putN M (sumNd (x.k :: zeros 34)) = ((putN s.L (sumNd (x.k :: zeros 34))).1, M) := fun h => pc.2 s.L M h
  have vcM : ∀ i, (varN s.L i).2 <+: M → varN M i = ((varN s.L i).1, M) := fun i h => (var_stab i).2 s.L M h
  have h0 := hp.2 0 (by omega)
  have h1 := hp.2 1 (by omega)
  have ec : Ext s.L (putN s.L (sumNd (x.k :: zeros 34))).2 1 := (put_ext hi (sum_good (by simp) (const_lt hk) _)).1
  cases hal : (aluT x.op).2.2 with
  | true =>
    unfold stepV at h ⊢
    rw [if_pos hal] at h ⊢
    rw [if_pos hal]
    have hby : Inv (byV s x).2 ∧ s.L <+: (byV s x).2 ∧ hasI (byV s x).2 (byV s x).1 = true ∧ ((byV s x).2 <+: M → byV (withL s M) x = ((byV s x).1, M)) := by
      unfold byV
      cases hb : (aluT x.op).2.1 with
      | true => simp only [if_true, withL]; exact ⟨hi, List.prefix_refl _, h1, fun _ => trivial⟩
      | false =>
        simp only [Bool.false_eq_true, if_false, withL]
        obtain ⟨n, g1, g2⟩ := put_at s.L (sumNd (x.k :: zeros 34))
        refine ⟨ec.inv, ec.pre, ?_, fun h => pc.2 s.L M h⟩
        rw [g1]; simp only [hasI, decide_eq_true_eq]
        have := (List.getElem?_eq_some_iff.1 g2).1
        omega
    obtain ⟨b1, b2, b3, b4⟩ := hby
    have hin := (alu_ext (kind := (aluT x.op).1) (x := s.p.getD 0 0) (y := (byV s x).1) b1).pre
    have e1 := b4 (hin.trans h)
    have e2 := alu_stab b1 (has_pre b2 h0) b3 h
    rw [e1]
    simp only [withL] at e2 ⊢
    rw [e2]
  | false =>
    unfold stepV at h ⊢
    simp only [hal, Bool.false_eq_true, if_false] at h ⊢
    by_cases o0 : x.op = 0
    · simp only [if_pos o0, withL] at h ⊢; rw [pcM h]
    by_cases o1 : x.op = 1
    · simp only [if_neg o0, if_pos o1, withL] at h ⊢; rw [pcM h]
    by_cases o32 : x.op = 32
    · simp only [if_neg o0, if_neg o1, if_pos o32, withL] at h ⊢; rw [vcM _ h]
    by_cases o96 : x.op = 96
    · simp only [if_neg o0, if_neg o1, if_neg o32, if_pos o96, withL]
    by_cases o97 : x.op = 97
    · simp only [if_neg o0, if_neg o1, if_neg o32, if_neg o96, if_pos o97, withL]
    by_cases o2 : x.op = 2
    · simp only [if_neg o0, if_neg o1, if_neg o32, if_neg o96, if_neg o97, if_pos o2, withL]
    by_cases o3 : x.op = 3
    · simp only [if_neg o0, if_neg o1, if_neg o32, if_neg o96, if_neg o97, if_neg o2, if_pos o3, withL]
    by_cases o132 : x.op = 132
    · simp only [if_neg o0, if_neg o1, if_neg o32, if_neg o96, if_neg o97, if_neg o2, if_neg o3, if_pos o132, withL] at h ⊢; rw [neg_stab hi h0 h]
    by_cases o7 : x.op = 7
    · simp only [if_neg o0, if_neg o1, if_neg o32, if_neg o96, if_neg o97, if_neg o2, if_neg o3, if_neg o132, if_pos o7, withL]
    by_cases o135 : x.op = 135
    · simp only [if_neg o0, if_neg o1, if_neg o32, if_neg o96, if_neg o97, if_neg o2, if_neg o3, if_neg o132, if_neg o7, if_pos o135, withL]
    simp only [if_neg o0, if_neg o1, if_neg o32, if_neg o96, if_neg o97, if_neg o2, if_neg o3, if_neg o132, if_neg o7, if_neg o135, withL]
end Go.Ev
/- A window that is made again has the same numbers; fewer parts. -/
namespace Go.Ev
open Go Go.RowKit
set_option maxRecDepth 10000
set_option maxHeartbeats 4000000
set_option linter.unusedSimpArgs false
set_option linter.unusedVariables false
variable {L M : List Nd}
def FHas : Nat → List Nd → Int → Prop := fun _ L x => hasI L x = true
theorem FHas_lasts : Lasts FHas := fun _ _ _ _ h e => has_pre e h
theorem step_has {s : VS} {x : In4} (hi : Inv s.L) (h : AllN FHas 18 s.L s.p) (hx : plainW x = true) (hk : x.k < 4294967296) : AllN FHas 18 (stepV s x).L (stepV s x).p := by
  have z34 : (zeros 34).length = 34 := by simp
  have ec : Ext s.L (putN s.L (sumNd (x.k :: zeros 34))).2 1 := (put_ext hi (sum_good (by simp) (const_lt hk) _)).1
  have pc := (const_res (v := zeros 34) hi z34 hk).has.1
  have hp : ∀ i < 18, hasI s.L (s.p.getD i 0) = true := h.2
  have hst : ∀ {i : Nat} {L' : List Nd} {y : Int}, s.L <+: L' → hasI L' y = true → AllN FHas 18 L' (s.p.set i y) := fun e hy => h.set FHas_lasts e hy
  have rf : s.L <+: s.L := List.prefix_refl _
  cases hal : (aluT x.op).2.2 with
  | true =>
    rw [stepV, if_pos hal]
    have hby : Ext s.L (byV s x).2 1 ∧ hasI (byV s x).2 (byV s x).1 = true := by
      rw [byV]
      cases hb : (aluT x.op).2.1 with
      | true => simp only [if_true]; exact ⟨.refl hi 1, hp 1 (by omega)⟩
      | false => simp only [Bool.false_eq_true, if_false]; exact ⟨ec, pc⟩
    obtain ⟨e1, b1⟩ := hby
    have r := (alu_res (v := zeros 34) (kind := (aluT x.op).1) (x := s.p.getD 0 0) (y := (byV s x).1) e1.inv z34 (zeros_lt 34) (aluT_valid hal) (has_pre e1.pre (hp 0 (by omega))) b1).has.1
    exact hst (e1.pre.trans (alu_ext e1.inv).pre) r
  | false =>
    have hmem : x.op = 96 ∨ x.op = 97 ∨ x.op = 2 ∨ x.op = 3 → x.k < 16 := plain_mem hx
    unfold stepV
    simp only [hal, Bool.false_eq_true, if_false]
    by_cases o0 : x.op = 0
    · simp only [if_pos o0]; exact hst ec.pre pc
    by_cases o1 : x.op = 1
    · simp only [if_neg o0, if_pos o1]; exact hst ec.pre pc
    by_cases o32 : x.op = 32
    · obtain ⟨_, k64⟩ := plain_abs hx o32
      simp only [if_neg o0, if_neg o1, if_pos o32]
      exact hst (var_ext hi).pre (var_res (v := zeros 34) hi z34 (zeros_lt 34) (by omega) (by omega)).has.1
    by_cases o96 : x.op = 96
    · have := hmem (.inl o96)
      simp only [if_neg o0, if_neg o1, if_neg o32, if_pos o96]; exact hst rf (hp _ (by omega))
    by_cases o97 : x.op = 97
    · have := hmem (.inr (.inl o97))
      simp only [if_neg o0, if_neg o1, if_neg o32, if_neg o96, if_pos o97]; exact hst rf (hp _ (by omega))
    by_cases o2 : x.op = 2
    · simp only [if_neg o0, if_neg o1, if_neg o32, if_neg o96, if_neg o97, if_pos o2]; exact hst rf (hp _ (by omega))
    by_cases o3 : x.op = 3
    · simp only [if_neg o0, if_neg o1, if_neg o32, if_neg o96, if_neg o97, if_neg o2, if_pos o3]; exact hst rf (hp _ (by omega))
    by_cases o132 : x.op = 132
    · simp only [if_neg o0, if_neg o1, if_neg o32, if_neg o96, if_neg o97, if_neg o2, if_neg o3, if_pos o132]
      exact hst (neg_ext hi).pre (neg_res (v := zeros 34) hi z34 (zeros_lt 34) (hp 0 (by omega))).has.1
    by_cases o7 : x.op = 7
    · simp only [if_neg o0, if_neg o1, if_neg o32, if_neg o96, if_neg o97, if_neg o2, if_neg o3, if_neg o132, if_pos o7]
      exact (hst rf (hp 0 (by omega))).set FHas_lasts rf (hp 0 (by omega))
    by_cases o135 : x.op = 135
    · simp only [if_neg o0, if_neg o1, if_neg o32, if_neg o96, if_neg o97, if_neg o2, if_neg o3, if_neg o132, if_neg o7, if_pos o135]; exact hst rf (hp 1 (by omega))
    simp only [if_neg o0, if_neg o1, if_neg o32, if_neg o96, if_neg o97, if_neg o2, if_neg o3, if_neg o132, if_neg o7, if_neg o135]
    exact h
theorem fold_stab : ∀ (w : List In4) {s : VS}, Inv s.L → AllN FHas 18 s.L s.p → (∀ x ∈ w, plainW x = true) → (∀ x ∈ w, x.k < 4294967296) → (w.foldl stepV s).L <+: M → w.foldl stepV (withL s M) = withL (w.foldl stepV s) M
  | [], s, _, _, _, _, _ => rfl
  | x :: w, s, hi, h, hp, hk, hM => by
    have hkx := hk x (by simp)
    obtain ⟨e, hl⟩ := stepV_ext hi h.1 hkx
    have hkw : ∀ y ∈ w, y.k < 4294967296 := fun y hy => hk y (by simp [hy])
    have hpre := (fold_ext w (s := stepV s x) e.inv hl hkw).1.pre
    simp only [List.foldl_cons] at hM ⊢
    rw [step_stab hi ⟨h.1, h.2⟩ hkx (hpre.trans hM)]
    exact fold_stab w e.inv (step_has hi h (hp x (by simp)) hkx) (fun y hy => hp y (by simp [hy])) hkw hM
theorem vars_stab (hi : Inv L) : ∀ n, (varsV L n).L <+: M → varsV M n = withL (varsV L n) M
  | 0, _ => rfl
  | n + 1, h => by
    rw [varsV_succ] at h ⊢
    have hpre := ((var_stab (n : Int)).1 (varsV L n).L).trans h
    rw [varsV_succ, vars_stab hi n hpre]
    simp only [varV, withL] at h ⊢
    rw [show varN M (n : Int) = ((varN (varsV L n).L (n : Int)).1, M) from (var_stab (n : Int)).2 _ _ h]
theorem win_stab {w : List In4} (hi : Inv L) (hk : ∀ x ∈ w, x.k < 4294967296) (hw : winB w = true) (h : (winV L w).L <+: M) : winV M w = withL (winV L w) M := by
  have hwp : ∀ x ∈ w, plainW x = true := by simp only [winB, Bool.and_eq_true, List.all_eq_true] at hw; exact hw.2
  have k18 := varsV_ok hi 18
  have z34 : (zeros 34).length = 34 := by simp
  have ha : AllN FHas 18 (varsV L 18).L (varsV L 18).p := by
    have : ∀ n, n ≤ 18 → AllN FHas n (varsV L n).L (varsV L n).p := fun n => by
      induction n with
      | zero => intro _; exact ⟨by simp [varsV], fun i h => absurd h (by omega)⟩
      | succ n ih =>
        intro hn
        have ih := ih (by omega)
        have hl := ih.1
        have hin := (varsV_ok hi n).ext.inv
        rw [varsV_succ]
        have e := (var_ext (i := (n : Int)) hin).pre
        refine ⟨by simp [varV, hl], fun i hin' => ?_⟩
        by_cases hne : i = n
        · subst hne
          simp only [varV]
          rw [List.getD_eq_getElem?_getD, List.getElem?_set_self (by omega)]
          exact (var_res (v := zeros 34) hin z34 (zeros_lt 34) (by omega) (by omega)).has.1
        · simp only [varV]
          rw [List.getD_eq_getElem?_getD, List.getElem?_set_ne (Ne.symm hne), ← List.getD_eq_getElem?_getD]
          exact has_pre e (ih.2 i (by omega))
    exact this 18 (Nat.le_refl _)
  have hpre := (fold_ext w (s := varsV L 18) k18.ext.inv k18.len hk).1.pre
  unfold winV at h ⊢
  rw [vars_stab hi 18 (hpre.trans h)]
  exact fold_stab w k18.ext.inv ha hwp hk h
theorem win_self {w : List In4} (hi : Inv L) (hk : ∀ x ∈ w, x.k < 4294967296) (hw : winB w = true) : winV (winV L w).L w = winV L w := win_stab hi hk hw (List.prefix_refl _)
theorem dec_self {v : List In4} {live : Nat} (hk : ∀ x ∈ v, x.k < 4294967296) (hv : winB v = true) : decR v v live = (0, none) := by
  rw [decR, hv, if_pos (show (true && true) = true from rfl), win_self Inv.nil hk hv, if_pos]
  exact sameB_yes.2 ⟨fun i hi => by simp [numDiff], rfl⟩
theorem partB_land {live fewer i : Nat} (h : partB (live &&& fewer) i = true) : partB live i = true := by
  have hb : ∀ n, partB n i = n.testBit i := fun n => by
    rw [partB, Nat.testBit_eq_decide_div_mod_eq]
    rw [Bool.eq_iff_iff, beq_iff_eq, decide_eq_true_eq]
  rw [hb, Nat.testBit_and] at h
  rw [hb]
  simp only [Bool.and_eq_true] at h
  exact h.1
theorem same_fewer {p q s t : List Int} {live fewer : Nat} (h : sameB p q s t live = true) : sameB p q s t (live &&& fewer) = true := by
  obtain ⟨h1, h2⟩ := sameB_yes.1 h
  refine sameB_yes.2 ⟨fun i hi => ?_, h2⟩
  have := h1 i hi
  unfold numDiff at this ⊢
  cases hb : partB (live &&& fewer) i with
  | false => rfl
  | true =>
    rw [partB_land hb, Bool.true_and] at this
    rw [Bool.true_and]; exact this
end Go.Ev
/- The law DecideSelf. -/
namespace Go.Ev
open Go Go.RowKit
variable {G : Tbl}
set_option maxRecDepth 10000
set_option maxHeartbeats 4000000
set_option linter.unusedSimpArgs false
set_option linter.unusedVariables false
theorem DecideSelf_ok [HasWd G] [HasNeg G] [HasIns G] [HasCheck G] [HasData G] [HasWith G] [HasStep G] [HasWRight G] [HasWinRun G] [HasWinAsg G] [HasWinState G] [HasWinOf G] [HasAffApart G] [HasAffine G] [hBA : HasBitsA G] [HasSymNew G] [HasSym G] [HasSymApart G] [HasDecDf G] [HasDec G]
    [HasR2 G] [HasR5o G] [HasR17 G] [HasL18 G] [HasL18d G]
    (hkn : FP G 319 [] (.bool true)) (v w : List In4) (live fewer : Nat) (hf : v.length ≤ maxLen) (hg : w.length ≤ maxLen)
    (hk : ∀ x ∈ v, x.k < 4294967296) (hkw : ∀ x ∈ w, x.k < 4294967296) (hlv : live < 4294967296) (hfe : fewer < 4294967296) :
    FP G 324 [FL v, FL w, .int .u32 live, .int .u32 fewer] (.bool true) := by
  refine FP_of HasL18d.h_hurdlelaw18_DecideSelf (Nat.le_of_ble_eq_true rfl) ?_
  have hgr := great18_ok (G := G) v w
  simp only [FL] at hgr
  simp [FL]
  refine callP_of hgr ?_
  by_cases hb : 100 < v.length ∨ 100 < w.length
  · have hb' : (decide (100 < v.length) || decide (100 < w.length)) = true := by simpa using hb
    simp [hb']
    refine callP_of hkn ?_
    simp
  have hb' : (decide (100 < v.length) || decide (100 < w.length)) = false := by simpa using hb
  simp only [not_or, Nat.not_lt] at hb
  have hland : live &&& fewer < 4294967296 := Nat.lt_of_le_of_lt Nat.and_le_left hlv
  have hd1 := Decide_ok (G := G) v v 4294967295 hf hf hk hk (by decide)
  have hd2 := Decide_ok (G := G) v w live hf hg hk hkw hlv
  have hd3 := Decide_ok (G := G) v w (live &&& fewer) hf hg hk hkw hland
  have hfa := fair_ok (G := G) v w (by omega) (by omega) hk hkw
  have hand : andI .u32 (live : Int) (fewer : Int) = ((live &&& fewer : Nat) : Int) := and32 hlv hfe
  simp only [FL] at hd1 hd2 hd3 hfa
  simp [hb']
  refine callP_of hfa ?_
  cases hww : winB v && winB w with
  | false =>
    simp
    refine callP_of hkn ?_
    simp
  | true =>
  have hv : winB v = true := by simp only [Bool.and_eq_true] at hww; exact hww.1
  have hw : winB w = true := by simp only [Bool.and_eq_true] at hww; exact hww.2
  obtain ⟨A, hA⟩ : ∃ A, A = ansC 0 none := ⟨_, rfl⟩
  have lA : A.length = 28 := by rw [hA]; rfl
  have hA0z : V.int .i64 0 :: (cnats .u32 (zeros 20) ++ cnats .u64 (zeros 7)) = A := by rw [hA]; rfl
  have tA : A.take 28 = A := List.take_of_length_le (by omega)
  have dA : A.drop 28 = [] := List.drop_eq_nil_of_le (by omega)
  have A1 : A.take 1 = [.int .i64 0] := by rw [hA]; rfl
  have kA : ∀ n, clL n A = A := fun n => by rw [hA]; exact ansC_cl _ _ n
  rw [dec_self hk hv, hv, if_pos (show (true && true) = true from rfl), ← hA] at hd1
  have two : ∀ live : Nat, ∃ (c : Int) (B : List V), (decR v w live).1 = c ∧ B = ansC (decR v w live).1 (decR v w live).2 ∧ (∀ n, clL n B = B) ∧ B.length = 28 ∧ B.take 1 = [.int .i64 c] := fun live =>
    ⟨_, _, rfl, rfl, fun n => ansC_cl _ _ n, decR_len v w live, ansC_hd _ _⟩
  obtain ⟨c, B, hc, hB, kB, lB, B1⟩ := two live
  obtain ⟨e, C, he, hC, kC, lC, C1⟩ := two (live &&& fewer)
  have tB : B.take 28 = B := List.take_of_length_le (by omega)
  have dB : B.drop 28 = [] := List.drop_eq_nil_of_le (by omega)
  have tC : C.take 28 = C := List.take_of_length_le (by omega)
  have dC : C.drop 28 = [] := List.drop_eq_nil_of_le (by omega)
  rw [hww, if_pos rfl, ← hB] at hd2
  rw [hww, if_pos rfl, ← hC] at hd3
  have fact : c = 0 → e = 0 := fun h0 => by
    rcases dec_tells (live := live) hv hw with ⟨_, hs⟩ | ⟨r, h1, _⟩ | ⟨h1, _⟩
    · rcases dec_tells (live := live &&& fewer) hv hw with ⟨h2, _⟩ | ⟨r, _, _, _, h2⟩ | ⟨_, _, h2⟩
      · rw [← he, h2]
      · rw [same_fewer hs] at h2; cases h2
      · rw [same_fewer hs] at h2; cases h2
    · rw [← hc, h1] at h0; cases h0
    · rw [← hc, h1] at h0; cases h0
  simp
  refine callP_of hd1 ?_
  simp [hA0z, lA, tA, dA, kA, keep_cl]
  refine callP_of hd2 ?_
  simp [hA0z, lA, tA, dA, kA, lB, tB, dB, kB, hand, keep_cl]
  refine callP_of hd3 ?_
  simp [hA0z, lA, tA, dA, A1, kA, lB, tB, dB, B1, kB, lC, tC, dC, C1, kC, keep_cl]
  by_cases h0 : c = 0
  · have h1 := fact h0
    subst h0 h1
    simp [lA, tA, A1, lB, tB, B1, lC, tC, C1]
    refine callP_of hkn ?_
    simp
  · by_cases h1 : e = 1
    · subst h1
      simp [bneT h0, h0, lA, tA, A1, lB, tB, B1, lC, tC, C1]
      refine callP_of hkn ?_
      simp
    · simp [bneT h0, bneT h1, h0, h1, lA, tA, A1, lB, tB, B1, lC, tC, C1]
      refine callP_of hkn ?_
      simp
end Go.Ev
