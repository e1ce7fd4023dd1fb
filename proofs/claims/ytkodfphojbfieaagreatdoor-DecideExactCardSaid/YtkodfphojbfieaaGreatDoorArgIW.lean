/- Arguments of the statements: instructions, states, records. -/
import Derived.Test.YtkodfphojbfieaaGreatDoorCheckBW
import Derived.Test.YtkodfphojbfieaaGreatDoorEvSW
import Derived.Test.YtkodfphojbfieaaGreatDoorDecFW
import Derived.Test.YtkodfphojbfieaaGreatDoorWinKW
set_option linter.unusedVariables false
set_option linter.unusedSimpArgs false
namespace Go.Ev
open Go Go.RowKit
set_option linter.unusedSimpArgs false
set_option linter.unusedVariables false
def i64R (n : Int) : Prop := -9223372036854775808 ≤ n ∧ n ≤ 9223372036854775807
def In4.ok (x : In4) : Prop := (i64R x.op ∧ i64R x.jt ∧ i64R x.jf) ∧ x.k < 4294967296
theorem i64_wf {n : Int} (h : (Lit.int .i64 n).wf = true) : i64R n := by
  simp [Lit.wf, IntKind.min, IntKind.max, IntKind.signed, IntKind.bits] at h
  unfold i64R
  omega
theorem ins_cells {cs : List V} (h : HasTy (.agg [.int .i64, .int .i64, .int .i64, .int .u32]) cs) : ∃ x : In4, cs = x.cs ∧ x.ok := by
  simp only [HasTy, HasTys] at h
  obtain ⟨a, _, rfl, ⟨n1, rfl, w1⟩, b, _, rfl, ⟨n2, rfl, w2⟩, c, _, rfl, ⟨n3, rfl, w3⟩, d, _, rfl, ⟨n4, rfl, w4⟩, rfl⟩ := h
  have w4 := u32_wf w4
  refine ⟨⟨n1, n2, n3, n4.toNat⟩, ?_, ⟨i64_wf w1, i64_wf w2, i64_wf w3⟩, by simp only; omega⟩
  simp [In4.cs, Int.toNat_of_nonneg w4.1]
theorem flt_list : ∀ {es : List (List V)}, (∀ x ∈ es, HasTy (.agg [.int .i64, .int .i64, .int .i64, .int .u32]) x) → ∃ f : List In4, es = IL f ∧ ∀ x ∈ f, x.ok
  | [], _ => ⟨[], rfl, by simp⟩
  | e :: es, h => by
    obtain ⟨x, rfl, hx⟩ := ins_cells (h e (by simp))
    obtain ⟨f, rfl, hf⟩ := flt_list (es := es) fun y hy => h y (by simp [hy])
    refine ⟨x :: f, by simp [IL], fun y hy => ?_⟩
    simp only [List.mem_cons] at hy
    rcases hy with rfl | hy
    · exact hx
    · exact hf y hy
theorem flt_arg {v : V} (h : ArgIs (.sl (.agg [.int .i64, .int .i64, .int .i64, .int .u32])) v) : ∃ f : List In4, v = FL f ∧ f.length ≤ maxLen ∧ ∀ x ∈ f, x.ok := by
  have h : HasTy (.sl (.agg [.int .i64, .int .i64, .int .i64, .int .u32])) [v] := h
  rw [HasTy] at h
  obtain ⟨es, hes, hl, he⟩ := h
  obtain ⟨f, rfl, hf⟩ := flt_list he
  simp only [List.cons.injEq, and_true] at hes
  exact ⟨f, by rw [hes]; rfl, by simpa using hl, hf⟩
end Go.Ev
/- The laws DecideEqual, DecideDiffer. -/
namespace Go.Ev
open Go Go.RowKit
variable {G : Tbl}
set_option maxRecDepth 10000
set_option maxHeartbeats 4000000
set_option linter.unusedSimpArgs false
set_option linter.unusedVariables false
theorem ansC_hd (c : Int) (o : Option (List Nat)) : (ansC c o).take 1 = [.int .i64 c] := by cases o <;> rfl
theorem decR_len (v w : List In4) (live : Nat) : (ansC (decR v w live).1 (decR v w live).2).length = 28 := by
  cases hww : winB v && winB w with
  | false =>
    have hd0 : decR v w live = (0, none) := by simp [decR, hww]
    rw [hd0]; rfl
  | true =>
    simp only [Bool.and_eq_true] at hww
    rcases dec_tells (live := live) hww.1 hww.2 with ⟨e, _⟩ | ⟨r, e, hr, _, _⟩ | ⟨e, _, _⟩
    · rw [e]; rfl
    · obtain ⟨h1, h2⟩ := triesL_ok hr
      rw [e]; exact (ansC_cells h1 h2 1).1
    · rw [e]; rfl
end Go.Ev
/- Windows of sums, and of bits: hurdleref18.only, Sums, Bits. -/
namespace Go.Ev
open Go Go.RowKit
variable {G : Tbl}
set_option maxRecDepth 10000
set_option maxHeartbeats 4000000
set_option linter.unusedSimpArgs false
set_option linter.unusedVariables false
def onlyB (l : List Int) (w : List In4) : Bool := w.all fun x => l.any fun y => y == x.op
def sumOps : List Int := [0, 1, 32, 96, 97, 2, 3, 7, 135, 132, 4, 12, 20, 28, 36, 100]
def bitOps : List Int := [0, 1, 96, 97, 2, 3, 7, 135, 68, 76, 84, 92, 164, 172]
def sumsB (w : List In4) : Bool := onlyB sumOps w
theorem only_ok [HasR18k G] (w : List In4) (l : List Int) (hf : w.length ≤ 1000000) (hl : l.length ≤ 1000000) : FP G 314 [FL w, .vs (ints .i64 l) .no] (.bool (onlyB l w)) := by
  refine FP_of HasR18k.h_hurdleref18_only (Nat.le_of_ble_eq_true rfl) ?_
  simp
  refine W_up w.length (fun i => [(0, FL w), (1, .vs (ints .i64 l) .no), (5, .int .i64 i)]) (fun _ => []) (fun i => onlyB l (w.take i) = true) ?_ ?_
  · simp [keep_cl, trunc, FL, onlyB]
  intro i hi hp
  by_cases hlt : i < w.length
  · obtain ⟨x, hfx⟩ : ∃ x, x = w[i] := ⟨_, rfl⟩
    have hgg := FL_get hlt
    rw [← hfx] at hgg
    have hfx := hfx.symm
    have hcs : x.cs = [.int .i64 x.op, .int .i64 x.jt, .int .i64 x.jf, .int .u32 (x.k : Int)] := rfl
    have hxm : x ∈ w := hfx ▸ List.getElem_mem hlt
    simp (disch := omega) [ltT, FL, keep_cl]
    refine W_up l.length (fun j => [(0, FL w), (1, .vs (ints .i64 l) .no), (5, .int .i64 i), (6, .bool ((l.take j).any fun y => y == x.op)), (7, .int .i64 j)]) (fun _ => []) (fun _ => True) ?_ ?_
    · simp [keep_cl, trunc, FL]
    intro j hj _
    by_cases hlt2 : j < l.length
    · have g1 : (ints .i64 l)[j]? = some [.int .i64 l[j]] := by simp [hlt2]
      obtain ⟨y, hy⟩ : ∃ y, y = l[j] := ⟨_, rfl⟩
      rw [← hy] at g1
      have hy := hy.symm
      have hn : (l.take (j + 1)).any (fun y => y == x.op) = ((l.take j).any (fun y => y == x.op) || y == x.op) := by
        rw [List.take_add_one, List.getElem?_eq_getElem hlt2, hy]; simp [List.any_append]
      cases ha : (l.take j).any (fun y => y == x.op) with
      | true =>
        rw [ha, Bool.true_or] at hn
        simp (disch := omega) [ltT, FL, hlt2, keep_cl, trunc, add1', hn, -Int.natCast_add]
      | false =>
        rw [ha, Bool.false_or] at hn
        simp (disch := omega) [ltT, FL, hlt2, hlt, g1, hy, hgg, hfx, hcs, keep_cl, trunc, add1', hn, -Int.natCast_add]
    · have hne : j = l.length := by omega
      subst hne
      rw [List.take_length]
      have hn : onlyB l (w.take (i + 1)) = (l.any fun y => y == x.op) := by
        have hp' := hp
        unfold onlyB at hp' ⊢
        rw [List.take_add_one, List.getElem?_eq_getElem hlt, hfx, List.all_append, hp']; simp
      cases ha : l.any (fun y => y == x.op) with
      | true =>
        rw [ha] at hn
        simp (disch := omega) [ltT, FL, hlt, keep_cl, trunc, add1', hn, -Int.natCast_add]
      | false =>
        have : onlyB l w = false := by
          unfold onlyB
          rw [← Bool.not_eq_true, List.all_eq_true]
          intro h
          have := h x hxm
          rw [ha] at this; cases this
        simp (disch := omega) [ltT, FL, hlt, keep_cl, trunc, this, -Int.natCast_add]
  · have hne : i = w.length := by omega
    subst hne
    rw [List.take_length] at hp
    simp [FL, hp]
theorem Sums_ok [HasR18k G] (w : List In4) (hf : w.length ≤ 1000000) : FP G 315 [FL w] (.bool (sumsB w)) := by
  refine FP_of HasR18k.h_hurdleref18_Sums (Nat.le_of_ble_eq_true rfl) ?_
  have h := only_ok (G := G) w sumOps hf (by decide)
  simp only [FL] at h
  simp [FL]
  refine callP_of h ?_
  simp [sumsB]
def bigK (x : In4) : Bool := (x.op == 2 || x.op == 3 || x.op == 96 || x.op == 97) && decide (1 < x.k)
def bitsB (w : List In4) : Bool := (w.all fun x => !bigK x) && onlyB bitOps w
theorem Bits18_ok [HasR18k G] (w : List In4) (hf : w.length ≤ 1000000) : FP G 316 [FL w] (.bool (bitsB w)) := by
  refine FP_of HasR18k.h_hurdleref18_Bits (Nat.le_of_ble_eq_true rfl) ?_
  have h := only_ok (G := G) w bitOps hf (by decide)
  simp only [FL] at h
  simp
  refine W_up w.length (fun i => [(0, FL w), (3, .int .i64 i)]) (fun _ => []) (fun i => (w.take i).all (fun x => !bigK x) = true) ?_ ?_
  · simp [keep_cl, trunc, FL]
  intro i hi hp
  by_cases hlt : i < w.length
  · obtain ⟨x, hfx⟩ : ∃ x, x = w[i] := ⟨_, rfl⟩
    have hgg := FL_get hlt
    rw [← hfx] at hgg
    have hfx := hfx.symm
    have hcs : x.cs = [.int .i64 x.op, .int .i64 x.jt, .int .i64 x.jf, .int .u32 (x.k : Int)] := rfl
    have hxm : x ∈ w := hfx ▸ List.getElem_mem hlt
    have hk1 : ((x.k : Int) > 1) = (1 < x.k) := propext (by omega)
    have hk2 : ((1 : Int) < (x.k : Int)) = (1 < x.k) := propext (by omega)
    have good : bigK x = false → (w.take (i + 1)).all (fun x => !bigK x) = true := fun hb => by
      rw [List.take_add_one, List.getElem?_eq_getElem hlt, hfx, List.all_append, hp]; simp [hb]
    have bad : bigK x = true → bitsB w = false := fun hb => by
      have : (w.all fun x => !bigK x) = false := by
        rw [← Bool.not_eq_true, List.all_eq_true]
        intro h
        have := h x hxm
        rw [hb] at this; cases this
      simp [bitsB, this]
    by_cases hop : x.op = 2 ∨ x.op = 3 ∨ x.op = 96 ∨ x.op = 97
    · have hbk : bigK x = decide (1 < x.k) := by
        unfold bigK
        rcases hop with h | h | h | h <;> simp [h]
      by_cases h1 : 1 < x.k
      · have hb := bad (by rw [hbk]; simp [h1])
        rcases hop with h | h | h | h <;> simp (disch := omega) [ltT, FL, hlt, hgg, hfx, hcs, h, hk1, hk2, h1, hb, keep_cl]
      · have hg := good (by rw [hbk]; simp [h1])
        rcases hop with h | h | h | h <;> simp (disch := omega) [ltT, FL, hlt, hgg, hfx, hcs, h, hk1, hk2, h1, keep_cl, trunc, add1', -Int.natCast_add] <;> simpa using hg
    · simp only [not_or] at hop
      have hbk : bigK x = false := by simp [bigK, hop.1, hop.2.1, hop.2.2.1, hop.2.2.2]
      have hg := good hbk
      simp (disch := omega) [ltT, FL, hlt, hgg, hfx, hcs, beqF hop.1, beqF hop.2.1, beqF hop.2.2.1, beqF hop.2.2.2, hop.1, hop.2.1, hop.2.2.1, hop.2.2.2, keep_cl, trunc, add1', -Int.natCast_add]
      simpa using hg
  · have hne : i = w.length := by omega
    subst hne
    rw [List.take_length] at hp
    simp [FL]
    refine callP_of h ?_
    simp [bitsB, hp]
end Go.Ev
/- The parts of windows of sums, and of bits: plain laws. -/
namespace Go.Ev
open Go Go.RowKit
set_option maxRecDepth 10000
set_option maxHeartbeats 2000000
set_option linter.unusedSimpArgs false
set_option linter.unusedVariables false
variable {G : Tbl} {L L' : List Nd}
def Lasts (F : Nat → List Nd → Int → Prop) : Prop := ∀ i L L' x, F i L x → L <+: L' → F i L' x
def AllN (F : Nat → List Nd → Int → Prop) (n : Nat) (L : List Nd) (p : List Int) : Prop := p.length = 18 ∧ ∀ i < n, F i L (p.getD i 0)
theorem AllN.pre {F : Nat → List Nd → Int → Prop} {n : Nat} {p : List Int} (h : AllN F n L p) (hF : Lasts F) (e : L <+: L') : AllN F n L' p := ⟨h.1, fun i hi => hF i _ _ _ (h.2 i hi) e⟩
theorem AllN.set {F : Nat → List Nd → Int → Prop} {n i : Nat} {p : List Int} {x : Int} (h : AllN F n L p) (hF : Lasts F) (e : L <+: L') (hx : F i L' x) : AllN F n L' (p.set i x) := by
  refine ⟨by rw [List.length_set]; exact h.1, fun j hj => ?_⟩
  by_cases hij : i = j
  · subst hij
    by_cases hl : i < p.length
    · rw [List.getD_eq_getElem?_getD, List.getElem?_set_self hl]; exact hx
    · rw [List.set_eq_of_length_le (by omega)]; exact hF _ _ _ _ (h.2 i hj) e
  · rw [List.getD_eq_getElem?_getD, List.getElem?_set_ne hij, ← List.getD_eq_getElem?_getD]; exact hF _ _ _ _ (h.2 j hj) e
theorem vars_all {F : Nat → List Nd → Int → Prop} (hF : Lasts F) (hv : ∀ i : Nat, i < 18 → ∀ L : List Nd, F i (varN L i).2 (varN L i).1) (hi : Inv L) : ∀ n, n ≤ 18 → AllN F n (varsV L n).L (varsV L n).p
  | 0, _ => ⟨by simp [varsV], fun i h => absurd h (by omega)⟩
  | n + 1, hn => by
    have ih := vars_all hF hv hi n (by omega)
    have hl := ih.1
    rw [varsV_succ]
    have e := (var_ext (i := (n : Int)) (varsV_ok hi n).ext.inv).pre
    refine ⟨by simp [varV, hl], fun i hin => ?_⟩
    by_cases hne : i = n
    · subst hne
      simp only [varV]
      rw [List.getD_eq_getElem?_getD, List.getElem?_set_self (by omega)]
      exact hv i (by omega) _
    · simp only [varV]
      rw [List.getD_eq_getElem?_getD, List.getElem?_set_ne (Ne.symm hne), ← List.getD_eq_getElem?_getD]
      exact hF _ _ _ _ (ih.2 i (by omega)) e
theorem plain_mem {x : In4} (hx : plainW x = true) (ho : x.op = 96 ∨ x.op = 97 ∨ x.op = 2 ∨ x.op = 3) : x.k < 16 := by
  simp only [plainW, Bool.and_eq_true] at hx
  have h2 := hx.2
  rcases ho with ho | ho | ho | ho <;> simp [ruleB, ho] at h2 <;> exact h2
theorem plain_abs {x : In4} (hx : plainW x = true) (ho : x.op = 32) : x.k % 4 = 0 ∧ x.k < 64 := by
  simp only [plainW, Bool.and_eq_true] at hx
  have h2 := hx.2
  simp [ruleB, ho] at h2; exact h2
def FSum : Nat → List Nd → Int → Prop := fun _ L x => IsSum L x
theorem FSum_lasts : Lasts FSum := fun _ _ _ _ h e => IsSum.pre h e
theorem step_sum {s : VS} {x : In4} (hi : Inv s.L) (h : AllN FSum 18 s.L s.p) (hx : plainW x = true) (hk : x.k < 4294967296) (ho : x.op ∈ sumOps) : AllN FSum 18 (stepV s x).L (stepV s x).p := by
  have ec : Ext s.L (putN s.L (sumNd (x.k :: zeros 34))).2 1 := (put_ext hi (sum_good (by simp) (const_lt hk) _)).1
  have pc := put_sum s.L (x.k :: zeros 34)
  have hp : ∀ i < 18, IsSum s.L (s.p.getD i 0) := h.2
  have hst : ∀ {i : Nat} {L' : List Nd} {y : Int}, s.L <+: L' → IsSum L' y → AllN FSum 18 L' (s.p.set i y) := fun e hy => h.set FSum_lasts e hy
  have rf : s.L <+: s.L := List.prefix_refl _
  have alu : ∀ {kind : Int} {tb : Bool}, aluT x.op = (kind, tb, true) → IsSum (bAlu (byV s x).2 kind (s.p.getD 0 0) (byV s x).1).2 (bAlu (byV s x).2 kind (s.p.getD 0 0) (byV s x).1).1 → Inv (byV s x).2 → s.L <+: (byV s x).2 → AllN FSum 18 (stepV s x).L (stepV s x).p := fun {kind tb} e hs hinv hpre => by
    rw [stepV, if_pos (by rw [e])]
    simp only [e]
    exact hst (hpre.trans (alu_ext hinv).pre) hs
  have byk : ∀ {kind : Int}, aluT x.op = (kind, false, true) → byV s x = putN s.L (sumNd (x.k :: zeros 34)) := fun e => by rw [byV, e]; simp
  have byx : ∀ {kind : Int}, aluT x.op = (kind, true, true) → byV s x = (s.p.getD 1 0, s.L) := fun e => by rw [byV, e]; simp
  have non : aluT x.op = (0, false, false) → stepV s x = _ := fun e => by rw [stepV, if_neg (by rw [e]; decide)]
  simp only [sumOps, List.mem_cons, List.not_mem_nil, or_false] at ho
  rcases ho with ho | ho | ho | ho | ho | ho | ho | ho | ho | ho | ho | ho | ho | ho | ho | ho
  · have e : aluT x.op = (0, false, false) := by rw [ho]; decide
    rw [non e]; simp only [ho]
    exact hst ec.pre pc
  · have e : aluT x.op = (0, false, false) := by rw [ho]; decide
    rw [non e]; simp only [ho]
    exact hst ec.pre pc
  · have e : aluT x.op = (0, false, false) := by rw [ho]; decide
    obtain ⟨_, k64⟩ := plain_abs hx ho
    rw [non e]; simp only [ho]
    exact hst (var_ext hi).pre (var_sum (by omega) (by omega))
  · have e : aluT x.op = (0, false, false) := by rw [ho]; decide
    have := plain_mem hx (.inl ho)
    rw [non e]; simp only [ho]
    exact hst rf (hp _ (by omega))
  · have e : aluT x.op = (0, false, false) := by rw [ho]; decide
    have := plain_mem hx (.inr (.inl ho))
    rw [non e]; simp only [ho]
    exact hst rf (hp _ (by omega))
  · have e : aluT x.op = (0, false, false) := by rw [ho]; decide
    rw [non e]; simp only [ho]
    exact hst rf (hp _ (by omega))
  · have e : aluT x.op = (0, false, false) := by rw [ho]; decide
    rw [non e]; simp only [ho]
    exact hst rf (hp _ (by omega))
  · have e : aluT x.op = (0, false, false) := by rw [ho]; decide
    rw [non e]; simp only [ho]
    exact (hst rf (hp 0 (by omega))).set FSum_lasts rf (hp 0 (by omega))
  · have e : aluT x.op = (0, false, false) := by rw [ho]; decide
    rw [non e]; simp only [ho]
    exact hst rf (hp 1 (by omega))
  · have e : aluT x.op = (0, false, false) := by rw [ho]; decide
    rw [non e]; simp only [ho]
    exact hst (neg_ext hi).pre (neg_sum (hp 0 (by omega)))
  · have e : aluT x.op = (4, false, true) := by rw [ho]; decide
    have b := byk e
    exact alu e (alu_sum (.inl rfl) (by rw [b]; exact (hp 0 (by omega)).pre ec.pre) (by rw [b]; exact pc)) (by rw [b]; exact ec.inv) (by rw [b]; exact ec.pre)
  · have e : aluT x.op = (4, true, true) := by rw [ho]; decide
    have b := byx e
    exact alu e (alu_sum (.inl rfl) (by rw [b]; exact hp 0 (by omega)) (by rw [b]; exact hp 1 (by omega))) (by rw [b]; exact hi) (by rw [b]; exact rf)
  · have e : aluT x.op = (20, false, true) := by rw [ho]; decide
    have b := byk e
    exact alu e (alu_sum (.inr rfl) (by rw [b]; exact (hp 0 (by omega)).pre ec.pre) (by rw [b]; exact pc)) (by rw [b]; exact ec.inv) (by rw [b]; exact ec.pre)
  · have e : aluT x.op = (20, true, true) := by rw [ho]; decide
    have b := byx e
    exact alu e (alu_sum (.inr rfl) (by rw [b]; exact hp 0 (by omega)) (by rw [b]; exact hp 1 (by omega))) (by rw [b]; exact hi) (by rw [b]; exact rf)
  · have e : aluT x.op = (36, false, true) := by rw [ho]; decide
    have b := byk e
    obtain ⟨n, h1, h2⟩ := put_at s.L (sumNd (x.k :: zeros 34))
    exact alu e (alu_sumc (.inl rfl) (by rw [b]; exact (hp 0 (by omega)).pre ec.pre) (by rw [b]; exact h1) (by rw [b]; exact h2)) (by rw [b]; exact ec.inv) (by rw [b]; exact ec.pre)
  · have e : aluT x.op = (100, false, true) := by rw [ho]; decide
    have b := byk e
    obtain ⟨n, h1, h2⟩ := put_at s.L (sumNd (x.k :: zeros 34))
    exact alu e (alu_sumc (.inr rfl) (by rw [b]; exact (hp 0 (by omega)).pre ec.pre) (by rw [b]; exact h1) (by rw [b]; exact h2)) (by rw [b]; exact ec.inv) (by rw [b]; exact ec.pre)
def PB (i : Nat) : Int → Prop := if i < 4 then fun v => 0 ≤ v ∧ v < 4 else fun v => v = (i : Int)
theorem PB_lo {i : Nat} (h : i < 4) : PB i = fun v => 0 ≤ v ∧ v < 4 := if_pos h
def FBit : Nat → List Nd → Int → Prop := fun i L x => IsBit L x (PB i)
theorem FBit_lasts : Lasts FBit := fun _ _ _ _ h e => IsBit.pre h e
theorem four (l : List Int) (hu : Up l) (h : ∀ v ∈ l, (0 ≤ v ∧ v < 4) ∧ 0 ≤ v ∧ v < 34) : l.length ≤ 4 :=
  up_four (r := List.replicate 4 true ++ List.replicate 30 false) (by decide) (by decide) hu fun v hv => by
    obtain ⟨⟨h0, h4⟩, _, h34⟩ := h v hv
    obtain ⟨n, rfl⟩ := Int.eq_ofNat_of_zero_le h0
    refine ⟨?_, h0, h34⟩
    rcases (show n = 0 ∨ n = 1 ∨ n = 2 ∨ n = 3 by omega) with rfl | rfl | rfl | rfl <;> rfl
theorem step_bit [HasBits G] {s : VS} {x : In4} (hi : Inv s.L) (h : AllN FBit 18 s.L s.p) (hx : plainW x = true) (hk : x.k < 4294967296) (ho : x.op ∈ bitOps) (hb : bigK x = false) : AllN FBit 18 (stepV s x).L (stepV s x).p := by
  have ec : Ext s.L (putN s.L (sumNd (x.k :: zeros 34))).2 1 := (put_ext hi (sum_good (by simp) (const_lt hk) _)).1
  have pc := const_bit s.L x.k (fun v => 0 ≤ v ∧ v < 4)
  have hp : ∀ i < 4, IsBit s.L (s.p.getD i 0) (fun v => 0 ≤ v ∧ v < 4) := fun i h4 => by have := h.2 i (by omega); rwa [FBit, PB_lo h4] at this
  have hst : ∀ {i : Nat} {L' : List Nd} {y : Int}, i < 4 → s.L <+: L' → IsBit L' y (fun v => 0 ≤ v ∧ v < 4) → AllN FBit 18 L' (s.p.set i y) := fun {i L' y} h4 e hy => h.set FBit_lasts e (by rw [FBit, PB_lo h4]; exact hy)
  have rf : s.L <+: s.L := List.prefix_refl _
  have cell : x.op = 96 ∨ x.op = 97 ∨ x.op = 2 ∨ x.op = 3 → x.k < 2 := fun h => by
    unfold bigK at hb
    rcases h with h | h | h | h <;> simp [h] at hb <;> omega
  have alu : ∀ {kind : Int} {tb : Bool}, aluT x.op = (kind, tb, true) → kind = 68 ∨ kind = 84 ∨ kind = 164 → IsBit (byV s x).2 (s.p.getD 0 0) (fun v => 0 ≤ v ∧ v < 4) → IsBit (byV s x).2 (byV s x).1 (fun v => 0 ≤ v ∧ v < 4) → Inv (byV s x).2 → s.L <+: (byV s x).2 → AllN FBit 18 (stepV s x).L (stepV s x).p := fun {kind tb} e hk h1 h2 hinv hpre => by
    rw [stepV, if_pos (by rw [e])]
    simp only [e]
    exact hst (by omega) (hpre.trans (alu_ext hinv).pre) (alu_bit (G := G) hinv hk h1 h2 four)
  have byk : ∀ {kind : Int}, aluT x.op = (kind, false, true) → byV s x = putN s.L (sumNd (x.k :: zeros 34)) := fun e => by rw [byV, e]; simp
  have byx : ∀ {kind : Int}, aluT x.op = (kind, true, true) → byV s x = (s.p.getD 1 0, s.L) := fun e => by rw [byV, e]; simp
  have aluk : ∀ {kind : Int}, aluT x.op = (kind, false, true) → kind = 68 ∨ kind = 84 ∨ kind = 164 → AllN FBit 18 (stepV s x).L (stepV s x).p := fun {kind} e hk => by
    have b := byk e
    exact alu e hk (by rw [b]; exact (hp 0 (by omega)).pre ec.pre) (by rw [b]; exact pc) (by rw [b]; exact ec.inv) (by rw [b]; exact ec.pre)
  have alux : ∀ {kind : Int}, aluT x.op = (kind, true, true) → kind = 68 ∨ kind = 84 ∨ kind = 164 → AllN FBit 18 (stepV s x).L (stepV s x).p := fun {kind} e hk => by
    have b := byx e
    exact alu e hk (by rw [b]; exact hp 0 (by omega)) (by rw [b]; exact hp 1 (by omega)) (by rw [b]; exact hi) (by rw [b]; exact rf)
  have non : aluT x.op = (0, false, false) → stepV s x = _ := fun e => by rw [stepV, if_neg (by rw [e]; decide)]
  simp only [bitOps, List.mem_cons, List.not_mem_nil, or_false] at ho
  rcases ho with ho | ho | ho | ho | ho | ho | ho | ho | ho | ho | ho | ho | ho | ho
  · have e : aluT x.op = (0, false, false) := by rw [ho]; decide
    rw [non e]; simp only [ho]
    exact hst (by omega) ec.pre pc
  · have e : aluT x.op = (0, false, false) := by rw [ho]; decide
    rw [non e]; simp only [ho]
    exact hst (by omega) ec.pre pc
  · have e : aluT x.op = (0, false, false) := by rw [ho]; decide
    have := cell (.inl ho)
    rw [non e]; simp only [ho]
    exact hst (by omega) rf (hp _ (by omega))
  · have e : aluT x.op = (0, false, false) := by rw [ho]; decide
    have := cell (.inr (.inl ho))
    rw [non e]; simp only [ho]
    exact hst (by omega) rf (hp _ (by omega))
  · have e : aluT x.op = (0, false, false) := by rw [ho]; decide
    have := cell (.inr (.inr (.inl ho)))
    rw [non e]; simp only [ho]
    exact hst (by omega) rf (hp _ (by omega))
  · have e : aluT x.op = (0, false, false) := by rw [ho]; decide
    have := cell (.inr (.inr (.inr ho)))
    rw [non e]; simp only [ho]
    exact hst (by omega) rf (hp _ (by omega))
  · have e : aluT x.op = (0, false, false) := by rw [ho]; decide
    rw [non e]; simp only [ho]
    exact (hst (by omega) rf (hp 0 (by omega))).set FBit_lasts rf (by rw [FBit, PB_lo (by omega)]; exact hp 0 (by omega))
  · have e : aluT x.op = (0, false, false) := by rw [ho]; decide
    rw [non e]; simp only [ho]
    exact hst (by omega) rf (hp 1 (by omega))
  · exact aluk (kind := 68) (by rw [ho]; decide) (by omega)
  · exact alux (kind := 68) (by rw [ho]; decide) (by omega)
  · exact aluk (kind := 84) (by rw [ho]; decide) (by omega)
  · exact alux (kind := 84) (by rw [ho]; decide) (by omega)
  · exact aluk (kind := 164) (by rw [ho]; decide) (by omega)
  · exact alux (kind := 164) (by rw [ho]; decide) (by omega)
theorem fold_all {F : Nat → List Nd → Int → Prop} {Q : In4 → Prop} (hstep : ∀ {s : VS} {x : In4}, Inv s.L → AllN F 18 s.L s.p → Q x → x.k < 4294967296 → AllN F 18 (stepV s x).L (stepV s x).p) : ∀ (w : List In4) {s : VS}, Inv s.L → AllN F 18 s.L s.p → (∀ x ∈ w, Q x) → (∀ x ∈ w, x.k < 4294967296) → AllN F 18 (w.foldl stepV s).L (w.foldl stepV s).p
  | [], s, hi, h, _, _ => h
  | x :: w, s, hi, h, hq, hk => by
    have hkx := hk x (by simp)
    have e := (stepV_ext hi h.1 hkx).1
    exact fold_all hstep w e.inv (hstep hi h (hq x (by simp)) hkx) (fun y hy => hq y (by simp [hy])) fun y hy => hk y (by simp [hy])
theorem onlyB_mem {l : List Int} {w : List In4} (h : onlyB l w = true) : ∀ x ∈ w, x.op ∈ l := fun x hx => by
  have := List.all_eq_true.1 h x hx
  obtain ⟨y, hy, he⟩ := List.any_eq_true.1 this
  simp only [beq_iff_eq] at he
  rw [← he]; exact hy
theorem win_sum {w : List In4} (hi : Inv L) (hk : ∀ x ∈ w, x.k < 4294967296) (hw : winB w = true) (ho : sumsB w = true) : AllN FSum 18 (winV L w).L (winV L w).p := by
  have hwp : ∀ x ∈ w, plainW x = true := by simp only [winB, Bool.and_eq_true, List.all_eq_true] at hw; exact hw.2
  have hm := onlyB_mem ho
  exact fold_all (F := FSum) (Q := fun x => plainW x = true ∧ x.op ∈ sumOps) (fun hi h hq hk => step_sum hi h hq.1 hk hq.2) w (varsV_ok hi 18).ext.inv
    (vars_all FSum_lasts (fun i hi L => var_sum (by omega) (by omega)) hi 18 (Nat.le_refl _)) (fun x hx => ⟨hwp x hx, hm x hx⟩) hk
theorem win_bit [HasBits G] {w : List In4} (hi : Inv L) (hk : ∀ x ∈ w, x.k < 4294967296) (hw : winB w = true) (ho : bitsB w = true) : AllN FBit 18 (winV L w).L (winV L w).p := by
  have hwp : ∀ x ∈ w, plainW x = true := by simp only [winB, Bool.and_eq_true, List.all_eq_true] at hw; exact hw.2
  simp only [bitsB, Bool.and_eq_true, List.all_eq_true] at ho
  have hm := onlyB_mem ho.2
  exact fold_all (F := FBit) (Q := fun x => plainW x = true ∧ x.op ∈ bitOps ∧ bigK x = false) (fun hi h hq hk => step_bit (G := G) hi h hq.1 hk hq.2.1 hq.2.2) w (varsV_ok hi 18).ext.inv
    (vars_all FBit_lasts (fun i hi L => var_bit (by omega) (by omega) (by unfold PB; split <;> simp <;> omega)) hi 18 (Nat.le_refl _)) (fun x hx => ⟨hwp x hx, hm x hx, by simpa using ho.1 x hx⟩) hk
end Go.Ev
/- Of two windows of sums, and of two of bits, it is never given up. -/
namespace Go.Ev
open Go Go.RowKit
set_option maxRecDepth 10000
set_option maxHeartbeats 4000000
set_option linter.unusedSimpArgs false
set_option linter.unusedVariables false
variable {G : Tbl} {L L' : List Nd}
theorem stepV_grow (s : VS) (x : In4) : Grow s.L (stepV s x).L := by
  have hc : Grow s.L (putN s.L (sumNd (x.k :: zeros 34))).2 := put_grow (sum_pl _)
  have hb : Grow s.L (byV s x).2 := by
    unfold byV
    split
    · exact Grow.refl
    · exact hc
  unfold stepV
  split
  · exact hb.trans alu_grow
  repeat' split
  all_goals first
    | exact hc
    | exact var_grow
    | exact neg_grow
    | exact Grow.refl
theorem fold_grow : ∀ (w : List In4) (s : VS), Grow s.L (w.foldl stepV s).L
  | [], s => Grow.refl
  | x :: w, s => (stepV_grow s x).trans (fold_grow w (stepV s x))
theorem vars_grow (L : List Nd) : ∀ n, Grow L (varsV L n).L
  | 0 => by simpa [varsV] using Grow.refl
  | n + 1 => by
    rw [varsV_succ]
    exact (vars_grow L n).trans var_grow
theorem win_pl (h : Pl L) (w : List In4) : Pl (winV L w).L := h.grow ((vars_grow L 18).trans (fold_grow w _))
theorem no_div {w : List In4} (h : ∀ x ∈ w, x.op ≠ 60) : divN w w.length = 0 := by
  rw [divN, List.take_length, List.countP_eq_zero]
  intro x hx
  simp [h x hx]
theorem exact_core {v w : List In4} {live i : Nat} {x y : Int} (hk : ∀ x ∈ v, x.k < 4294967296) (hkw : ∀ x ∈ w, x.k < 4294967296) (hv : winB v = true) (hw : winB w = true) (h1 : ∀ x ∈ v, x.op ≠ 60) (h2 : ∀ x ∈ w, x.op ≠ 60) (hi : i < 18) (hb : partB live i = true)
    (hx : x = (winV [] v).p.getD i 0) (hy : y = (winV (winV [] v).L w).p.getD i 0) (hap : (apB (winV (winV [] v).L w).L x y).2 = true) :
    ∃ r ∈ triesL (winV (winV [] v).L w).L (winV [] v).p (winV (winV [] v).L w).p live, diffR v w live (stO r) (ofW (r.drop 18)) = true := by
  have k1 := winV_ok Inv.nil v hk
  have k2 := winV_ok k1.ext.inv w hkw
  obtain ⟨L2, hL2⟩ : ∃ L2, L2 = (winV (winV [] v).L w).L := ⟨_, rfl⟩
  obtain ⟨r, hr⟩ : ∃ r, r = (apB L2 x y).1 := ⟨_, rfl⟩
  have hrl := apB_len L2 x y
  rw [← hr] at hrl
  rw [← hL2] at hap
  refine ⟨r, ?_, ?_⟩
  · rw [triesL, List.mem_append]
    refine .inl (List.mem_filterMap.2 ⟨i, List.mem_range.2 hi, ?_⟩)
    rw [trA, ← hx, ← hy, ← hL2, if_pos ⟨hb, hap⟩, hr]
  have hs := stO_ok hrl.1 hrl.2
  have hd := ofW_ok (w := r.drop 18) (by simp [hrl.1]) (fun x hx => hrl.2 x (List.mem_of_mem_drop hx))
  have hback := asgL_back hrl.1 hrl.2
  obtain ⟨s, hsd⟩ : ∃ s, s = stO r := ⟨_, rfl⟩
  obtain ⟨d, hdd⟩ : ∃ d, d = ofW (r.drop 18) := ⟨_, rfl⟩
  rw [← hsd] at hs
  rw [← hdd] at hd
  rw [← hsd, ← hdd] at hback ⊢
  have V1 := (win_vals Inv.nil hs hd hk hv).ext k2.ext
  have V2 := win_vals k1.ext.inv hs hd hkw hw
  rw [← hL2] at V1 V2
  rw [hback] at V1 V2
  have n1 : (runW d v s).2 = v.length := by
    rcases Nat.lt_or_ge (runW d v s).2 v.length with h | h
    · obtain ⟨z, hz, _⟩ := V1.stop h
      have := (List.getElem?_eq_some_iff.1 hz).1
      rw [V1.num, no_div h1] at this; omega
    · have := runW_le d v s; omega
  have n2 : (runW d w s).2 = w.length := by
    rcases Nat.lt_or_ge (runW d w s).2 w.length with h | h
    · obtain ⟨z, hz, _⟩ := V2.stop h
      have := (List.getElem?_eq_some_iff.1 hz).1
      rw [V2.num, no_div h2] at this; omega
    · have := runW_le d w s; omega
  unfold diffR
  rw [if_neg (by omega)]
  refine partsD_yes hi ?_
  have o1 := runW_ok hd v s hs hk
  have o2 := runW_ok hd w s hs hkw
  rw [diffAt, hb, Bool.true_and, asg_pt o1 hi, asg_pt o2 hi]
  obtain ⟨_, _, _, a, c, ha, hc, hac⟩ := apB_tells k2.ext.inv (by rw [← hL2]; exact hap)
  rw [← hL2, ← hr] at ha hc
  have e1 := ((V1.done n1).val i hi).2
  have e2 := ((V2.done n2).val i hi).2
  rw [← hx, ha] at e1
  rw [← hy, hc] at e2
  have e1 := Option.some.inj e1
  have e2 := Option.some.inj e2
  rw [← e1, ← e2]
  simp [hac]
theorem exact_law [HasBits G] {v w : List In4} {live : Nat} (hk : ∀ x ∈ v, x.k < 4294967296) (hkw : ∀ x ∈ w, x.k < 4294967296) (hv : winB v = true) (hw : winB w = true)
    (ho : (sumsB v && sumsB w || bitsB v && bitsB w) = true) : (decR v w live).1 ≠ 2 := by
  rcases dec_tells (live := live) hv hw with ⟨e, _⟩ | ⟨r, e, _⟩ | ⟨e, hn, hs⟩
  · rw [e]; decide
  · rw [e]; simp
  exfalso
  have k1 := winV_ok Inv.nil v hk
  have k2 := winV_ok k1.ext.inv w hkw
  have hpl : Pl (winV (winV [] v).L w).L := win_pl (win_pl Pl.nil v) w
  have h60 : (∀ x ∈ v, x.op ≠ 60) ∧ (∀ x ∈ w, x.op ≠ 60) := by
    simp only [Bool.or_eq_true, Bool.and_eq_true] at ho
    have sn : ∀ {u : List In4}, sumsB u = true → ∀ x ∈ u, x.op ≠ 60 := fun h x hx => by
      have := onlyB_mem h x hx
      intro he; rw [he] at this; revert this; decide
    have bn : ∀ {u : List In4}, bitsB u = true → ∀ x ∈ u, x.op ≠ 60 := fun h x hx => by
      simp only [bitsB, Bool.and_eq_true] at h
      have := onlyB_mem h.2 x hx
      intro he; rw [he] at this; revert this; decide
    rcases ho with ⟨h1, h2⟩ | ⟨h1, h2⟩
    · exact ⟨sn h1, sn h2⟩
    · exact ⟨bn h1, bn h2⟩
  have st1 : (winV [] v).st = [] := by
    have := (win_vals (s := stO (rowK 0)) (d := ofW ((rowK 0).drop 18)) Inv.nil (stO_ok (rowK_len 0) (rowK_lt 0)) (ofW_ok (by simp [rowK_len]) (fun x hx => rowK_lt 0 x (List.mem_of_mem_drop hx))) hk hv).num
    rw [no_div h60.1] at this
    exact List.eq_nil_of_length_eq_zero this
  have st2 : (winV (winV [] v).L w).st = [] := by
    have := (win_vals (s := stO (rowK 0)) (d := ofW ((rowK 0).drop 18)) k1.ext.inv (stO_ok (rowK_len 0) (rowK_lt 0)) (ofW_ok (by simp [rowK_len]) (fun x hx => rowK_lt 0 x (List.mem_of_mem_drop hx))) hkw hw).num
    rw [no_div h60.2] at this
    exact List.eq_nil_of_length_eq_zero this
  -- a live part with two numbers
  have hex : ∃ i < 18, numDiff (winV [] v).p (winV (winV [] v).L w).p live i = true := by
    rcases Classical.em (∃ i < 18, numDiff (winV [] v).p (winV (winV [] v).L w).p live i = true) with h | h
    · exact h
    · exfalso
      have : sameB (winV [] v).p (winV (winV [] v).L w).p (winV [] v).st (winV (winV [] v).L w).st live = true := sameB_yes.2 ⟨fun i hi => by
        cases hq : numDiff (winV [] v).p (winV (winV [] v).L w).p live i with
        | false => rfl
        | true => exact absurd ⟨i, hi, hq⟩ h, by rw [st1, st2]⟩
      rw [hs] at this; cases this
  obtain ⟨i, hi, hnd⟩ := hex
  simp only [numDiff, Bool.and_eq_true, bne_iff_ne, ne_eq] at hnd
  obtain ⟨x, hx⟩ : ∃ x, x = (winV [] v).p.getD i 0 := ⟨_, rfl⟩
  obtain ⟨y, hy⟩ : ∃ y, y = (winV (winV [] v).L w).p.getD i 0 := ⟨_, rfl⟩
  rw [← hx, ← hy] at hnd
  have hap : (apB (winV (winV [] v).L w).L x y).2 = true := by
    simp only [Bool.or_eq_true, Bool.and_eq_true] at ho
    rcases ho with ⟨h1, h2⟩ | ⟨h1, h2⟩
    · obtain ⟨n, a, e1, g1, q1⟩ := ((win_sum Inv.nil hk hv h1).pre FSum_lasts k2.ext.pre).2 i hi
      obtain ⟨m, c, e2, g2, q2⟩ := (win_sum k1.ext.inv hkw hw h2).2 i hi
      rw [← hx] at e1
      rw [← hy] at e2
      subst e1 e2
      exact apB_exact k2.ext.inv hpl g1 g2 (fun h => hnd.2 (by rw [h])) (.inl ⟨q1, q2⟩)
    · obtain ⟨n, a, p1, e1, g1, q1, _⟩ := ((win_bit (G := G) Inv.nil hk hv h1).pre FBit_lasts k2.ext.pre).2 i hi
      obtain ⟨m, c, p2, e2, g2, q2, _⟩ := (win_bit (G := G) k1.ext.inv hkw hw h2).2 i hi
      rw [← hx] at e1
      rw [← hy] at e2
      subst e1 e2
      exact apB_exact k2.ext.inv hpl g1 g2 (fun h => hnd.2 (by rw [h])) (.inr ⟨by rw [q1]; rfl, by rw [q2]; rfl⟩)
  obtain ⟨r, hr, hd⟩ := exact_core hk hkw hv hw h60.1 h60.2 hi hnd.1 hx hy hap
  rw [hn r hr] at hd
  cases hd
theorem DecideExact_ok [HasWd G] [HasNeg G] [HasIns G] [HasCheck G] [HasData G] [HasWith G] [HasStep G] [HasWRight G] [HasWinRun G] [HasWinAsg G] [HasWinState G] [HasWinOf G] [HasAffApart G] [HasAffine G] [hBA : HasBitsA G] [HasSymNew G] [HasSym G] [HasSymApart G] [HasDecDf G] [HasDec G]
    [HasR2 G] [HasR5o G] [HasR17 G] [HasR18k G] [HasL18 G] [HasL18z G]
    (hkn : FP G 319 [] (.bool true)) (v w : List In4) (live : Nat) (hf : v.length ≤ maxLen) (hg : w.length ≤ maxLen)
    (hk : ∀ x ∈ v, x.k < 4294967296) (hkw : ∀ x ∈ w, x.k < 4294967296) (hlv : live < 4294967296) :
    FP G 323 [FL v, FL w, .int .u32 live] (.bool true) := by
  haveI : HasBits G := hBA.toHasBits
  refine FP_of HasL18z.h_hurdlelaw18_DecideExact (Nat.le_of_ble_eq_true rfl) ?_
  have hgr := great18_ok (G := G) v w
  simp only [FL] at hgr
  simp [FL]
  refine callP_of hgr ?_
  by_cases hb : 100 < v.length ∨ 100 < w.length
  · have hb' : (decide (100 < v.length) || decide (100 < w.length)) = true := by simpa using hb
    simp [hb']
    refine callP_of hkn ?_
    simp
  have hb' : (decide (100 < v.length) || decide (100 < w.length)) = false := by simpa using hb
  simp only [not_or, Nat.not_lt] at hb
  have hdc := Decide_ok (G := G) v w live hf hg hk hkw hlv
  have hfa := fair_ok (G := G) v w (by omega) (by omega) hk hkw
  have s1 := Sums_ok (G := G) v (by omega)
  have s2 := Sums_ok (G := G) w (by omega)
  have b1 := Bits18_ok (G := G) v (by omega)
  have b2 := Bits18_ok (G := G) w (by omega)
  simp only [FL] at hdc hfa s1 s2 b1 b2
  simp [hb']
  refine callP_of hfa ?_
  cases hww : winB v && winB w with
  | false =>
    simp
    refine callP_of hkn ?_
    simp
  | true =>
  have hv : winB v = true := by simp only [Bool.and_eq_true] at hww; exact hww.1
  have hw : winB w = true := by simp only [Bool.and_eq_true] at hww; exact hww.2
  have hex := exact_law (G := G) (live := live) hk hkw hv hw
  obtain ⟨A, hA⟩ : ∃ A, A = ansC 0 none := ⟨_, rfl⟩
  have lA : A.length = 28 := by rw [hA]; rfl
  have hA0z : V.int .i64 0 :: (cnats .u32 (zeros 20) ++ cnats .u64 (zeros 7)) = A := by rw [hA]; rfl
  have tA : A.take 28 = A := List.take_of_length_le (by omega)
  have dA : A.drop 28 = [] := List.drop_eq_nil_of_le (by omega)
  obtain ⟨c, hc⟩ : ∃ c, c = (decR v w live).1 := ⟨_, rfl⟩
  obtain ⟨o, ho⟩ : ∃ o, o = (decR v w live).2 := ⟨_, rfl⟩
  obtain ⟨B, hB⟩ : ∃ B, B = ansC c o := ⟨_, rfl⟩
  have kB : ∀ n, clL n B = B := fun n => by rw [hB]; exact ansC_cl _ _ n
  have lB : B.length = 28 := by rw [hB, hc, ho]; exact decR_len v w live
  have tB : B.take 28 = B := List.take_of_length_le (by omega)
  have dB : B.drop 28 = [] := List.drop_eq_nil_of_le (by omega)
  have B1 : B.take 1 = [.int .i64 c] := by rw [hB]; exact ansC_hd _ _
  rw [hww, if_pos rfl, ← hc, ← ho, ← hB] at hdc
  rw [← hc] at hex
  simp
  refine callP_of s1 ?_
  cases h1 : sumsB v with
  | false =>
    simp
    refine callP_of b1 ?_
    cases h3 : bitsB v with
    | false =>
      simp
      refine callP_of hkn ?_
      simp
    | true =>
      simp
      refine callP_of b2 ?_
      cases h4 : bitsB w with
      | false =>
        simp
        refine callP_of hkn ?_
        simp
      | true =>
        simp
        have hc2 := hex (by simp [h3, h4])
        refine callP_of hdc ?_
        simp [hA0z, lA, tA, dA, lB, tB, dB, B1, kB, keep_cl, hc2, bneT hc2]
        refine callP_of hkn ?_
        simp
  | true =>
    simp
    refine callP_of s2 ?_
    cases h2 : sumsB w with
    | true =>
      simp
      have hc2 := hex (by simp [h1, h2])
      refine callP_of hdc ?_
      simp [hA0z, lA, tA, dA, lB, tB, dB, B1, kB, keep_cl, hc2, bneT hc2]
      refine callP_of hkn ?_
      simp
    | false =>
      simp
      refine callP_of b1 ?_
      cases h3 : bitsB v with
      | false =>
        simp
        refine callP_of hkn ?_
        simp
      | true =>
        simp
        refine callP_of b2 ?_
        cases h4 : bitsB w with
        | false =>
          simp
          refine callP_of hkn ?_
          simp
        | true =>
          simp
          have hc2 := hex (by simp [h3, h4])
          refine callP_of hdc ?_
          simp [hA0z, lA, tA, dA, lB, tB, dB, B1, kB, keep_cl, hc2, bneT hc2]
          refine callP_of hkn ?_
          simp
end Go.Ev
