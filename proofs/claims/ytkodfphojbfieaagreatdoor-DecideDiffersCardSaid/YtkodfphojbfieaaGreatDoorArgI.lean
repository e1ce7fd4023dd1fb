/- Arguments of the statements: instructions, states, records. -/
import Derived.Test.YtkodfphojbfieaaGreatDoorCheckBW
import Derived.Test.YtkodfphojbfieaaGreatDoorEvSW
set_option linter.unusedVariables false
set_option linter.unusedSimpArgs false
namespace Go.Ev
open Go Go.RowKit
set_option linter.unusedSimpArgs false
set_option linter.unusedVariables false
def i64R (n : Int) : Prop := -9223372036854775808 ≤ n ∧ n ≤ 9223372036854775807
def In4.ok (x : In4) : Prop := (i64R x.op ∧ i64R x.jt ∧ i64R x.jf) ∧ x.k < 4294967296
theorem i64_wf {n : Int} (h : (Lit.int .i64 n).wf = true) : i64R n := by
  simp [Lit.wf, IntKind.min, IntKind.max, IntKind.signed, IntKind.bits] at h
  unfold i64R
  omega
theorem hasty_int {k : IntKind} {cs : List V} (h : HasTy (.int k) cs) : ∃ n, cs = [.int k n] ∧ (Lit.int k n).wf = true := by simpa only [HasTy] using h
theorem ins_cells {cs : List V} (h : HasTy (.agg [.int .i64, .int .i64, .int .i64, .int .u32]) cs) : ∃ x : In4, cs = x.cs ∧ x.ok := by
  simp only [HasTy, HasTys] at h
  obtain ⟨a, _, rfl, ⟨n1, rfl, w1⟩, b, _, rfl, ⟨n2, rfl, w2⟩, c, _, rfl, ⟨n3, rfl, w3⟩, d, _, rfl, ⟨n4, rfl, w4⟩, rfl⟩ := h
  have w4 := u32_wf w4
  refine ⟨⟨n1, n2, n3, n4.toNat⟩, ?_, ⟨i64_wf w1, i64_wf w2, i64_wf w3⟩, by simp only; omega⟩
  simp [In4.cs, Int.toNat_of_nonneg w4.1]
theorem arr_cells {n : Nat} {cs : List V} (h : HasTy (.arr n (.int .u32)) cs) : ∃ t : List Nat, cs = cnats .u32 t ∧ t.length = n ∧ ∀ x ∈ t, x < 4294967296 := arr_nats h
theorem u64_wf {n : Int} (h : (Lit.int .u64 n).wf = true) : 0 ≤ n ∧ n < 18446744073709551616 := by
  simp [Lit.wf, IntKind.min, IntKind.max, IntKind.signed, IntKind.bits] at h
  omega
theorem nats_of64 : ∀ {l : List Int}, (∀ n ∈ l, (Lit.int .u64 n).wf = true) → ∃ t : List Nat, l = t.map (fun (x : Nat) => (x : Int)) ∧ ∀ x ∈ t, x < 18446744073709551616
  | [], _ => ⟨[], rfl, by simp⟩
  | n :: l, h => by
    obtain ⟨t, rfl, ht⟩ := nats_of64 (l := l) fun x hx => h x (by simp [hx])
    have := u64_wf (h n (by simp))
    refine ⟨n.toNat :: t, by simp [Int.toNat_of_nonneg this.1], fun x hx => ?_⟩
    simp only [List.mem_cons] at hx
    rcases hx with rfl | hx
    · omega
    · exact ht x hx
theorem flat_nats64 : ∀ t : List Nat, (ints .u64 (t.map fun (x : Nat) => (x : Int))).flatten = cnats .u64 t
  | [] => rfl
  | x :: t => by
    have := flat_nats64 t
    simp only [ints, cnats, List.map_cons, List.flatten_cons] at this ⊢
    rw [this]; rfl
theorem arr_cells64 {n : Nat} {cs : List V} (h : HasTy (.arr n (.int .u64)) cs) : ∃ t : List Nat, cs = cnats .u64 t ∧ t.length = n ∧ ∀ x ∈ t, x < 18446744073709551616 := by
  simp only [HasTy] at h
  obtain ⟨es, rfl, hl, he⟩ := h
  obtain ⟨l, rfl, hw⟩ := ints_of (k := .u64) (fun x hx => by simpa only [HasTy] using he x hx)
  obtain ⟨t, rfl, ht⟩ := nats_of64 hw
  exact ⟨t, flat_nats64 t, by simpa using hl, ht⟩
theorem u32_cell {cs : List V} (h : HasTy (.int .u32) cs) : ∃ n : Nat, cs = [.int .u32 (n : Int)] ∧ n < 4294967296 := by
  obtain ⟨n, rfl, hw⟩ := hasty_int h
  have := u32_wf hw
  exact ⟨n.toNat, by rw [Int.toNat_of_nonneg this.1], by omega⟩
theorem u64_cell {cs : List V} (h : HasTy (.int .u64) cs) : ∃ n : Nat, cs = [.int .u64 (n : Int)] ∧ n < 18446744073709551616 := by
  obtain ⟨n, rfl, hw⟩ := hasty_int h
  have := u64_wf hw
  exact ⟨n.toNat, by rw [Int.toNat_of_nonneg this.1], by omega⟩
theorem st_arg {v : V} (h : ArgIs (.agg [.int .u32, .int .u32, .arr 16 (.int .u32)]) v) : ∃ s : St, v = SV s ∧ s.ok := by
  unfold ArgIs at h
  obtain ⟨cs, rfl, h⟩ := h
  unfold HasTy HasTys at h
  obtain ⟨a, b, rfl, h1, h⟩ := h
  unfold HasTys at h
  obtain ⟨c, d, rfl, h2, h⟩ := h
  unfold HasTys at h
  obtain ⟨f, g, rfl, h3, h⟩ := h
  unfold HasTys at h
  subst h
  obtain ⟨n1, rfl, w1⟩ := u32_cell h1
  obtain ⟨n2, rfl, w2⟩ := u32_cell h2
  obtain ⟨t, rfl, hl, ht⟩ := arr_cells h3
  exact ⟨⟨n1, n2, t⟩, by simp [SV, St.cs], w1, w2, hl, ht⟩
theorem da_arg {v : V} (h : ArgIs (.agg [.int .u32, .int .u32, .int .u64, .arr 6 (.int .u64)]) v) : ∃ d : Da, v = DV d ∧ d.ok := by
  unfold ArgIs at h
  obtain ⟨cs, rfl, h⟩ := h
  unfold HasTy HasTys at h
  obtain ⟨a, b, rfl, h1, h⟩ := h
  unfold HasTys at h
  obtain ⟨c, d, rfl, h2, h⟩ := h
  unfold HasTys at h
  obtain ⟨c', d', rfl, h2', h⟩ := h
  unfold HasTys at h
  obtain ⟨f, g, rfl, h3, h⟩ := h
  unfold HasTys at h
  subst h
  obtain ⟨n1, rfl, w1⟩ := u32_cell h1
  obtain ⟨n2, rfl, w2⟩ := u32_cell h2
  obtain ⟨n3, rfl, w3⟩ := u64_cell h2'
  obtain ⟨t, rfl, hl, ht⟩ := arr_cells64 h3
  exact ⟨⟨n1, n2, n3, t⟩, by simp [DV, Da.cs], w1, w2, w3, hl, ht⟩
theorem flt_list : ∀ {es : List (List V)}, (∀ x ∈ es, HasTy (.agg [.int .i64, .int .i64, .int .i64, .int .u32]) x) → ∃ f : List In4, es = IL f ∧ ∀ x ∈ f, x.ok
  | [], _ => ⟨[], rfl, by simp⟩
  | e :: es, h => by
    obtain ⟨x, rfl, hx⟩ := ins_cells (h e (by simp))
    obtain ⟨f, rfl, hf⟩ := flt_list (es := es) fun y hy => h y (by simp [hy])
    refine ⟨x :: f, by simp [IL], fun y hy => ?_⟩
    simp only [List.mem_cons] at hy
    rcases hy with rfl | hy
    · exact hx
    · exact hf y hy
theorem flt_arg {v : V} (h : ArgIs (.sl (.agg [.int .i64, .int .i64, .int .i64, .int .u32])) v) : ∃ f : List In4, v = FL f ∧ f.length ≤ maxLen ∧ ∀ x ∈ f, x.ok := by
  have h : HasTy (.sl (.agg [.int .i64, .int .i64, .int .i64, .int .u32])) [v] := h
  rw [HasTy] at h
  obtain ⟨es, hes, hl, he⟩ := h
  obtain ⟨f, rfl, hf⟩ := flt_list he
  simp only [List.cons.injEq, and_true] at hes
  exact ⟨f, by rw [hes]; rfl, by simpa using hl, hf⟩
end Go.Ev
