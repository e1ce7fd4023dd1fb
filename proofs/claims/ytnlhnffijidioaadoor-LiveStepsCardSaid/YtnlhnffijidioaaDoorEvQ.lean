/- Canonical data of some shapes, as lists of numbers. -/
import Derived.Test.YtnlhnffijidioaaDoorEvP
namespace Go.Ev
open Go Go.RowKit

theorem ints_of {k : IntKind} : ∀ {es : List (List V)}, (∀ x ∈ es, HasTy (.int k) x) → ∃ l, es = ints k l ∧ ∀ n ∈ l, (Lit.int k n).wf = true
  | [], _ => ⟨[], rfl, by simp⟩
  | e :: es, h => by
    obtain ⟨l, rfl, hl⟩ := ints_of (es := es) fun x hx => h x (by simp [hx])
    have := h e (by simp)
    simp only [HasTy] at this
    obtain ⟨n, rfl, hn⟩ := this
    exact ⟨n :: l, rfl, by simpa using ⟨hn, hl⟩⟩
theorem u32_wf {n : Int} (h : (Lit.int .u32 n).wf = true) : 0 ≤ n ∧ n < 4294967296 := by
  simp [Lit.wf, IntKind.min, IntKind.max, IntKind.signed, IntKind.bits] at h
  omega
theorem nats_of32 : ∀ {l : List Int}, (∀ n ∈ l, (Lit.int .u32 n).wf = true) → ∃ t : List Nat, l = t.map (fun (x : Nat) => (x : Int)) ∧ ∀ x ∈ t, x < 4294967296
  | [], _ => ⟨[], rfl, by simp⟩
  | n :: l, h => by
    obtain ⟨t, rfl, ht⟩ := nats_of32 (l := l) fun x hx => h x (by simp [hx])
    have := u32_wf (h n (by simp))
    refine ⟨n.toNat :: t, ?_, ?_⟩
    · simp only [List.map_cons, List.cons.injEq, and_true]; omega
    · intro x hx
      rcases List.mem_cons.1 hx with rfl | hx
      · omega
      · exact ht x hx
theorem sl_ints {k : IntKind} {cs : List V} (h : HasTy (.sl (.int k)) cs) : ∃ l, cs = [.vs (ints k l) .no] ∧ l.length ≤ maxLen ∧ ∀ n ∈ l, (Lit.int k n).wf = true := by
  simp only [HasTy] at h
  obtain ⟨es, rfl, hl, he⟩ := h
  obtain ⟨l, rfl, hw⟩ := ints_of (k := k) (fun x hx => by simpa only [HasTy] using he x hx)
  exact ⟨l, rfl, by simpa using hl, hw⟩
theorem sl_nats {cs : List V} (h : HasTy (.sl (.int .u32)) cs) : ∃ t : List Nat, cs = [.vs (nats .u32 t) .no] ∧ t.length ≤ maxLen ∧ ∀ x ∈ t, x < 4294967296 := by
  obtain ⟨l, rfl, hl, hw⟩ := sl_ints h
  obtain ⟨t, rfl, ht⟩ := nats_of32 hw
  exact ⟨t, by simp [ints, nats, Function.comp_def], by simpa using hl, ht⟩
theorem flat_nats : ∀ t : List Nat, (ints .u32 (t.map fun (x : Nat) => (x : Int))).flatten = cnats .u32 t
  | [] => rfl
  | x :: t => by
    have := flat_nats t
    simp only [ints, cnats, List.map_cons, List.flatten_cons] at this ⊢
    rw [this]; rfl
theorem arr_nats {n : Nat} {cs : List V} (h : HasTy (.arr n (.int .u32)) cs) : ∃ t : List Nat, cs = cnats .u32 t ∧ t.length = n ∧ ∀ x ∈ t, x < 4294967296 := by
  simp only [HasTy] at h
  obtain ⟨es, rfl, hl, he⟩ := h
  obtain ⟨l, rfl, hw⟩ := ints_of (k := .u32) (fun x hx => by simpa only [HasTy] using he x hx)
  obtain ⟨t, rfl, ht⟩ := nats_of32 hw
  refine ⟨t, ?_, by simpa using hl, ht⟩
  exact flat_nats t

/-- A form of bits, as an argument. -/
theorem form_arg {v : V} (h : ArgIs (.agg [.sl (.int .i64), .sl (.int .u32)]) v) : ∃ fv ft, v = .agg [.vs (ints .i64 fv) .no, .vs (nats .u32 ft) .no] ∧ fv.length ≤ maxLen ∧ ft.length ≤ maxLen ∧ (∀ n ∈ fv, (Lit.int .i64 n).wf = true) ∧ ∀ x ∈ ft, x < 4294967296 := by
  simp only [ArgIs, HasTy, HasTys] at h
  obtain ⟨cs, rfl, a, b, rfl, h1, a2, b2, rfl, h2, rfl⟩ := h
  obtain ⟨fv, rfl, l1, w1⟩ := sl_ints (k := .i64) (by simp only [HasTy]; exact h1)
  obtain ⟨ft, rfl, l2, w2⟩ := sl_nats (by simp only [HasTy]; exact h2)
  exact ⟨fv, ft, by simp, l1, l2, w1, w2⟩
theorem arr_arg {n : Nat} {v : V} (h : ArgIs (.arr n (.int .u32)) v) : ∃ t : List Nat, v = .agg (cnats .u32 t) ∧ t.length = n ∧ ∀ x ∈ t, x < 4294967296 := by
  simp only [ArgIs] at h
  obtain ⟨cs, rfl, h⟩ := h
  obtain ⟨t, rfl, h2⟩ := arr_nats h
  exact ⟨t, rfl, h2⟩
theorem int_arg {k : IntKind} {v : V} (h : ArgIs (.int k) v) : ∃ n, v = .int k n ∧ (Lit.int k n).wf = true := by
  simp only [ArgIs, HasTy] at h
  obtain ⟨n, hn, hw⟩ := h
  simp at hn
  exact ⟨n, hn, hw⟩
theorem u32_arg {v : V} (h : ArgIs (.int .u32) v) : ∃ n : Nat, v = .int .u32 n ∧ n < 4294967296 := by
  obtain ⟨n, rfl, hw⟩ := int_arg h
  have := u32_wf hw
  exact ⟨n.toNat, by rw [Int.toNat_of_nonneg this.1], by omega⟩

theorem zip_all {P : Program} {tys : List Ty} {ts : List TypeId} (h : (tys.zip ts).all (fun x => tyIs P x.2 x.1) = true) : ∀ (i : Nat) (ty : Ty) (t : TypeId), tys[i]? = some ty → ts[i]? = some t → tyIs P t ty = true := by
  intro i ty t h1 h2
  have hm : (ty, t) ∈ tys.zip ts := List.mem_of_getElem? (i := i) (by rw [List.getElem?_zip_eq_some]; exact ⟨h1, h2⟩)
  exact (List.all_eq_true.1 h) _ hm
end Go.Ev
