/- Arguments that read as data are canonical values. -/
import Derived.Test.YtdomogpjchpbnaaEvN
import Derived.ProofKit
import Derived.SizedLaws
namespace Go.Ev
open Go Go.RowKit
set_option linter.unusedSimpArgs false
set_option linter.unusedVariables false

variable {P : Program} {w : World} {fm : Fm}

/-- The shapes of plain data. -/
inductive Ty where
  | int (k : IntKind)
  | bool
  | str
  | sl (e : Ty)
  | agg (fs : List Ty)
  | arr (n : Nat) (e : Ty)

mutual
/-- Cells that are a value of a shape. -/
def HasTy : Ty → List V → Prop
  | .int k, cs => ∃ n, cs = [.int k n] ∧ (Lit.int k n).wf = true
  | .bool, cs => ∃ b, cs = [.bool b]
  | .str, cs => ∃ s : List UInt8, cs = [.str s] ∧ s.length ≤ maxLen
  | .sl e, cs => ∃ es : List (List V), cs = [.vs es .no] ∧ es.length ≤ maxLen ∧ ∀ x ∈ es, HasTy e x
  | .agg fs, cs => HasTys fs cs
  | .arr n e, cs => ∃ es : List (List V), cs = es.flatten ∧ es.length = n ∧ ∀ x ∈ es, HasTy e x
def HasTys : List Ty → List V → Prop
  | [], cs => cs = []
  | t :: ts, cs => ∃ a b, cs = a ++ b ∧ HasTy t a ∧ HasTys ts b
end

mutual
theorem HasTy.pure : ∀ {t : Ty} {cs : List V}, HasTy t cs → ∀ c ∈ cs, c.pure = true
  | .int k, cs, h => by simp only [HasTy] at h; obtain ⟨n, rfl, _⟩ := h; simp [V.pure]
  | .bool, cs, h => by simp only [HasTy] at h; obtain ⟨n, rfl⟩ := h; simp [V.pure]
  | .str, cs, h => by simp only [HasTy] at h; obtain ⟨n, rfl, _⟩ := h; simp [V.pure]
  | .sl e, cs, h => by simp only [HasTy] at h; obtain ⟨n, rfl, _⟩ := h; simp [V.pure]
  | .agg fs, cs, h => by simp only [HasTy] at h; exact HasTys.pure h
  | .arr n e, cs, h => by
    simp only [HasTy] at h
    obtain ⟨es, rfl, _, h⟩ := h
    intro c hc
    obtain ⟨x, hx, hc⟩ := List.mem_flatten.1 hc
    exact HasTy.pure (h x hx) c hc
theorem HasTys.pure : ∀ {ts : List Ty} {cs : List V}, HasTys ts cs → ∀ c ∈ cs, c.pure = true
  | [], cs, h => by simp only [HasTys] at h; subst h; simp
  | t :: ts, cs, h => by
    simp only [HasTys] at h
    obtain ⟨a, b, rfl, h1, h2⟩ := h
    intro c hc
    simp only [List.mem_append] at hc
    rcases hc with hc | hc
    · exact HasTy.pure h1 c hc
    · exact HasTys.pure h2 c hc
end

mutual
/-- A type of the program has a shape. -/
def tyIs (P : Program) (t : TypeId) : Ty → Bool
  | .int k => isInt P t k
  | .bool => isBool P t
  | .str => isStr P t
  | .sl e => match P.underlying t with | some (.slice el) => decide (0 < P.cellsOf el) && tyIs P el e | _ => false
  | .agg fs => match P.underlying t with | some (.struct gs) => fieldsAre P (P.cellsOf t) 0 gs.toList fs | _ => false
  | .arr n e => match P.underlying t with | some (.array m el) => m == n && P.cellsOf t == n * P.cellsOf el && tyIs P el e | _ => false
def fieldsAre (P : Program) (all : Nat) (off : Nat) : List Field → List Ty → Bool
  | [], [] => off == all
  | g :: gs, t :: ts => g.offset == off && tyIs P g.type t && fieldsAre P all (off + P.cellsOf g.type) gs ts
  | _, _ => false
end

/-- No number in use, all cells stay. -/
def M0 (fm : Fm) : Mm := ⟨fun _ => false, fun _ => 0, fun _ => none, fun _ => ⟨0, none, 0, 0⟩, fm⟩
theorem hrel0 (fm : Fm) (w : World) (g : GOk (M0 fm) w) : HRel (M0 fm) w [] :=
  ⟨fun id => by simp [M0], fun id blk h => by simp at h, fun id id' b h => by simp [blOf] at h, g⟩
theorem rd0 (fm : Fm) (b o : Nat) : Rd (M0 fm) b o := fun l h => by simp [M0] at h

theorem cells?_range {base : Nat} {ad : Addr} {n : Nat} {xs : List Value} (h : w.cells? base ad n = some xs) : xs.length = n ∧ ∀ j v, xs[j]? = some v → w.cell? (ad.add j) = some v := by
  unfold World.cells? at h
  split at h
  case isFalse => cases h
  have hl := mapM_some_length h
  simp only [List.length_range] at hl
  refine ⟨hl, fun j v hv => ?_⟩
  have hj : j < n := by rw [← hl]; exact (List.getElem?_eq_some_iff.1 hv).1
  have := mapM_some_get h j j (by rw [List.getElem?_range hj])
  rw [this]; exact hv

theorem encL_take_drop {M : Mm} {xs : List Value} : ∀ {k : Nat} {a b : List V}, EncL M w a (xs.take k) → EncL M w b (xs.drop k) → EncL M w (a ++ b) xs := by
  intro k a b h1 h2
  have := encL_append h1 h2
  rwa [List.take_append_drop] at this

theorem encRows_of {M : Mm} {b sz : Nat} : ∀ {es : List (List V)} {off : Nat}, (∀ x ∈ es, x.length = sz) → (∀ (i : Nat) (x : List V), es[i]? = some x → EncRow M w b x (off + i * sz)) → EncRows M w b es off
  | [], _, _, _ => by simp only [EncRows]
  | e :: es, off, hs, h => by
    simp only [EncRows]
    refine ⟨by simpa using h 0 e (by simp), encRows_of (sz := sz) (fun x hx => hs x (by simp [hx])) fun i x hx => ?_⟩
    rw [hs e (by simp), show off + sz + i * sz = off + (i + 1) * sz by rw [Nat.add_mul, Nat.one_mul]; omega]
    exact h (i + 1) x (by simpa using hx)

theorem choose_list {α : Type} {Q : Nat → α → Prop} : ∀ (n : Nat), (∀ i, i < n → ∃ x, Q i x) → ∃ es : List α, es.length = n ∧ ∀ (i : Nat) (x : α), es[i]? = some x → Q i x
  | 0, _ => ⟨[], rfl, fun i x h => by simp at h⟩
  | n + 1, h => by
    obtain ⟨es, hl, hq⟩ := choose_list n (fun i hi => h i (by omega))
    obtain ⟨x, hx⟩ := h n (by omega)
    refine ⟨es ++ [x], by simp [hl], fun i y hy => ?_⟩
    rw [List.getElem?_append] at hy
    split at hy
    · exact hq i y hy
    · rename_i hi
      have : i = n := by
        have := (List.getElem?_eq_some_iff.1 hy).1
        simp at this
        omega
      subst this
      simp [hl] at hy
      subst hy
      exact hx

theorem encL_chunks {M : Mm} {c : Nat} : ∀ {es : List (List V)} {xs : List Value}, xs.length = es.length * c → (∀ (i : Nat) (x : List V), es[i]? = some x → EncL M w x ((xs.drop (i * c)).take c)) → EncL M w es.flatten xs
  | [], xs, hl, _ => by
    simp only [List.flatten_nil, EncL]
    exact List.eq_nil_of_length_eq_zero (by simpa using hl)
  | e :: es, xs, hl, h => by
    simp only [List.flatten_cons]
    refine encL_take_drop (k := c) (by simpa using h 0 e (by simp)) (encL_chunks (c := c) (by rw [List.length_drop, hl, List.length_cons, Nat.add_mul, Nat.one_mul]; omega) fun i x hx => ?_)
    rw [List.drop_drop]
    have := h (i + 1) x (by simpa using hx)
    rw [Nat.add_mul, Nat.one_mul, Nat.add_comm] at this
    exact this

section
variable {H : Type} {enc : TypeId × Value → H}

mutual
/-- What reads as data of a shape is canonical cells of it. -/
theorem open_ty : ∀ {ty : Ty} {fuel : Nat} {t : TypeId} {cs : List Value} {d : DataW H} {ps : List MemPlace}, tyIs P t ty = true → DataW.trod enc P w 0 (fun _ => true) true fuel t cs = some (d, ps) →
    ∃ vs, HasTy ty vs ∧ EncL (M0 fm) w vs cs
  | ty, 0, t, cs, d, ps, _, h => by simp [DataW.trod] at h
  | .int k, fuel + 1, t, cs, d, ps, ht, h => by
    simp only [tyIs] at ht
    have hu := isInt_spec ht
    unfold DataW.trod at h
    rw [hu] at h
    split at h <;> try (simp_all; done)
    rename_i k0 k' n hk
    cases hk
    split at h
    case isFalse => cases h
    rename_i hw
    obtain ⟨rfl, hw⟩ := hw
    exact ⟨[.int _ n], by simp only [HasTy]; exact ⟨n, rfl, hw⟩, by simp [EncL, Enc]⟩
  | .bool, fuel + 1, t, cs, d, ps, ht, h => by
    simp only [tyIs] at ht
    have hu := isBool_spec ht
    unfold DataW.trod at h
    rw [hu] at h
    split at h <;> simp_all
    rename_i b
    exact ⟨[.bool b], by simp only [HasTy]; exact ⟨b, rfl⟩, by simp [EncL, Enc]⟩
  | .str, fuel + 1, t, cs, d, ps, ht, h => by
    simp only [tyIs] at ht
    have hu := isStr_spec ht
    unfold DataW.trod at h
    rw [hu] at h
    split at h <;> simp_all
    rename_i s
    exact ⟨[.str s.data.toList], by simp only [HasTy]; exact ⟨s.data.toList, rfl, h.1⟩, by simp [EncL, Enc]⟩
  | .sl e, fuel + 1, t, cs, d, ps, ht, h => by
    simp only [tyIs] at ht
    split at ht
    case h_2 => cases ht
    rename_i el hu
    unfold DataW.trod at h
    rw [hu] at h
    split at h <;> try (simp_all; done)
    · refine ⟨[.vs [] .no], by simp only [HasTy]; exact ⟨[], rfl, Nat.zero_le _, by simp⟩, ?_⟩
      simp only [EncL, Enc]
      exact ⟨_, [], rfl, ⟨by simp, none, 0, rfl, Nat.le_refl _, by simp, trivial⟩, rfl⟩
    · rename_i el' a len cap hx
      cases hx
      simp only at h
      split at h
      case isFalse => cases h
      rename_i hc
      rw [Option.bind_eq_some_iff] at h
      obtain ⟨elems, hel, h⟩ := h
      have hlen := mapM_some_length hel
      simp only [List.length_range] at hlen
      simp only [Bool.and_eq_true, decide_eq_true_eq] at ht
      obtain ⟨hpos, ht⟩ := ht
      obtain ⟨hb, hle, hmax⟩ := hc
      have hraw : ∀ i, i < len → ∃ vs xs, HasTy e vs ∧ EncL (M0 fm) w vs xs ∧ w.cells? 0 (a.add (i * P.cellsOf el)) (P.cellsOf el) = some xs := by
        intro i hi
        have := mapM_some_get hel i i (by rw [List.getElem?_range hi])
        cases he : elems[i]? with
        | none => rw [List.getElem?_eq_none_iff] at he; omega
        | some p =>
          rw [he] at this
          rw [Option.bind_eq_some_iff] at this
          obtain ⟨xs, hxs, htr⟩ := this
          obtain ⟨d', p'⟩ := p
          obtain ⟨vs, h1, h2⟩ := open_ty ht htr
          exact ⟨vs, xs, h1, h2, hxs⟩
      have hsp : 0 < len → a.spot = none := by
        intro h0
        obtain ⟨vs, xs, _, _, hxs⟩ := hraw 0 h0
        obtain ⟨hl, hget⟩ := cells?_range hxs
        have h3 := hget 0 _ (List.getElem?_eq_getElem (by omega))
        have : (a.add (0 * P.cellsOf el)).add 0 = a := by simp [Addr.add]
        rw [this] at h3
        exact World.cell?_spot h3
      have hone : ∀ i, i < len → ∃ vs, HasTy e vs ∧ vs.length = P.cellsOf el ∧ EncRow (M0 fm) w a.block vs (a.off + i * P.cellsOf el) := by
        intro i hi
        obtain ⟨vs, xs, h1, h2, hxs⟩ := hraw i hi
        obtain ⟨hl, hget⟩ := cells?_range hxs
        have hsp := hsp (by omega)
        obtain ⟨ab, ao, asp⟩ := a
        simp only at hsp
        subst hsp
        refine ⟨vs, h1, by have := encL_length h2; omega, encRow_of fun j c hc => ?_⟩
        obtain ⟨x, hx, he⟩ := encL_get h2 hc
        have := hget j x hx
        rw [Addr.add_lit, Addr.add_mid] at this
        exact ⟨x, this, rd0 fm _ _, he⟩
      obtain ⟨es, hesl, hes⟩ := choose_list len hone
      have hall : ∀ x ∈ es, HasTy e x ∧ x.length = P.cellsOf el := by
        intro x hx
        obtain ⟨i, hi⟩ := List.getElem?_of_mem hx
        exact ⟨(hes i x hi).1, (hes i x hi).2.1⟩
      refine ⟨[.vs es .no], by simp only [HasTy]; exact ⟨es, rfl, by omega, fun x hx => (hall x hx).1⟩, ?_⟩
      simp only [EncL, Enc]
      refine ⟨_, [], rfl, ⟨fun f hf => HasTy.pure (hall f hf).1, some a, cap, by rw [hesl], by omega, ⟨?_, ⟨_, fun x hx => (hall x hx).2⟩, encRows_of (fun x hx => (hall x hx).2) fun i x hx => (hes i x hx).2.2⟩, trivial⟩, rfl⟩
      by_cases h0 : 0 < len
      · exact .inr (hsp h0)
      · exact .inl (List.eq_nil_of_length_eq_zero (by omega))
  | .agg fs, fuel + 1, t, cs, d, ps, ht, h => by
    simp only [tyIs] at ht
    split at ht
    case h_2 => cases ht
    rename_i gs hu
    unfold DataW.trod at h
    rw [hu] at h
    simp only at h
    split at h
    case isFalse => cases h
    rename_i hlen
    rw [Option.map_eq_some_iff] at h
    obtain ⟨xs, hxs, _⟩ := h
    obtain ⟨vs, h1, h2⟩ := open_tys ht hxs hlen
    exact ⟨vs, by simp only [HasTy]; exact h1, by simpa using h2⟩
  | .arr n e, fuel + 1, t, cs, d, ps, ht, h => by
    simp only [tyIs] at ht
    split at ht
    case h_2 => cases ht
    rename_i m el hu
    simp only [Bool.and_eq_true, beq_iff_eq] at ht
    obtain ⟨⟨rfl, hsz⟩, ht⟩ := ht
    unfold DataW.trod at h
    rw [hu] at h
    simp only at h
    split at h
    case isFalse => cases h
    rename_i hlen
    rw [Option.map_eq_some_iff] at h
    obtain ⟨xs, hxs, _⟩ := h
    have hone : ∀ i, i < m → ∃ vs, HasTy e vs ∧ EncL (M0 fm) w vs ((cs.drop (i * P.cellsOf el)).take (P.cellsOf el)) := by
      intro i hi
      have := mapM_some_get hxs i i (by rw [List.getElem?_range hi])
      cases he : xs[i]? with
      | none => rw [List.getElem?_eq_none_iff] at he; have := mapM_some_length hxs; simp at this; omega
      | some p =>
        rw [he] at this
        obtain ⟨d', p'⟩ := p
        exact open_ty ht this
    obtain ⟨es, hesl, hes⟩ := choose_list m hone
    have hty : HasTy (.arr m e) es.flatten := by
      simp only [HasTy]
      refine ⟨es, rfl, hesl, fun x hx => ?_⟩
      obtain ⟨i, hi⟩ := List.getElem?_of_mem hx
      exact (hes i x hi).1
    exact ⟨es.flatten, hty, encL_chunks (c := P.cellsOf el) (by rw [hlen, hsz, hesl]) fun i x hx => (hes i x hx).2⟩
theorem open_tys : ∀ {fs : List Ty} {gs : List Field} {all off fuel : Nat} {cs : List Value} {xs : List (DataW H × List MemPlace)}, fieldsAre P all off gs fs = true →
    (gs.mapM fun f => DataW.trod enc P w 0 (fun _ => true) true fuel f.type ((cs.drop f.offset).take (P.cellsOf f.type))) = some xs → cs.length = all →
    ∃ vs, HasTys fs vs ∧ EncL (M0 fm) w vs (cs.drop off)
  | [], [], all, off, fuel, cs, xs, hf, h, hl => by
    simp only [fieldsAre, beq_iff_eq] at hf
    exact ⟨[], by simp only [HasTys], by simp only [EncL]; rw [List.drop_eq_nil_iff]; omega⟩
  | [], _ :: _, _, _, _, _, _, hf, _, _ => by simp [fieldsAre] at hf
  | _ :: _, [], _, _, _, _, _, hf, _, _ => by simp [fieldsAre] at hf
  | t :: ts, g :: gs, all, off, fuel, cs, xs, hf, h, hl => by
    simp only [fieldsAre, Bool.and_eq_true, beq_iff_eq] at hf
    obtain ⟨⟨hoff, hty⟩, hf⟩ := hf
    rw [List.mapM_cons] at h
    simp only [Option.bind_eq_bind, Option.bind_eq_some_iff] at h
    obtain ⟨x, hx, ys, hys, _⟩ := h
    obtain ⟨d, p⟩ := x
    obtain ⟨a, h1, h2⟩ := open_ty hty hx
    obtain ⟨b, h3, h4⟩ := open_tys hf hys hl
    have hty' : HasTys (t :: ts) (a ++ b) := by
      simp only [HasTys]
      exact ⟨a, b, rfl, h1, h3⟩
    rw [hoff] at h2
    rw [← List.drop_drop] at h4
    exact ⟨a ++ b, hty', encL_take_drop (k := P.cellsOf g.type) h2 h4⟩
end
end

end Go.Ev
