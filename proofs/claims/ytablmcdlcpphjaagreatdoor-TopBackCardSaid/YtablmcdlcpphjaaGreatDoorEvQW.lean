/- Canonical data of some shapes, as lists of numbers. -/
import Derived.Test.YtablmcdlcpphjaaGreatDoorEvTW
import Derived.LaidMore
import Derived.Stop.Joined
set_option linter.unusedVariables false
set_option linter.unusedSimpArgs false
namespace Go.Ev
open Go Go.RowKit
theorem u32_wf {n : Int} (h : (Lit.int .u32 n).wf = true) : 0 ≤ n ∧ n < 4294967296 := by
 simp [Lit.wf, IntKind.min, IntKind.max, IntKind.signed, IntKind.bits] at h
 omega
theorem zip_all {P : Program} {tys : List Ty} {ts : List TypeId} (h : (tys.zip ts).all (fun x => tyIs P x.2 x.1) = true) : ∀ (i : Nat) (ty : Ty) (t : TypeId), tys[i]? = some ty → ts[i]? = some t → tyIs P t ty = true := by
 intro i ty t h1 h2
 have hm : (ty, t) ∈ tys.zip ts := List.mem_of_getElem? (i := i) (by rw [List.getElem?_zip_eq_some]; exact ⟨h1, h2⟩)
 exact (List.all_eq_true.1 h) _ hm
end Go.Ev
/- A global variable whose reading is known: its cells. -/
namespace Go.Ev
open Go Go.RowKit
set_option linter.unusedSimpArgs false
set_option linter.unusedVariables false
variable {P : Program} {w : World} {fm : Fm}
def canD {H : Type} : Nat → DataW H → Option (List V)
 | _, .lit (.int k n) => some [.int k n]
 | _, .lit (.bool b) => some [.bool b]
 | _, .lit (.string s) => some [.str s]
 | k + 1, .agg ds => (ds.mapM (canD k)).map List.flatten
 | _, _ => none
section
variable {H : Type} {enc : TypeId × Value → H} {sp : Nat → Bool} {hd : Bool}
mutual
theorem open_can : ∀ {ty : Ty} {fuel k : Nat} {t : TypeId} {cs : List Value} {d : DataW H} {ps : List MemPlace} {vs : List V}, tyIs P t ty = true → DataW.trod enc P w 0 sp hd fuel t cs = some (d, ps) → canD k d = some vs →
  EncL (M0 fm) w vs cs
 | ty, 0, k, t, cs, d, ps, vs, _, h, _ => by simp [DataW.trod] at h
 | .int kd, fuel + 1, k, t, cs, d, ps, vs, ht, h, hc => by
  simp only [tyIs] at ht
  have hu := isInt_spec ht
  unfold DataW.trod at h
  rw [hu] at h
  split at h <;> try (simp_all; done)
  rename_i k0 k' n hk
  cases hk
  split at h
  case isFalse => cases h
  rename_i hw
  obtain ⟨rfl, hw⟩ := hw
  cases h
  simp only [canD, Option.some.injEq] at hc
  subst hc
  simp [EncL, Enc]
 | .bool, fuel + 1, k, t, cs, d, ps, vs, ht, h, hc => by
  simp only [tyIs] at ht
  have hu := isBool_spec ht
  unfold DataW.trod at h
  rw [hu] at h
  split at h <;> simp_all
  rename_i b
  obtain ⟨rfl, _⟩ := h
  simp only [canD, Option.some.injEq] at hc
  subst hc
  simp [EncL, Enc]
 | .str, fuel + 1, k, t, cs, d, ps, vs, ht, h, hc => by
  simp only [tyIs] at ht
  have hu := isStr_spec ht
  unfold DataW.trod at h
  rw [hu] at h
  split at h <;> simp_all
  rename_i s
  obtain ⟨_, rfl, _⟩ := h
  simp only [canD, Option.some.injEq] at hc
  subst hc
  simp [EncL, Enc]
 | .sl e, fuel + 1, k, t, cs, d, ps, vs, ht, h, hc => by
  simp only [tyIs] at ht
  split at ht
  case h_2 => cases ht
  rename_i el hu
  unfold DataW.trod at h
  rw [hu] at h
  split at h <;> try (simp_all; done)
  ·cases h; cases k <;> simp [canD] at hc
  ·rename_i el' a len cap hx
   cases hx
   simp only at h
   split at h
   case isFalse => cases h
   rw [Option.bind_eq_some_iff] at h
   obtain ⟨elems, hel, h⟩ := h
   rw [Option.map_eq_some_iff] at h
   obtain ⟨r, _, h⟩ := h
   cases h; cases k <;> simp [canD] at hc
 | .agg fs, fuel + 1, k, t, cs, d, ps, vs, ht, h, hc => by
  simp only [tyIs] at ht
  split at ht
  case h_2 => cases ht
  rename_i gs hu
  unfold DataW.trod at h
  rw [hu] at h
  simp only at h
  split at h
  case isFalse => cases h
  rename_i hlen
  rw [Option.map_eq_some_iff] at h
  obtain ⟨xs, hxs, h⟩ := h
  cases h
  cases k with
  | zero => simp [canD] at hc
  | succ k =>
   simp only [canD] at hc
   rw [Option.map_eq_some_iff] at hc
   obtain ⟨es, hes, rfl⟩ := hc
   simpa using open_cans (off := 0) ht hxs hlen hes
 | .arr n e, fuel + 1, k, t, cs, d, ps, vs, ht, h, hc => by
  simp only [tyIs] at ht
  split at ht
  case h_2 => cases ht
  rename_i m el hu
  simp only [Bool.and_eq_true, beq_iff_eq] at ht
  obtain ⟨⟨rfl, hsz⟩, ht⟩ := ht
  unfold DataW.trod at h
  rw [hu] at h
  simp only at h
  split at h
  case isFalse => cases h
  rename_i hlen
  rw [Option.map_eq_some_iff] at h
  obtain ⟨xs, hxs, h⟩ := h
  cases h
  cases k with
  | zero => simp [canD] at hc
  | succ k =>
   simp only [canD] at hc
   rw [Option.map_eq_some_iff] at hc
   obtain ⟨es, hes, rfl⟩ := hc
   have hl1 := mapM_some_length hxs
   have hl2 := mapM_some_length hes
   simp only [List.length_range, List.length_map] at hl1 hl2
   refine encL_chunks (c := P.cellsOf el) (by rw [hlen, hsz]; congr 1; omega) fun i x hx => ?_
   have hi : i < m := by have := (List.getElem?_eq_some_iff.1 hx).1; omega
   have h1 := mapM_some_get hxs i i (by rw [List.getElem?_range hi])
   cases he : xs[i]? with
   | none => rw [List.getElem?_eq_none_iff] at he; omega
   | some p =>
    rw [he] at h1
    obtain ⟨d', p'⟩ := p
    have h2 := mapM_some_get hes i d' (by rw [List.getElem?_map, he]; rfl)
    rw [hx] at h2
    exact open_can ht h1 h2
theorem open_cans : ∀ {fs : List Ty} {gs : List Field} {all off fuel k : Nat} {cs : List Value} {xs : List (DataW H × List MemPlace)} {es : List (List V)}, fieldsAre P all off gs fs = true →
  (gs.mapM fun f => DataW.trod enc P w 0 sp hd fuel f.type ((cs.drop f.offset).take (P.cellsOf f.type))) = some xs → cs.length = all → (xs.map (·.1)).mapM (canD k) = some es →
  EncL (M0 fm) w es.flatten (cs.drop off)
 | [], [], all, off, fuel, k, cs, xs, es, hf, h, hl, hc => by
  simp only [fieldsAre, beq_iff_eq] at hf
  simp at h; subst h
  simp at hc; subst hc
  simp only [List.flatten_nil, EncL]; rw [List.drop_eq_nil_iff]; omega
 | [], _ :: _, _, _, _, _, _, _, _, hf, _, _, _ => by simp [fieldsAre] at hf
 | _ :: _, [], _, _, _, _, _, _, _, hf, _, _, _ => by simp [fieldsAre] at hf
 | t :: ts, g :: gs, all, off, fuel, k, cs, xs, es, hf, h, hl, hc => by
  simp only [fieldsAre, Bool.and_eq_true, beq_iff_eq] at hf
  obtain ⟨⟨hoff, hty⟩, hf⟩ := hf
  rw [List.mapM_cons] at h
  simp only [Option.bind_eq_bind, Option.bind_eq_some_iff] at h
  obtain ⟨x, hx, ys, hys, h⟩ := h
  simp only [Option.pure_def, Option.some.injEq] at h
  subst h
  rw [List.map_cons, List.mapM_cons] at hc
  simp only [Option.bind_eq_bind, Option.bind_eq_some_iff] at hc
  obtain ⟨a, ha, bs, hbs, hc⟩ := hc
  simp only [Option.pure_def, Option.some.injEq] at hc
  subst hc
  obtain ⟨d, p⟩ := x
  have h1 := open_can hty hx ha
  have h2 := open_cans hf hys hl hbs
  rw [hoff] at h1
  rw [← List.drop_drop] at h2
  rw [List.flatten_cons]
  exact encL_take_drop (k := P.cellsOf g.type) h1 h2
end
end
theorem gok_one {n : String} {d : DataW Unit} {g0 : Nat} {t0 : TypeId} {ty : Ty} {cs : List V} (h : laidMetH P [(n, d)] w) (hp : ([(n, d)].all fun x => x.2.handleName?.isNone) = true) (hg0 : P.globalNamed n = some g0) (ht0 : (P.globals[g0]?).map (·.type) = some t0)
  (hty : tyIs P t0 ty = true) {k : Nat} (hc : canD k d = some cs) (hpu : ∀ c ∈ cs, c.pure = true) (hfm : ∀ g c, fm.gl g = some c → g = g0 ∧ c = cs) : GOk (M0 fm) w := by
 rw [MakeChecks.laidMetH_plain _ _ _ hp] at h
 obtain ⟨ps, ⟨g, t, cs0, fuel, p, q, hg, ht, hv, hd, _, _⟩, _, _⟩ := h
 obtain rfl := Option.some.inj (hg0.symm.trans hg)
 obtain rfl := Option.some.inj (ht0.symm.trans ht)
 have he := open_can (fm := fm) hty hd hc
 intro g1 c hgc
 obtain ⟨e1, rfl⟩ := hfm g1 c hgc
 rw [e1]
 simp only [Enc]
 refine ⟨hpu, _, 0, rfl, encRow_of fun i c' hc' => ?_⟩
 obtain ⟨x, hx, hex⟩ := encL_get he hc'
 have hcell := World.var?_cell hg0 hv i
 refine ⟨x, ?_, fun l hl => by simp [M0] at hl, hex⟩
 rw [Nat.zero_add, hcell]
 simpa using hx
end Go.Ev
