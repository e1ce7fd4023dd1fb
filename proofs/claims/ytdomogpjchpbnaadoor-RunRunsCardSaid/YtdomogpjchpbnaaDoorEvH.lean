/- Slice literals; the checker of one operation as a whole. -/
import Derived.Test.YtdomogpjchpbnaaDoorEvG
namespace Go.Ev
open Go Go.RowKit

variable {P : Program} {M M' : Mm} {H H1 : Heap} {w w' : World}
variable {e : Env} {a : Act} {n : Nat} {o : Oper} {v : V}

theorem flat_rep {α : Type} (z : List α) : ∀ (k i : Nat), i < k * z.length → (List.replicate k z).flatten[i]? = z[i % z.length]?
  | 0, i, h => by simp at h
  | k + 1, i, h => by
    rw [List.replicate_succ, List.flatten_cons]
    by_cases hi : i < z.length
    · rw [List.getElem?_append_left hi, Nat.mod_eq_of_lt hi]
    · rw [List.getElem?_append_right (by omega), flat_rep z k (i - z.length) (by rw [Nat.add_mul, Nat.one_mul] at h; omega), Nat.mod_eq_sub_mod (by omega : i ≥ z.length)]

theorem fillE_flat {sz : Nat} : ∀ {qs : List (Nat × X)} {es fs : List (List V)}, (∀ e ∈ es, e.length = sz) → (∀ f ∈ es, ∀ c ∈ f, c.pure = true) → fillE e sz es qs = some fs →
    fillC e es.flatten (qs.map fun q => (q.1 * sz, sz, q.2)) = some fs.flatten ∧ fs.length = es.length ∧ (∀ e ∈ fs, e.length = sz) ∧ (∀ f ∈ fs, ∀ c ∈ f, c.pure = true)
  | [], es, fs, hs, hp, h => by
    simp only [fillE, Option.some.injEq] at h
    subst h
    exact ⟨rfl, rfl, hs, hp⟩
  | (i, x) :: qs, es, fs, hs, hp, h => by
    simp only [fillE] at h
    split at h
    case h_2 => cases h
    rename_i ds hds
    split at h
    case isFalse => cases h
    rename_i hc
    obtain ⟨hi, hl, hpu⟩ := hc
    have hs' : ∀ e ∈ es.set i ds, e.length = sz := by
      intro f hf
      rcases List.mem_or_eq_of_mem_set hf with hf | rfl
      · exact hs f hf
      · exact hl
    have hp' : ∀ f ∈ es.set i ds, ∀ c ∈ f, c.pure = true := by
      intro f hf
      rcases List.mem_or_eq_of_mem_set hf with hf | rfl
      · exact hp f hf
      · exact List.all_eq_true.1 hpu
    obtain ⟨h1, h2, h3, h4⟩ := fillE_flat hs' hp' h
    refine ⟨?_, by rw [h2]; simp, h3, h4⟩
    simp only [List.map_cons, fillC, hds]
    have hfl := flatten_len hs
    have hlt : i * sz + sz ≤ es.length * sz := by
      have : (i + 1) * sz ≤ es.length * sz := Nat.mul_le_mul_right _ hi
      rw [Nat.add_mul, Nat.one_mul] at this
      exact this
    rw [if_pos ⟨hl, by rw [hfl, hl]; exact hlt⟩]
    have hset : (es.set i ds).flatten = es.flatten.take (i * sz) ++ ds ++ es.flatten.drop (i * sz + ds.length) := by
      have e1 : es = es.take i ++ es[i] :: es.drop (i + 1) := by rw [List.getElem_cons_drop, List.take_append_drop]
      have t1 : (es.take i).flatten.length = i * sz := by
        rw [flatten_len (sz := sz) (fun f hf => hs f (List.mem_of_mem_take hf)), List.length_take, Nat.min_eq_left (by omega)]
      have t2 : es[i].length = sz := hs _ (List.getElem_mem hi)
      have e2 : es.set i ds = es.take i ++ ds :: es.drop (i + 1) := List.set_eq_take_append_cons_drop ▸ by rw [if_pos hi]
      rw [e2]
      have e3 : es.flatten = (es.take i).flatten ++ (es[i] ++ (es.drop (i + 1)).flatten) := by
        have := congrArg List.flatten e1
        rw [List.flatten_append, List.flatten_cons] at this
        exact this
      rw [e3]
      simp only [List.flatten_append, List.flatten_cons]
      rw [← t1, List.take_left, hl, ← t2, List.drop_append, ]
      simp
    rw [← hset]
    exact h1

/-- The cells of so many zero elements. -/
theorem enc_rep {z : List V} {zc : Array Value} (hzz : encSs zc.toList z = true) (hz0 : 0 < z.length) (k : Nat) :
    EncL M w (List.replicate k z).flatten ((Array.range (k * z.length)).map (fun j => zc[j % zc.size]!)).toList := by
  have hzl : zc.size = z.length := by
    have := encL_length (encSs_encL (M := M) (w := w) hzz)
    simpa using this
  refine encL_of ?_ fun j c x hc hx => ?_
  · rw [flatten_len (sz := z.length) (fun f hf => by rw [List.eq_of_mem_replicate hf])]
    simp
  · have hj : j < k * z.length := by
      have := (List.getElem?_eq_some_iff.1 hc).1
      rw [flatten_len (sz := z.length) (fun f hf => by rw [List.eq_of_mem_replicate hf]), List.length_replicate] at this
      exact this
    rw [flat_rep z k j hj] at hc
    obtain ⟨x', hx', he⟩ := encL_get (encSs_encL (M := M) (w := w) hzz) hc
    have hm : j % z.length < zc.size := by rw [hzl]; exact Nat.mod_lt _ hz0
    have : x = x' := by
      simp only [Array.toList_map, Array.toList_range, List.getElem?_map] at hx
      rw [List.getElem?_range hj] at hx
      simp only [Option.map_some, Option.some.injEq] at hx
      rw [← hx, hzl]
      rw [getElem!_pos zc _ hm]
      simp only [Array.getElem?_toList] at hx'
      rw [Array.getElem?_eq_getElem hm] at hx'
      simpa using hx'
    rw [this]
    exact he

theorem mksl_ok {t el : TypeId} {l c : Operand} {sx : X} {s base bytes : Nat} {z : List V} {i : TypeInfo} {zv : Value} (ho : o.op = .makeSlice t l c) (hl : chkX M.fm l sx = true) (hc : chkX M.fm c sx = true)
    (hu0 : elemOf? P t = some el) (hi : P.info? el = some i) (hsz : i.size = z.length) (hby : i.bytes = bytes) (hb0 : 0 < bytes) (hz0 : 0 < z.length) (hz : i.zero = some zv) (hzz : encSs zv.cells.toList z = true)
    (ht : RelT M w e a n) (hr : HRel M w H) (hv : ev1 base e H (.mksl s bytes z sx) = some (v, H1)) : OpOk P o a M H w v H1 := by
  have hu := elemOf?_some hu0
  have hl' := chkX_enc hl ht
  have hc' := chkX_enc hc ht
  simp only [ev1] at hv
  split at hv
  case h_2 => cases hv
  rename_i kd k hk
  split at hv
  case isFalse => cases hv
  rename_i hcond
  obtain ⟨hf, h0, hle⟩ := hcond
  cases hv
  rw [hk] at hl' hc'
  simp only [Enc] at hl' hc'
  have hkn : k.toNat ≤ 140737488355328 := Nat.le_trans (Nat.le_mul_of_pos_right _ hb0) hle
  have hbytes : (i.bytes : Int) * k ≤ 281474976710656 := by
    rw [hby]
    have h1 : ((k.toNat * bytes : Nat) : Int) = (bytes : Int) * k := by
      rw [Int.natCast_mul, Int.toNat_of_nonneg h0, Int.mul_comm]
    omega
  have hrun := run_make (P := P) w t el i zv hu hi hz kd kd k k h0 (Int.le_refl _) hbytes (by omega)
  have hcells : madeCells zv.cells (k.toNat * i.size) = (Array.range (k.toNat * z.length)).map (fun j => zv.cells[j % zv.cells.size]!) := by rw [hsz]; rfl
  rw [hcells] at hrun
  obtain ⟨st, ii, r⟩ := stp_alc (t := el) hr hf (enc_rep hzz hz0 k.toNat) (fun c hc => by
    obtain ⟨f, hf, hc⟩ := List.mem_flatten.1 hc
    rw [List.eq_of_mem_replicate hf] at hc
    exact V.scal_of_pure (encSs_pure hzz c hc))
  refine ⟨.value (.slice (some ⟨w.heap.size, 0, none⟩) k.toNat k.toNat), _, _, ?_, ?_, st, ii, r⟩
  · simp only [execOp, ho, hl', hc', Sem.run_bind, Sem.run_pure, hrun, Result.andThen_ok]
  · simp only [Enc, Mm.alc, decide_true, Bool.true_or, if_true, true_and]
    exact ⟨k.toNat, rfl, Nat.le_refl _⟩

theorem bslice_ok {t el : TypeId} {k base : Nat} {ps : Array (Nat × Operand)} {z : List V} {qs : List (Nat × X)} {i : TypeInfo} {zv : Value} (ho : o.op = .buildSlice t k ps)
    (hu0 : elemOf? P t = some el) (hi : P.info? el = some i) (hsz : i.size = z.length) (hz0 : 0 < z.length) (hk : k * z.length ≤ 16777216) (hz : i.zero = some zv) (hzz : encSs zv.cells.toList z = true)
    (hp : chkParts M.fm (fun j => some (j * z.length, z.length)) ps.toList (qs.map fun q => (q.1 * z.length, z.length, q.2)) = true)
    (ht : RelT M w e a n) (hr : HRel M w H) (hv : ev1 base e H (.bslice k z qs) = some (v, H1)) : OpOk P o a M H w v H1 := by
  have hu := elemOf?_some hu0
  simp only [ev1] at hv
  split at hv
  case h_2 => cases hv
  rename_i es hes
  cases hv
  have hzp := encSs_pure hzz
  obtain ⟨h1, h2, h3, h4⟩ := fillE_flat (fun f hf => by rw [List.eq_of_mem_replicate hf]) (fun f hf => by rw [List.eq_of_mem_replicate hf]; exact hzp) hes
  rw [List.length_replicate] at h2
  have hzl : zv.cells.size = z.length := by
    have := encL_length (encSs_encL (M := M) (w := w) hzz)
    simpa using this
  -- the cells at first
  have hinit : EncL M w (List.replicate k z).flatten ((Array.range (k * i.size)).map (fun j => zv.cells[j % zv.cells.size]!)).toList := by
    refine encL_of ?_ fun j c x hc hx => ?_
    · rw [flatten_len (sz := z.length) (fun f hf => by rw [List.eq_of_mem_replicate hf])]
      simp [hsz]
    · have hj : j < k * z.length := by
        have := (List.getElem?_eq_some_iff.1 hc).1
        rw [flatten_len (sz := z.length) (fun f hf => by rw [List.eq_of_mem_replicate hf]), List.length_replicate] at this
        exact this
      rw [flat_rep z k j hj] at hc
      obtain ⟨x', hx', he⟩ := encL_get (encSs_encL (M := M) (w := w) hzz) hc
      have hm : j % z.length < zv.cells.size := by rw [hzl]; exact Nat.mod_lt _ hz0
      have : x = x' := by
        simp only [Array.toList_map, Array.toList_range, List.getElem?_map, hsz] at hx
        rw [List.getElem?_range hj] at hx
        simp only [Option.map_some, Option.some.injEq] at hx
        rw [← hx, hzl]
        rw [getElem!_pos zv.cells _ hm]
        simp only [Array.getElem?_toList] at hx'
        rw [Array.getElem?_eq_getElem hm] at hx'
        simpa using hx'
      rw [this]
      exact he
  obtain ⟨ys, hf, hy, _⟩ := fill_ok (w := w) ht hp h1 hinit (fun c hc => by
    obtain ⟨f, hf, hc⟩ := List.mem_flatten.1 hc
    rw [List.eq_of_mem_replicate hf] at hc
    exact V.scal_of_pure (hzp c hc))
  have hrun : (execOp a.eval o).run P w = .ok (.value (.slice (some ⟨w.heap.size, 0, none⟩) k k)) (w.alloc (.cells ys el)) := by
    have hmap : (ps.map fun p => (p.1, a.eval p.2)).toList = ps.toList.map fun p => (p.1, a.eval p.2) := by simp
    have hb : (Instr.buildSlice t k (ps.map fun p => (p.1, a.eval p.2))).run P w = .ok (.slice (some ⟨w.heap.size, 0, none⟩) k k) (w.alloc (.cells ys el)) := by
      unfold Instr.buildSlice
      rw [← hmap] at hf
      simp only [Sem.run_bind, run_underlying hu, Result.andThen_ok, sizeOf, typeInfo, run_program, hi, Sem.run_pure]
      rw [if_neg (by rw [hsz]; omega)]
      have hfin : ∀ xs : Array Value, Instr.fill (fun i_1 => some (i_1 * i.size, i.size)) xs (ps.map fun p => (p.1, a.eval p.2)).toList = some ys →
          Sem.run P (match Instr.fill (fun i_1 => some (i_1 * i.size, i.size)) xs (ps.map fun p => (p.1, a.eval p.2)).toList with
            | some cells => (do pure (.slice (some (← newRow el cells)) k k) : Sem Value)
            | _ => stuck "buildSlice: a part of the wrong size") w = .ok (.slice (some ⟨w.heap.size, 0, none⟩) k k) (w.alloc (.cells ys el)) := by
        intro xs hx
        rw [hx]
        simp [newRow]
      by_cases hkz : k * i.size = 0
      · rw [if_pos hkz]
        have hxs : (Array.range (k * i.size)).map (fun j => (#[] : Array Value)[j % (#[] : Array Value).size]!) = (Array.range (k * i.size)).map (fun j => zv.cells[j % zv.cells.size]!) := by
          apply Array.ext'
          rw [hkz]
          simp
        rw [Sem.run_bind, Sem.run_pure, Result.andThen_ok]
        refine hfin _ ?_
        rw [hxs]
        simpa [hsz] using hf
      · rw [if_neg hkz]
        simp only [Sem.run_bind, zeroValue, typeInfo, run_program, hi, hz, Sem.run_pure, Result.andThen_ok]
        refine hfin _ ?_
        simpa [hsz] using hf
    simp only [execOp, ho, Sem.run_bind, Sem.run_pure]
    change (Result.andThen ((Instr.buildSlice t k (ps.map fun p => (p.1, a.eval p.2))).run P w) _) = _
    rw [hb]
    rfl
  obtain ⟨st, ii, r⟩ := stp_same (M' := M.lims w.heap.size none) hr (Grew.alloc w (.cells ys el)) (Same.lims M _ _)
  refine ⟨_, _, _, hrun, ?_, st, ii, r⟩
  simp only [Enc]
  refine ⟨h4, some ⟨w.heap.size, 0, none⟩, k, by rw [h2], by omega, ⟨.inr rfl, ⟨z.length, h3⟩, ?_⟩, by simp only [TkOk]; exact h2.symm⟩
  refine encL_rows (EncL.step st hr ii hy) ?_ ?_
  · intro j u hu
    rw [cell_of_row _ w.heap.size (0 + j) _ el (0, 0) (heap_alloc_new w _)]
    simpa using hu
  · intro j _ l hl
    simp [Mm.lims] at hl

end Go.Ev
