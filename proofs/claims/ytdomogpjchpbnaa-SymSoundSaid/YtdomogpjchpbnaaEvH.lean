/- Slice literals; the checker of one operation as a whole. -/
import Derived.Test.YtdomogpjchpbnaaEvG
namespace Go.Ev
open Go Go.RowKit

variable {P : Program} {M M' : Mm} {H H1 : Heap} {w w' : World}
variable {e : Env} {a : Act} {n : Nat} {o : Oper} {v : V}

theorem flat_rep {α : Type} (z : List α) : ∀ (k i : Nat), i < k * z.length → (List.replicate k z).flatten[i]? = z[i % z.length]?
  | 0, i, h => by simp at h
  | k + 1, i, h => by
    rw [List.replicate_succ, List.flatten_cons]
    by_cases hi : i < z.length
    · rw [List.getElem?_append_left hi, Nat.mod_eq_of_lt hi]
    · rw [List.getElem?_append_right (by omega), flat_rep z k (i - z.length) (by rw [Nat.add_mul, Nat.one_mul] at h; omega), Nat.mod_eq_sub_mod (by omega : i ≥ z.length)]

theorem fillE_flat {sz : Nat} : ∀ {qs : List (Nat × X)} {es fs : List (List V)}, (∀ e ∈ es, e.length = sz) → (∀ f ∈ es, ∀ c ∈ f, c.pure = true) → fillE e sz es qs = some fs →
    fillC e es.flatten (qs.map fun q => (q.1 * sz, sz, q.2)) = some fs.flatten ∧ fs.length = es.length ∧ (∀ e ∈ fs, e.length = sz) ∧ (∀ f ∈ fs, ∀ c ∈ f, c.pure = true)
  | [], es, fs, hs, hp, h => by
    simp only [fillE, Option.some.injEq] at h
    subst h
    exact ⟨rfl, rfl, hs, hp⟩
  | (i, x) :: qs, es, fs, hs, hp, h => by
    simp only [fillE] at h
    split at h
    case h_2 => cases h
    rename_i ds hds
    split at h
    case isFalse => cases h
    rename_i hc
    obtain ⟨hi, hl, hpu⟩ := hc
    have hs' : ∀ e ∈ es.set i ds, e.length = sz := by
      intro f hf
      rcases List.mem_or_eq_of_mem_set hf with hf | rfl
      · exact hs f hf
      · exact hl
    have hp' : ∀ f ∈ es.set i ds, ∀ c ∈ f, c.pure = true := by
      intro f hf
      rcases List.mem_or_eq_of_mem_set hf with hf | rfl
      · exact hp f hf
      · exact List.all_eq_true.1 hpu
    obtain ⟨h1, h2, h3, h4⟩ := fillE_flat hs' hp' h
    refine ⟨?_, by rw [h2]; simp, h3, h4⟩
    simp only [List.map_cons, fillC, hds]
    have hfl := flatten_len hs
    have hlt : i * sz + sz ≤ es.length * sz := by
      have : (i + 1) * sz ≤ es.length * sz := Nat.mul_le_mul_right _ hi
      rw [Nat.add_mul, Nat.one_mul] at this
      exact this
    rw [if_pos ⟨hl, by rw [hfl, hl]; exact hlt⟩]
    have hset : (es.set i ds).flatten = es.flatten.take (i * sz) ++ ds ++ es.flatten.drop (i * sz + ds.length) := by
      have e1 : es = es.take i ++ es[i] :: es.drop (i + 1) := by rw [List.getElem_cons_drop, List.take_append_drop]
      have t1 : (es.take i).flatten.length = i * sz := by
        rw [flatten_len (sz := sz) (fun f hf => hs f (List.mem_of_mem_take hf)), List.length_take, Nat.min_eq_left (by omega)]
      have t2 : es[i].length = sz := hs _ (List.getElem_mem hi)
      have e2 : es.set i ds = es.take i ++ ds :: es.drop (i + 1) := List.set_eq_take_append_cons_drop ▸ by rw [if_pos hi]
      rw [e2]
      have e3 : es.flatten = (es.take i).flatten ++ (es[i] ++ (es.drop (i + 1)).flatten) := by
        have := congrArg List.flatten e1
        rw [List.flatten_append, List.flatten_cons] at this
        exact this
      rw [e3]
      simp only [List.flatten_append, List.flatten_cons]
      rw [← t1, List.take_left, hl, ← t2, List.drop_append, ]
      simp
    rw [← hset]
    exact h1

/-- The cells of so many zero elements. -/
theorem enc_rep {z : List V} {zc : Array Value} (hzz : encSs zc.toList z = true) (hz0 : 0 < z.length) (k : Nat) :
    EncL M w (List.replicate k z).flatten ((Array.range (k * z.length)).map (fun j => zc[j % zc.size]!)).toList := by
  have hzl : zc.size = z.length := by
    have := encL_length (encSs_encL (M := M) (w := w) hzz)
    simpa using this
  refine encL_of ?_ fun j c x hc hx => ?_
  · rw [flatten_len (sz := z.length) (fun f hf => by rw [List.eq_of_mem_replicate hf])]
    simp
  · have hj : j < k * z.length := by
      have := (List.getElem?_eq_some_iff.1 hc).1
      rw [flatten_len (sz := z.length) (fun f hf => by rw [List.eq_of_mem_replicate hf]), List.length_replicate] at this
      exact this
    rw [flat_rep z k j hj] at hc
    obtain ⟨x', hx', he⟩ := encL_get (encSs_encL (M := M) (w := w) hzz) hc
    have hm : j % z.length < zc.size := by rw [hzl]; exact Nat.mod_lt _ hz0
    have : x = x' := by
      simp only [Array.toList_map, Array.toList_range, List.getElem?_map] at hx
      rw [List.getElem?_range hj] at hx
      simp only [Option.map_some, Option.some.injEq] at hx
      rw [← hx, hzl]
      rw [getElem!_pos zc _ hm]
      simp only [Array.getElem?_toList] at hx'
      rw [Array.getElem?_eq_getElem hm] at hx'
      simpa using hx'
    rw [this]
    exact he

theorem mksl_ok {t el : TypeId} {l c : Operand} {sx : X} {s base bytes : Nat} {z : List V} {i : TypeInfo} {zv : Value} (ho : o.op = .makeSlice t l c) (hl : chkX M.fm l sx = true) (hc : chkX M.fm c sx = true)
    (hu0 : elemOf? P t = some el) (hi : P.info? el = some i) (hsz : i.size = z.length) (hby : i.bytes = bytes) (hb0 : 0 < bytes) (hz0 : 0 < z.length) (hz : i.zero = some zv) (hzz : encSs zv.cells.toList z = true)
    (ht : RelT M w e a n) (hr : HRel M w H) (hv : ev1 base e H (.mksl s bytes z sx) = some (v, H1)) : OpOk P o a M H w v H1 := by
  have hu := elemOf?_some hu0
  have hl' := chkX_enc hl ht
  have hc' := chkX_enc hc ht
  simp only [ev1] at hv
  split at hv
  case h_2 => cases hv
  rename_i kd k hk
  split at hv
  case isFalse => cases hv
  rename_i hcond
  obtain ⟨hf, h0, hle⟩ := hcond
  cases hv
  rw [hk] at hl' hc'
  simp only [Enc] at hl' hc'
  have hkn : k.toNat ≤ 140737488355328 := Nat.le_trans (Nat.le_mul_of_pos_right _ hb0) hle
  have hbytes : (i.bytes : Int) * k ≤ 281474976710656 := by
    rw [hby]
    have h1 : ((k.toNat * bytes : Nat) : Int) = (bytes : Int) * k := by
      rw [Int.natCast_mul, Int.toNat_of_nonneg h0, Int.mul_comm]
    omega
  have hrun := run_make (P := P) w t el i zv hu hi hz kd kd k k h0 (Int.le_refl _) hbytes (by omega)
  have hcells : madeCells zv.cells (k.toNat * i.size) = (Array.range (k.toNat * z.length)).map (fun j => zv.cells[j % zv.cells.size]!) := by rw [hsz]; rfl
  rw [hcells] at hrun
  obtain ⟨st, ii, r⟩ := stp_alc (t := el) hr hf (enc_rep hzz hz0 k.toNat) (fun c hc => by
    obtain ⟨f, hf, hc⟩ := List.mem_flatten.1 hc
    rw [List.eq_of_mem_replicate hf] at hc
    exact V.scal_of_pure (encSs_pure hzz c hc))
  refine ⟨.value (.slice (some ⟨w.heap.size, 0, none⟩) k.toNat k.toNat), _, _, ?_, ?_, st, ii, r⟩
  · simp only [execOp, ho, hl', hc', Sem.run_bind, Sem.run_pure, hrun, Result.andThen_ok]
  · simp only [Enc, Mm.alc, decide_true, Bool.true_or, if_true, true_and]
    exact ⟨k.toNat, rfl, Nat.le_refl _⟩

theorem bslice_ok {t el : TypeId} {k base : Nat} {ps : Array (Nat × Operand)} {z : List V} {qs : List (Nat × X)} {i : TypeInfo} {zv : Value} (ho : o.op = .buildSlice t k ps)
    (hu0 : elemOf? P t = some el) (hi : P.info? el = some i) (hsz : i.size = z.length) (hz0 : 0 < z.length) (hk : k * z.length ≤ 16777216) (hz : i.zero = some zv) (hzz : encSs zv.cells.toList z = true)
    (hp : chkParts M.fm (fun j => some (j * z.length, z.length)) ps.toList (qs.map fun q => (q.1 * z.length, z.length, q.2)) = true)
    (ht : RelT M w e a n) (hr : HRel M w H) (hv : ev1 base e H (.bslice k z qs) = some (v, H1)) : OpOk P o a M H w v H1 := by
  have hu := elemOf?_some hu0
  simp only [ev1] at hv
  split at hv
  case h_2 => cases hv
  rename_i es hes
  cases hv
  have hzp := encSs_pure hzz
  obtain ⟨h1, h2, h3, h4⟩ := fillE_flat (fun f hf => by rw [List.eq_of_mem_replicate hf]) (fun f hf => by rw [List.eq_of_mem_replicate hf]; exact hzp) hes
  rw [List.length_replicate] at h2
  have hzl : zv.cells.size = z.length := by
    have := encL_length (encSs_encL (M := M) (w := w) hzz)
    simpa using this
  -- the cells at first
  have hinit : EncL M w (List.replicate k z).flatten ((Array.range (k * i.size)).map (fun j => zv.cells[j % zv.cells.size]!)).toList := by
    refine encL_of ?_ fun j c x hc hx => ?_
    · rw [flatten_len (sz := z.length) (fun f hf => by rw [List.eq_of_mem_replicate hf])]
      simp [hsz]
    · have hj : j < k * z.length := by
        have := (List.getElem?_eq_some_iff.1 hc).1
        rw [flatten_len (sz := z.length) (fun f hf => by rw [List.eq_of_mem_replicate hf]), List.length_replicate] at this
        exact this
      rw [flat_rep z k j hj] at hc
      obtain ⟨x', hx', he⟩ := encL_get (encSs_encL (M := M) (w := w) hzz) hc
      have hm : j % z.length < zv.cells.size := by rw [hzl]; exact Nat.mod_lt _ hz0
      have : x = x' := by
        simp only [Array.toList_map, Array.toList_range, List.getElem?_map, hsz] at hx
        rw [List.getElem?_range hj] at hx
        simp only [Option.map_some, Option.some.injEq] at hx
        rw [← hx, hzl]
        rw [getElem!_pos zv.cells _ hm]
        simp only [Array.getElem?_toList] at hx'
        rw [Array.getElem?_eq_getElem hm] at hx'
        simpa using hx'
      rw [this]
      exact he
  obtain ⟨ys, hf, hy, _⟩ := fill_ok (w := w) ht hp h1 hinit (fun c hc => by
    obtain ⟨f, hf, hc⟩ := List.mem_flatten.1 hc
    rw [List.eq_of_mem_replicate hf] at hc
    exact V.scal_of_pure (hzp c hc))
  have hrun : (execOp a.eval o).run P w = .ok (.value (.slice (some ⟨w.heap.size, 0, none⟩) k k)) (w.alloc (.cells ys el)) := by
    have hmap : (ps.map fun p => (p.1, a.eval p.2)).toList = ps.toList.map fun p => (p.1, a.eval p.2) := by simp
    have hb : (Instr.buildSlice t k (ps.map fun p => (p.1, a.eval p.2))).run P w = .ok (.slice (some ⟨w.heap.size, 0, none⟩) k k) (w.alloc (.cells ys el)) := by
      unfold Instr.buildSlice
      rw [← hmap] at hf
      simp only [Sem.run_bind, run_underlying hu, Result.andThen_ok, sizeOf, typeInfo, run_program, hi, Sem.run_pure]
      rw [if_neg (by rw [hsz]; omega)]
      have hfin : ∀ xs : Array Value, Instr.fill (fun i_1 => some (i_1 * i.size, i.size)) xs (ps.map fun p => (p.1, a.eval p.2)).toList = some ys →
          Sem.run P (match Instr.fill (fun i_1 => some (i_1 * i.size, i.size)) xs (ps.map fun p => (p.1, a.eval p.2)).toList with
            | some cells => (do pure (.slice (some (← newRow el cells)) k k) : Sem Value)
            | _ => stuck "buildSlice: a part of the wrong size") w = .ok (.slice (some ⟨w.heap.size, 0, none⟩) k k) (w.alloc (.cells ys el)) := by
        intro xs hx
        rw [hx]
        simp [newRow]
      by_cases hkz : k * i.size = 0
      · rw [if_pos hkz]
        have hxs : (Array.range (k * i.size)).map (fun j => (#[] : Array Value)[j % (#[] : Array Value).size]!) = (Array.range (k * i.size)).map (fun j => zv.cells[j % zv.cells.size]!) := by
          apply Array.ext'
          rw [hkz]
          simp
        rw [Sem.run_bind, Sem.run_pure, Result.andThen_ok]
        refine hfin _ ?_
        rw [hxs]
        simpa [hsz] using hf
      · rw [if_neg hkz]
        simp only [Sem.run_bind, zeroValue, typeInfo, run_program, hi, hz, Sem.run_pure, Result.andThen_ok]
        refine hfin _ ?_
        simpa [hsz] using hf
    simp only [execOp, ho, Sem.run_bind, Sem.run_pure]
    change (Result.andThen ((Instr.buildSlice t k (ps.map fun p => (p.1, a.eval p.2))).run P w) _) = _
    rw [hb]
    rfl
  obtain ⟨st, ii, r⟩ := stp_same (M' := M.lims w.heap.size none) hr (Grew.alloc w (.cells ys el)) (Same.lims M _ _)
  refine ⟨_, _, _, hrun, ?_, st, ii, r⟩
  simp only [Enc]
  refine ⟨h4, some ⟨w.heap.size, 0, none⟩, k, by rw [h2], by omega, ⟨.inr rfl, ⟨z.length, h3⟩, ?_⟩, by simp only [TkOk]; exact h2.symm⟩
  refine encL_rows (EncL.step st hr ii hy) ?_ ?_
  · intro j u hu
    rw [cell_of_row _ w.heap.size (0 + j) _ el (0, 0) (heap_alloc_new w _)]
    simpa using hu
  · intro j _ l hl
    simp [Mm.lims] at hl

/-- A slice whose cells may be written, or name blocks. -/
theorem bsliceR_ok {t el : TypeId} {k base sp : Nat} {ps : Array (Nat × Operand)} {z : List V} {qs : List (Nat × X)} {i : TypeInfo} {zv : Value} (ho : o.op = .buildSlice t k ps)
    (hu0 : elemOf? P t = some el) (hi : P.info? el = some i) (hsz : i.size = z.length) (hz0 : 0 < z.length) (hk : k * z.length ≤ 16777216) (hz : i.zero = some zv) (hzz : encSs zv.cells.toList z = true)
    (hp : chkParts M.fm (fun j => some (j * z.length, z.length)) ps.toList (qs.map fun q => (q.1 * z.length, z.length, q.2)) = true)
    (ht : RelT M w e a n) (hr : HRel M w H) (hv : ev1 base e H (.bsliceR sp k z qs) = some (v, H1)) : OpOk P o a M H w v H1 := by
  have hu := elemOf?_some hu0
  simp only [ev1] at hv
  split at hv
  case isFalse => cases hv
  rename_i hfree
  split at hv
  case h_2 => cases hv
  rename_i ds h1
  cases hv
  have hzp := encSs_pure hzz
  have hzl : zv.cells.size = z.length := by
    have := encL_length (encSs_encL (M := M) (w := w) hzz)
    simpa using this
  -- the cells at first
  have hinit : EncL M w (List.replicate k z).flatten ((Array.range (k * i.size)).map (fun j => zv.cells[j % zv.cells.size]!)).toList := by
    refine encL_of ?_ fun j c x hc hx => ?_
    · rw [flatten_len (sz := z.length) (fun f hf => by rw [List.eq_of_mem_replicate hf])]
      simp [hsz]
    · have hj : j < k * z.length := by
        have := (List.getElem?_eq_some_iff.1 hc).1
        rw [flatten_len (sz := z.length) (fun f hf => by rw [List.eq_of_mem_replicate hf]), List.length_replicate] at this
        exact this
      rw [flat_rep z k j hj] at hc
      obtain ⟨x', hx', he⟩ := encL_get (encSs_encL (M := M) (w := w) hzz) hc
      have hm : j % z.length < zv.cells.size := by rw [hzl]; exact Nat.mod_lt _ hz0
      have : x = x' := by
        simp only [Array.toList_map, Array.toList_range, List.getElem?_map, hsz] at hx
        rw [List.getElem?_range hj] at hx
        simp only [Option.map_some, Option.some.injEq] at hx
        rw [← hx, hzl]
        rw [getElem!_pos zv.cells _ hm]
        simp only [Array.getElem?_toList] at hx'
        rw [Array.getElem?_eq_getElem hm] at hx'
        simpa using hx'
      rw [this]
      exact he
  obtain ⟨ys, hf, hy, hsc⟩ := fill_ok (w := w) ht hp h1 hinit (fun c hc => by
    obtain ⟨f, hf, hc⟩ := List.mem_flatten.1 hc
    rw [List.eq_of_mem_replicate hf] at hc
    exact V.scal_of_pure (hzp c hc))
  have hrun : (execOp a.eval o).run P w = .ok (.value (.slice (some ⟨w.heap.size, 0, none⟩) k k)) (w.alloc (.cells ys el)) := by
    have hmap : (ps.map fun p => (p.1, a.eval p.2)).toList = ps.toList.map fun p => (p.1, a.eval p.2) := by simp
    have hb : (Instr.buildSlice t k (ps.map fun p => (p.1, a.eval p.2))).run P w = .ok (.slice (some ⟨w.heap.size, 0, none⟩) k k) (w.alloc (.cells ys el)) := by
      unfold Instr.buildSlice
      rw [← hmap] at hf
      simp only [Sem.run_bind, run_underlying hu, Result.andThen_ok, sizeOf, typeInfo, run_program, hi, Sem.run_pure]
      rw [if_neg (by rw [hsz]; omega)]
      have hfin : ∀ xs : Array Value, Instr.fill (fun i_1 => some (i_1 * i.size, i.size)) xs (ps.map fun p => (p.1, a.eval p.2)).toList = some ys →
          Sem.run P (match Instr.fill (fun i_1 => some (i_1 * i.size, i.size)) xs (ps.map fun p => (p.1, a.eval p.2)).toList with
            | some cells => (do pure (.slice (some (← newRow el cells)) k k) : Sem Value)
            | _ => stuck "buildSlice: a part of the wrong size") w = .ok (.slice (some ⟨w.heap.size, 0, none⟩) k k) (w.alloc (.cells ys el)) := by
        intro xs hx
        rw [hx]
        simp [newRow]
      by_cases hkz : k * i.size = 0
      · rw [if_pos hkz]
        have hxs : (Array.range (k * i.size)).map (fun j => (#[] : Array Value)[j % (#[] : Array Value).size]!) = (Array.range (k * i.size)).map (fun j => zv.cells[j % zv.cells.size]!) := by
          apply Array.ext'
          rw [hkz]
          simp
        rw [Sem.run_bind, Sem.run_pure, Result.andThen_ok]
        refine hfin _ ?_
        rw [hxs]
        simpa [hsz] using hf
      · rw [if_neg hkz]
        simp only [Sem.run_bind, zeroValue, typeInfo, run_program, hi, hz, Sem.run_pure, Result.andThen_ok]
        refine hfin _ ?_
        simpa [hsz] using hf
    simp only [execOp, ho, Sem.run_bind, Sem.run_pure]
    change (Result.andThen ((Instr.buildSlice t k (ps.map fun p => (p.1, a.eval p.2))).run P w) _) = _
    rw [hb]
    rfl
  obtain ⟨st, ii, r⟩ := stp_alc (t := el) hr hfree hy hsc
  refine ⟨_, _, _, hrun, ?_, st, ii, r⟩
  simp only [Enc, Mm.alc, decide_true, Bool.true_or, if_true, true_and]
  exact ⟨k, rfl, Nat.le_refl _⟩

/-- What is copied out of a slice. -/
theorem cpy_src {c : V} {ds : List V} {x : Value} {sz : Nat} (hr : HRel M w H) (hz : 0 < sz) (h : Enc M w c x) (hc : rowOf H sz c = some ds) (k : Nat) (hk : k ≤ ds.length / sz) :
    (Builtin.lenOf x).run P w = .ok (ds.length / sz) w ∧ (∀ d ∈ ds, d.scal = true) ∧ ∃ xs : List Value, (Builtin.firstCells sz k x).run P w = .ok xs.toArray w ∧ EncL M w (ds.take (k * sz)) xs ∧ xs.length = k * sz := by
  have hle : k * sz ≤ ds.length := Nat.le_trans (Nat.mul_le_mul_right _ hk) (Nat.div_mul_le_self _ _)
  cases c <;> simp only [rowOf, reduceCtorEq] at hc
  case vs es tk =>
    split at hc
    case isFalse => cases hc
    rename_i hes
    cases hc
    have hes : ∀ e ∈ es, e.length = sz := fun e he => by have := List.all_eq_true.1 hes e he; simpa using this
    have hfl := flatten_len hes
    have hdiv : es.flatten.length / sz = es.length := by rw [hfl]; exact Nat.mul_div_cancel _ hz
    rw [hdiv] at hk ⊢
    simp only [Enc] at h
    obtain ⟨hp, ad, cap, rfl, hcap, hrows, _⟩ := h
    refine ⟨by simp [Builtin.lenOf], fun d hd => by
      obtain ⟨f, hf, hd⟩ := List.mem_flatten.1 hd
      exact V.scal_of_pure (hp f hf d hd), ?_⟩
    cases ad with
    | none =>
      obtain ⟨rfl, rfl⟩ := hrows
      have : k = 0 := by simpa using hk
      subst this
      exact ⟨[], by simp [Builtin.firstCells], by simp [EncL], by simp⟩
    | some ad =>
      obtain ⟨b, off, sp⟩ := ad
      obtain ⟨hsp, _, hrows⟩ := hrows
      by_cases hk0 : k = 0
      · subst hk0
        exact ⟨[], run_firstCells_some w sz 0 ⟨b, off, sp⟩ es.length cap [] (by simp) (fun j u hu => by simp at hu), by simp [EncL], by simp⟩
      have hne : es ≠ [] := by rintro rfl; simp at hk; omega
      have hsp := hsp.resolve_left hne
      simp only at hsp hrows
      subst hsp
      obtain ⟨xs, h1, h2⟩ := encRows_vals hrows
      have hl := encL_length h1
      have e1 := encL_take h1 (k * sz)
      refine ⟨xs.take (k * sz), run_firstCells_some w sz k ⟨b, off, none⟩ es.length cap (xs.take (k * sz)) (by rw [List.length_take]; omega) (fun j u hu => by
        rw [Addr.add_mid]
        rw [List.getElem?_take] at hu
        split at hu
        · exact h2 j u hu
        · cases hu), e1, by rw [List.length_take]; omega⟩
  case rs id off m sz' =>
    split at hc
    case h_2 => cases hc
    rename_i cs hb
    split at hc
    case isFalse => cases hc
    rename_i hcl
    cases hc
    have hlen : ((cs.drop off).take (m * sz)).length = m * sz := by rw [List.length_take, List.length_drop]; omega
    have hdiv : ((cs.drop off).take (m * sz)).length / sz = m := by rw [hlen]; exact Nat.mul_div_cancel _ hz
    rw [hdiv] at hk ⊢
    simp only [Enc] at h
    obtain ⟨_, cap, rfl, hcap⟩ := h
    have hb' := hr.rel id _ hb
    simp only [BRel] at hb'
    obtain ⟨hs, _, xs, te, hh, he⟩ := hb'
    have hl := encL_length he
    have e1 := encL_take (encL_take (encL_drop he off) (m * sz)) (k * sz)
    have hkm : k * sz ≤ m * sz := Nat.mul_le_mul_right _ hk
    refine ⟨by simp [Builtin.lenOf], fun d hd => hs d (List.mem_of_mem_drop (List.mem_of_mem_take hd)), _, run_firstCells_some w sz k ⟨M.j id, off, none⟩ m cap (((xs.toList.drop off).take (m * sz)).take (k * sz)) (by
      rw [List.length_take, List.length_take, List.length_drop]; omega) (fun j u hu => by
        rw [Addr.add_mid, cell_of_row w (M.j id) (off + j) xs te (0, 0) hh]
        rw [List.getElem?_take] at hu
        split at hu
        · rw [List.getElem?_take] at hu
          split at hu
          · rw [List.getElem?_drop] at hu; simpa using hu
          · cases hu
        · cases hu), e1, by rw [List.length_take, List.length_take, List.length_drop]; omega⟩

theorem cpy_ok {t t' el : TypeId} {x y : Operand} {sx sy : X} {base sz : Nat} {i : TypeInfo} (ho : o.op = .call { callee := .builtin .copy, args := #[x, y], argTypes := #[t, t'] })
    (hx : chkX M.fm x sx = true) (hy : chkX M.fm y sy = true) (hu0 : elemOf? P t = some el) (hi : P.info? el = some i) (hsz : i.size = sz) (ht : RelT M w e a n) (hr : HRel M w H)
    (hv : ev1 base e H (.cpy sz sx sy) = some (v, H1)) : OpOk P o a M H w v H1 := by
  have hx' := chkX_enc hx ht
  have hy' := chkX_enc hy ht
  have hu := elemOf?_some hu0
  simp only [ev1] at hv
  split at hv
  case h_2 => cases hv
  rename_i id off m sz' hp
  split at hv
  case h_2 => cases hv
  rename_i cs ds hb hrow
  split at hv
  case isFalse => cases hv
  rename_i hc
  obtain ⟨hle, hz⟩ := hc
  cases hv
  rw [hp] at hx'
  simp only [Enc] at hx'
  obtain ⟨_, cap, hxe, hcap⟩ := hx'
  obtain ⟨k, hk⟩ : ∃ k, k = min (ds.length / sz) m := ⟨_, rfl⟩
  rw [← hk]
  have hkm : k ≤ m := by rw [hk]; exact Nat.min_le_right _ _
  obtain ⟨hlen, hsd, xs, hfc, hxs, hxl⟩ := cpy_src (P := P) hr hz hy' hrow k (by rw [hk]; exact Nat.min_le_left _ _)
  have hb' := hr.rel id _ hb
  simp only [BRel] at hb'
  obtain ⟨hs, _, cur, te, hh, he⟩ := hb'
  have hcl := encL_length he
  have hkk : k * sz ≤ m * sz := Nat.mul_le_mul_right _ hkm
  have hdsl := encL_length hxs
  have hone := encL_one hxs (fun c hc => hsd c (List.mem_of_mem_take hc))
  have hst := run_storeCells_at P (M.j id) off te xs 0 cur w hh (by rw [hxl]; simp at hcl; omega) hone
  simp only [Nat.add_zero] at hst
  obtain ⟨s, ii, r⟩ := stp_set (ds := cs.take off ++ ds.take (k * sz) ++ cs.drop (off + k * sz)) hr hb hh (ys := (cur.toList.take off ++ xs ++ cur.toList.drop (off + xs.length)).toArray)
    (by
      simp only []
      refine encL_append (encL_append (encL_take he off) hxs) ?_
      rw [hxl]
      exact encL_drop he _)
    (fun c hc => by
      simp only [List.mem_append] at hc
      rcases hc with (hc | hc) | hc
      · exact hs c (List.mem_of_mem_take hc)
      · exact hsd c (List.mem_of_mem_take hc)
      · exact hs c (List.mem_of_mem_drop hc))
  refine ⟨.value (.int .i64 k), _, _, ?_, by simp only [Enc], s, ii, r⟩
  have hmin : Nat.min (ds.length / sz) m = k := hk.symm
  simp [execOp, ho, resolve, invoke, builtin, hxe, Builtin.copy_, run_underlying hu, hlen, hmin, sizeOf, typeInfo, hi, hsz, hfc, hst, goInt]

end Go.Ev
