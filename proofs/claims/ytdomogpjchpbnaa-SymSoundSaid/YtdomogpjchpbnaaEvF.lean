/- Append, slice expressions, composite literals. -/
import Derived.Test.YtdomogpjchpbnaaEvE
namespace Go.Ev
open Go Go.RowKit

variable {P : Program} {M M' : Mm} {H H1 : Heap} {w w' : World}
variable {e : Env} {a : Act} {n : Nat} {o : Oper} {v : V}

theorem flatten_len {es : List (List V)} {sz : Nat} (h : ∀ e ∈ es, e.length = sz) : es.flatten.length = es.length * sz := by
  induction es with
  | nil => simp
  | cons e es ih => simp only [List.flatten_cons, List.length_append, ih (fun d hd => h d (by simp [hd])), h e (by simp), List.length_cons, Nat.add_mul, Nat.one_mul]; omega

/-- The cells of a slice that stays, as values. -/
theorem encRows_vals {b off : Nat} {es : List (List V)} (h : EncRows M w b es off) : ∃ xs : List Value, EncL M w es.flatten xs ∧ w.rangeAt b off xs := encRow_range (encRows_iff.1 h)

theorem encL_rows {b : Nat} {xs : List Value} : ∀ {es : List (List V)} {off : Nat}, EncL M w es.flatten xs → w.rangeAt b off xs → (∀ i, i < xs.length → Rd M b (off + i)) → EncRows M w b es off := by
  intro es off h1 h2 h3
  rw [encRows_iff]
  refine encRow_of fun i c hc => ?_
  obtain ⟨x, hx, he⟩ := encL_get h1 hc
  exact ⟨x, h2 i x hx, h3 i (List.getElem?_eq_some_iff.1 hx).1, he⟩

theorem encL_one {cs : List V} {xs : List Value} (h : EncL M w cs xs) (hs : ∀ c ∈ cs, c.scal = true) : ∀ u ∈ xs, u.oneCell' = true := by
  intro u hu
  obtain ⟨i, hi⟩ := List.getElem?_of_mem hu
  have hil : i < cs.length := by rw [← encL_length h]; exact (List.getElem?_eq_some_iff.1 hi).1
  obtain ⟨x', hx1, hx2⟩ := encL_get h (List.getElem?_eq_getElem hil)
  rw [hi] at hx1; cases hx1
  exact enc_one hx2 (hs _ (List.getElem_mem hil))

/-- A slice's cells, or a text's bytes, as a source for append. -/
theorem src_of {c : V} {fs : List (List V)} {x : Value} {t : TypeId} {sz : Nat} (hu : (∃ el, P.underlying t = some (.slice el)) ∨ P.underlying t = some .string) (h : Enc M w c x) (hc : c.elems? = some fs) (hs : ∀ f ∈ fs, f.length = sz) :
    ∃ news, Src P sz t x fs.length news w ∧ EncL M w fs.flatten news := by
  cases c <;> simp only [V.elems?, Option.some.injEq, reduceCtorEq] at hc <;> subst hc
  case vs fs tk =>
    simp only [Enc] at h
    obtain ⟨hp, ad, cap, rfl, hle, hrows, _⟩ := h
    cases ad with
    | none =>
      obtain ⟨rfl, rfl⟩ := hrows
      exact ⟨[], ⟨hu, fun _ => rfl, run_firstCells_none w sz 0 0 0, run_firstCells_none w.drew sz 0 0 0, by simp, fun _ h => by cases h⟩, by simp only [List.flatten_nil, EncL]⟩
    | some ad =>
      obtain ⟨b, off, sp⟩ := ad
      obtain ⟨hsp, _, hrows⟩ := hrows
      by_cases hfs : fs = []
      · subst hfs
        exact ⟨[], ⟨hu, fun _ => rfl, run_firstCells_some w sz 0 ⟨b, off, sp⟩ 0 cap [] (by simp) (fun j u hu => by simp at hu), run_firstCells_some w.drew sz 0 ⟨b, off, sp⟩ 0 cap [] (by simp) (fun j u hu => by simp at hu), by simp, by simp⟩,
          by simp only [List.flatten_nil, EncL]⟩
      have hsp := hsp.resolve_left hfs
      simp only at hsp hrows
      subst hsp
      obtain ⟨xs, h1, h2⟩ := encRows_vals hrows
      have hl : xs.length = fs.length * sz := by rw [encL_length h1, flatten_len hs]
      have hcell : ∀ j u, xs[j]? = some u → w.cell? ((⟨b, off, none⟩ : Addr).add j) = some u := fun j u hu => by rw [Addr.add_mid]; exact h2 j u hu
      refine ⟨xs, ⟨hu, fun _ => rfl, run_firstCells_some w sz fs.length ⟨b, off, none⟩ fs.length cap xs hl hcell, run_firstCells_some w.drew sz fs.length ⟨b, off, none⟩ fs.length cap xs hl (by simpa using hcell), hl, encL_one h1 fun c hc => ?_⟩, h1⟩
      obtain ⟨f, hf, hc⟩ := List.mem_flatten.1 hc
      exact V.scal_of_pure (hp f hf c hc)
  case str s =>
    simp only [Enc] at h
    subst h
    have hlen : (ofBytes s).length = s.length := by simp [ofBytes]
    have hsz : (ByteArray.mk s.toArray).size = s.length := by simp [ByteArray.size]
    by_cases hs0 : s = []
    · subst hs0
      refine ⟨[], ⟨hu, fun _ => rfl, ?_, ?_, by simp [ofBytes], fun _ h => by cases h⟩, by simp only [ofBytes, List.map_nil, List.flatten_nil, EncL]⟩ <;> simp [Builtin.firstCells, ofBytes] <;> rfl
    · have h1 : sz = 1 := by
        cases s with
        | nil => exact absurd rfl hs0
        | cons b s => have := hs [V.int .u8 b.toNat] (by simp [ofBytes]); simpa using this.symm
      subst h1
      refine ⟨byteCells ⟨s.toArray⟩, ?_, ?_⟩
      · rw [hlen, ← hsz]
        exact ⟨hu, fun _ => rfl, firstCells_string _ w, firstCells_string _ w.drew, by rw [byteCells_length, Nat.mul_one], fun u hu => by obtain ⟨_, _, rfl⟩ := List.mem_map.1 hu; rfl⟩
      · have hfl : (ofBytes s).flatten = s.map fun b => V.int .u8 b.toNat := by
          clear hs hlen hsz hs0
          induction s with
          | nil => rfl
          | cons b s ih => simp only [ofBytes, List.map_cons, List.flatten_cons] at ih ⊢; rw [ih]; rfl
        rw [hfl]
        refine encL_of (by simp [byteCells]) fun i c x hc hx => ?_
        simp only [byteCells, List.getElem?_map, Option.map_eq_some_iff] at hc hx
        obtain ⟨b, hb, rfl⟩ := hc
        obtain ⟨b', hb', rfl⟩ := hx
        rw [hb] at hb'; cases hb'
        simp only [Enc]

theorem elems_pure {c : V} {fs : List (List V)} {x : Value} (h : Enc M w c x) (hc : c.elems? = some fs) : ∀ f ∈ fs, ∀ d ∈ f, d.pure = true := by
  cases c <;> simp only [V.elems?, Option.some.injEq, reduceCtorEq] at hc <;> subst hc
  case vs => simp only [Enc] at h; exact h.1
  case str =>
    intro f hf d hd
    obtain ⟨b, _, rfl⟩ := List.mem_map.1 hf
    simp at hd; subst hd; rfl

def appOk (P : Program) (t t' : TypeId) (sz bytes : Nat) : Bool :=
  match elemOf? P t, (elemOf? P t').isSome || isStr P t' with
  | some el, true => match P.info? el with
    | some i => i.size == sz && i.bytes == bytes && decide (0 < sz) && decide (0 < bytes) && (match i.zero with | some z => z.cells.size == sz | none => false)
    | none => false
  | _, _ => false

theorem size_zeroCells' (z : Array Value) (k : Nat) : (Builtin.zeroCells z k).size = k * z.size := by simp [Builtin.zeroCells]

/-- There is room: the block's row is written. -/
theorem run_append_room_row (w : World) (t tx ty el : TypeId) (i : TypeInfo) (ht : P.underlying t = some (.slice el)) (hi : P.info? el = some i) (b sLen sCap : Nat) (xs : Array Value) (te : TypeId)
    (hh : w.heap[b]? = some (.cells xs te (0, 0))) (x : Value) (k : Nat) (news : List Value) (hs : Src P i.size tx x k news w) (hroom : sLen + k ≤ sCap) (hfit : sLen * i.size + news.length ≤ xs.size) :
    (Builtin.append_ #[t, tx] ty #[.slice (some ⟨b, 0, none⟩) sLen sCap, x]).run P w =
      .ok (.slice (some ⟨b, 0, none⟩) (sLen + k) sCap) (w.setRow b (xs.toList.take (sLen * i.size) ++ news ++ xs.toList.drop (sLen * i.size + news.length)).toArray) := by
  have hst := run_storeCells_at P b (sLen * i.size) te news 0 xs w hh (by simpa using hfit) hs.one
  simp only [Nat.add_zero] at hst
  rcases hs.kind with ⟨e', hk⟩ | hk <;> simp [Builtin.append_, run_underlying ht, run_underlying hk, sizeOf, typeInfo, hi, hs.len, hroom, hs.cells, Addr.add_lit, hst]

theorem app_ok {t t' : TypeId} {x y : Operand} {sx sy : X} {base s sz bytes : Nat} (ho : o.op = .call { callee := .builtin .append, args := #[x, y], argTypes := #[t, t'] })
    (hx : chkX M.fm x sx = true) (hy : chkX M.fm y sy = true) (hok : appOk P t t' sz bytes = true) (ht : RelT M w e a n) (hr : HRel M w H)
    (hv : ev1 base e H (.app s sz bytes sx sy) = some (v, H1)) : OpOk P o a M H w v H1 := by
  have hx' := chkX_enc hx ht
  have hy' := chkX_enc hy ht
  unfold appOk at hok
  split at hok
  case h_2 => cases hok
  rename_i el hel hel'
  have hu := elemOf?_some hel
  have hu' : (∃ el, P.underlying t' = some (.slice el)) ∨ P.underlying t' = some .string := by
    simp only [Bool.or_eq_true] at hel'
    rcases hel' with h | h
    · obtain ⟨el', h⟩ := Option.isSome_iff_exists.1 h; exact .inl ⟨_, elemOf?_some h⟩
    · exact .inr (isStr_spec h)
  split at hok
  case h_2 => cases hok
  rename_i i hi
  simp only [Bool.and_eq_true, beq_iff_eq, decide_eq_true_eq] at hok
  obtain ⟨⟨⟨⟨hsz, hby⟩, hpos⟩, hbpos⟩, hz⟩ := hok
  split at hz
  case h_2 => cases hz
  rename_i z hzero
  simp only [beq_iff_eq] at hz
  have hex : ∀ r w', (Builtin.append_ #[t, t'] o.type #[a.eval x, a.eval y]).run P w = .ok r w' → (execOp a.eval o).run P w = .ok (.value r) w' := by
    intro r w' h
    simp only [execOp, ho, resolve, invoke, builtin, Sem.run_bind, Sem.run_pure, Result.andThen_ok, List.map_toArray, List.map_cons, List.map_nil, h]
  simp only [ev1] at hv
  split at hv
  case h_2 => cases hv
  rename_i es tk fs hp hq
  rw [hp] at hx'
  split at hv
  · rename_i hfs
    cases hv
    subst hfs
    obtain ⟨news, hsrc, hn⟩ := src_of (sz := sz) hu' hy' hq (by simp)
    simp only [List.flatten_nil, EncL] at hn
    subst hn
    have hx2 := hx'
    simp only [Enc] at hx2
    obtain ⟨_, ad, cap, hxe, hle, _⟩ := hx2
    have := run_append_nothing (P := P) w t t' o.type el i hu hi ad es.length cap hle (a.eval y) (by rw [hsz]; exact hsrc)
    rw [← hxe] at this
    exact .plain hr (hex _ _ this) hx'
  rename_i hfs
  split at hv
  case isFalse => cases hv
  rename_i hg
  obtain ⟨hbound, hfl, hes⟩ := hg
  obtain ⟨news, hsrc, hnews⟩ := src_of (sz := sz) hu' hy' hq hfl
  have hnl : news.length = fs.length * sz := by rw [encL_length hnews, flatten_len hfl]
  have hpf := elems_pure hy' hq
  have hx2 := hx'
  simp only [Enc] at hx2
  obtain ⟨hpu, ad, cap, hxe, hle, hrows, htk⟩ := hx2
  have hfpos : 0 < fs.length := List.length_pos_iff.2 hfs
  have hpure : ∀ e ∈ es ++ fs, ∀ c ∈ e, c.pure = true := by
    intro d hd c hc
    simp only [List.mem_append] at hd
    rcases hd with hd | hd
    · exact hpu d hd c hc
    · exact hpf d hd c hc
  have hall : ∀ e ∈ es ++ fs, e.length = sz := by
    intro d hd
    simp only [List.mem_append] at hd
    rcases hd with hd | hd
    · exact hes d hd
    · exact hfl d hd
  -- the old cells
  have hold : ∃ olds : List Value, EncL M w es.flatten olds ∧ (Builtin.firstCells i.size es.length (.slice ad es.length cap)).run P w.drew = .ok olds.toArray w.drew := by
    cases ad with
    | none =>
      obtain ⟨he0, _⟩ := hrows
      subst he0
      exact ⟨[], by simp only [List.flatten_nil, EncL], by simp [Builtin.firstCells]⟩
    | some ad =>
      obtain ⟨b, off, sp⟩ := ad
      obtain ⟨hsp, _, hrows⟩ := hrows
      by_cases hes0 : es = []
      · subst hes0
        exact ⟨[], by simp only [List.flatten_nil, EncL], run_firstCells_some w.drew i.size 0 ⟨b, off, sp⟩ 0 cap [] (by simp) (fun j u hu => by simp at hu)⟩
      have hsp := hsp.resolve_left hes0
      simp only at hsp hrows
      subst hsp
      obtain ⟨xs, h1, h2⟩ := encRows_vals hrows
      refine ⟨xs, h1, ?_⟩
      exact run_firstCells_some w.drew i.size es.length ⟨b, off, none⟩ es.length cap xs (by rw [encL_length h1, flatten_len hes, hsz]) (fun j u hu => by
        rw [Addr.add_mid]
        exact h2 j u hu)
  obtain ⟨olds, holdE, holdR⟩ := hold
  have hol : olds.length = es.length * sz := by rw [encL_length holdE, flatten_len hes]
  -- what a new array comes to
  have grown : ∀ id, (isFree H id = true ∨ ∃ k, H[id]? = some (some (.zone k))) → (M.al id = true → (M.z id).n < es.length + fs.length) → cap < es.length + fs.length →
      (execOp a.eval o).run P w = .ok (.value (.slice (some ⟨w.heap.size, 0, none⟩) (es.length + fs.length) (grownCap w (es.length + fs.length) cap el)))
        (w.drew.alloc (.cells ((olds ++ news).toArray ++ Builtin.zeroCells z.cells (grownCap w (es.length + fs.length) cap el - (es.length + fs.length))) el)) →
      OpOk P o a M H w (.vs (es ++ fs) (.own id)) (H.set id (some (.zone (es.length + fs.length)))) := by
    intro id hid hlt _ hrun
    have hge := grownCap_ge w (es.length + fs.length) cap el
    generalize hC : grownCap w (es.length + fs.length) cap el = C at hge hrun
    have hnewc : (w.drew.alloc (.cells ((olds ++ news).toArray ++ Builtin.zeroCells z.cells (C - (es.length + fs.length))) el)).heap[w.heap.size]? =
        some (.cells ((olds ++ news).toArray ++ Builtin.zeroCells z.cells (C - (es.length + fs.length))) el (0, 0)) := heap_alloc_new w.drew _
    have g := (Grew.drew w).trans (Grew.alloc w.drew (.cells ((olds ++ news).toArray ++ Builtin.zeroCells z.cells (C - (es.length + fs.length))) el))
    obtain ⟨st, ii, r⟩ := stp_zone (w' := w.drew.alloc (.cells ((olds ++ news).toArray ++ Builtin.zeroCells z.cells (C - (es.length + fs.length))) el)) (z := ⟨es.length + fs.length, some w.heap.size, C, sz⟩) hr hid g.os g.tape g.output g.size
      (fun b hb _ => g.block b hb)
      (fun b l k hb _ _ => g.cell (hr.owned_lt ⟨id, hb⟩))
      (fun b hb => by simp only [Option.some.injEq] at hb; omega)
      (fun b l hb hb2 _ => by simp only [Option.some.injEq] at hb2; have := hr.owned_lt ⟨id, hb⟩; omega)
      (fun ha => ⟨by have := hlt ha; simp only; omega, fun h => by have := hlt ha; simp only at h; omega⟩)
      (by
        refine ⟨by simp only; omega, hge, hpos, _, _, hnewc, ?_⟩
        simp only [Array.size_append, List.size_toArray, List.length_append, size_zeroCells', hz, hol, hnl, ← Nat.add_mul]
        congr 1
        omega)
    refine ⟨_, _, _, hrun, ?_, st, ii, r⟩
    simp only [Enc]
    refine ⟨hpure, some ⟨w.heap.size, 0, none⟩, C, by simp, by simpa using hge, ⟨.inr rfl, ⟨sz, hall⟩, ?_⟩, ?_⟩
    · have he1 := EncL.step st hr ii (encL_append holdE hnews)
      rw [← List.flatten_append] at he1
      refine encL_rows he1 ?_ ?_
      · intro j u hu
        have hj : j < (olds ++ news).length := (List.getElem?_eq_some_iff.1 hu).1
        rw [cell_of_row _ w.heap.size (0 + j) _ el (0, 0) hnewc]
        rw [Nat.zero_add, Array.getElem?_append]
        rw [if_pos (by simpa using hj)]
        simpa using hu
      · intro j hj l hl
        simp only [Mm.zon, if_true, Option.some.injEq] at hl
        subst hl
        simp only [List.length_append, hol, hnl, ← Nat.add_mul] at hj
        simp only [Nat.zero_add]
        exact hj
    · simp only [TkOk, Mm.zon, decide_true, Bool.true_or, if_true, true_and, List.length_append]
      exact ⟨Nat.le_refl _, fun _ => hall⟩
  have hgrow : cap < es.length + fs.length → Builtin.nextslicecap (es.length + fs.length) cap * i.bytes ≤ 281474976710656 →
      (execOp a.eval o).run P w = .ok (.value (.slice (some ⟨w.heap.size, 0, none⟩) (es.length + fs.length) (grownCap w (es.length + fs.length) cap el)))
        (w.drew.alloc (.cells ((olds ++ news).toArray ++ Builtin.zeroCells z.cells (grownCap w (es.length + fs.length) cap el - (es.length + fs.length))) el)) := by
    intro hc hfit
    refine hex _ _ ?_
    have := run_append_grow_src (P := P) w t t' o.type el i z hu hi hzero ad es.length cap olds holdR (a.eval y) fs.length news (by rw [hsz]; exact hsrc) hc (by
      have := Nat.le_mul_of_pos_right (es.length + fs.length) hbpos
      omega) hfit
    rw [← hxe] at this
    exact this
  have hfit : cap < es.length + fs.length → Builtin.nextslicecap (es.length + fs.length) cap * i.bytes ≤ 281474976710656 := fun h => growslice_fits h (by rw [hby]; exact hbound)
  cases tk with
  | no => cases hv
  | full =>
    simp only at hv
    split at hv
    case isFalse => cases hv
    rename_i hf
    cases hv
    simp only [TkOk] at htk
    have hc : cap < es.length + fs.length := by omega
    exact grown _ (.inl hf) (fun ha => by rw [free_al hr hf] at ha; cases ha) hc (hgrow hc (hfit hc))
  | own q =>
    simp only at hv
    split at hv
    case h_2 => cases hv
    rename_i k hq
    split at hv
    case isFalse => cases hv
    rename_i hk
    cases hv
    subst hk
    simp only [TkOk] at htk
    obtain ⟨hal, _, htk⟩ := htk
    have hb := hr.rel q _ hq
    simp only [BRel] at hb
    obtain ⟨hzn, hb⟩ := hb
    obtain ⟨hcap, htk⟩ := htk hzn.symm
    cases hbk : (M.z q).blk with
    | none =>
      simp only [hbk] at hb htk
      have hc : cap < es.length + fs.length := by omega
      exact grown q (.inr ⟨_, hq⟩) (fun _ => by omega) hc (hgrow hc (hfit hc))
    | some b =>
      simp only [hbk] at hb htk
      obtain ⟨hn0, hn1, hn2, hlim, xs, te, hh, hxs⟩ := hb
      obtain ⟨rfl, hzs⟩ := htk
      by_cases hroom : es.length + fs.length ≤ cap
      · -- in place
        have hzsz : (M.z q).sz = sz := by
          cases hee : es with
          | nil => rw [hee] at hn0; simp at hn0
          | cons e0 es0 => rw [← hzs e0 (by simp [hee]), hes e0 (by simp [hee])]
        have hroom' : es.length * sz + fs.length * sz ≤ (M.z q).cap * sz := by rw [← Nat.add_mul]; exact Nat.mul_le_mul_right _ (by omega)
        rw [hzsz] at hxs hlim
        have hrun := run_append_room_row (P := P) w t t' o.type el i hu hi b es.length cap xs te hh (a.eval y) fs.length news (by rw [hsz]; exact hsrc) hroom (by rw [hsz, hnl, hxs]; exact hroom')
        rw [← hxe] at hrun
        rw [hsz] at hrun
        have hnewh := setRow_heap w b xs (xs.toList.take (es.length * sz) ++ news ++ xs.toList.drop (es.length * sz + news.length)).toArray te (0, 0) hh
        generalize hY : (xs.toList.take (es.length * sz) ++ news ++ xs.toList.drop (es.length * sz + news.length)).toArray = ys at hrun hnewh
        have hyget : ∀ j, j < es.length * sz → ys[j]? = xs[j]? := by
          intro j hj
          rw [← hY]
          simp only [List.getElem?_toArray, List.append_assoc]
          rw [List.getElem?_append_left (by simp; omega), List.getElem?_take, if_pos hj]
          simp
        have hblo : blOf M H q = some b := by simp [blOf, hq, hbk]
        have hoth : ∀ k, k ≠ b → (w.setRow b ys).heap[k]? = w.heap[k]? := fun k hk => setRow_other w b k ys (fun e => hk e)
        have hcellb : ∀ j, j < es.length * sz → (w.setRow b ys).cell? ⟨b, j, none⟩ = w.cell? ⟨b, j, none⟩ := by
          intro j hj
          rw [cell_of_row _ b j _ te (0, 0) hnewh, cell_of_row _ b j _ te (0, 0) hh, hyget j hj]
        obtain ⟨st, ii, r⟩ := stp_zone (w' := w.setRow b ys) (z := ⟨es.length + fs.length, some b, cap, sz⟩) hr (.inr ⟨_, hq⟩) rfl rfl rfl (by simp [World.setRow])
          (fun k _ hne => hoth k (fun e => hne (by rw [hblo, e])))
          (fun k l j hk hl hj => by
            rw [hblo] at hk; cases hk
            rw [hlim] at hl; cases hl
            exact hcellb j hj)
          (fun k hk => by simp only [Option.some.injEq] at hk; subst hk; exact .inr hblo)
          (fun k l hk _ hl => by
            rw [hblo] at hk; cases hk
            rw [hlim] at hl; cases hl
            exact Nat.mul_le_mul_right _ (by simp only; omega))
          (fun _ => ⟨by simp only; omega, fun h => by simp only at h; omega⟩)
          ⟨by simp only; omega, hroom, hpos, ys, te, hnewh, by
            have hx3 : xs.toList.length = cap * sz := by rw [Array.length_toList, hxs, hcap]
            rw [← hcap] at hroom'
            rw [← hY]
            simp only [List.size_toArray, List.length_append, List.length_take, List.length_drop, hx3, hnl]
            rw [Nat.min_eq_left (by omega)]
            omega⟩
        refine ⟨_, _, _, hex _ _ hrun, ?_, st, ii, r⟩
        simp only [Enc]
        refine ⟨hpure, some ⟨b, 0, none⟩, cap, by simp, by simpa using hroom, ⟨.inr rfl, ⟨sz, hall⟩, ?_⟩, ?_⟩
        · rw [encRows_append]
          refine ⟨?_, ?_⟩
          · have := hrows.2.2
            exact EncRows.step st hr ii this
          · rw [flatten_len hes]
            refine encL_rows (EncL.step st hr ii hnews) ?_ ?_
            · intro j u hu
              have hj : j < news.length := (List.getElem?_eq_some_iff.1 hu).1
              rw [cell_of_row _ b _ _ te (0, 0) hnewh, ← hY]
              simp only [List.getElem?_toArray, Nat.zero_add]
              have hlt : (xs.toList.take (es.length * sz)).length = es.length * sz := by
                have hx3 : xs.toList.length = (M.z q).cap * sz := by rw [Array.length_toList, hxs]
                rw [List.length_take, hx3]
                exact Nat.min_eq_left (by omega)
              rw [List.append_assoc, List.getElem?_append_right (by rw [hlt]; omega), hlt, Nat.add_sub_cancel_left, List.getElem?_append_left hj]
              exact hu
            · intro j hj l hl
              simp only [Mm.zon, if_true, Option.some.injEq] at hl
              subst hl
              rw [hnl] at hj
              simp only [Nat.add_mul, Nat.zero_add]
              omega
        · simp only [TkOk, Mm.zon, decide_true, Bool.true_or, if_true, true_and, List.length_append]
          exact ⟨Nat.le_refl _, fun _ => hall⟩
      · have hc : cap < es.length + fs.length := by omega
        exact grown q (.inr ⟨_, hq⟩) (fun _ => by omega) hc (hgrow hc (hfit hc))

end Go.Ev
