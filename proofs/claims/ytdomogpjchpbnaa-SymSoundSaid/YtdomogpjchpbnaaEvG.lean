/- Slice expressions, composite literals. -/
import Derived.Test.YtdomogpjchpbnaaEvF
namespace Go.Ev
open Go Go.RowKit

variable {P : Program} {M M' : Mm} {H H1 : Heap} {w w' : World}
variable {e : Env} {a : Act} {n : Nat} {o : Oper} {v : V}

theorem intOf?_some {c : V} {k : Int} (h : intOf? c = some k) : ∃ kd, c = .int kd k := by
  cases c <;> simp_all [intOf?]

theorem chkXo_int {oo : Option Operand} {xx : Option X} (h : chkXo M.fm oo xx = true) (ht : RelT M w e a n) : ∀ x, xx = some x → ∀ k, intOf? (x.ev e) = some k → ∃ u kd, oo = some u ∧ a.eval u = .int kd k := by
  intro x hx k hk
  subst hx
  unfold chkXo at h
  split at h
  · cases ‹some x = none›
  · rename_i u y hy
    cases hy
    obtain ⟨kd, hc⟩ := intOf?_some hk
    have := chkX_enc h ht
    rw [hc] at this
    simp only [Enc] at this
    exact ⟨u, kd, rfl, this⟩
  · cases h
theorem chkXo_none {oo : Option Operand} {xx : Option X} (h : chkXo M.fm oo xx = true) (hx : xx = none) : oo = none := by
  subst hx
  unfold chkXo at h
  split at h <;> simp_all

/-- A slice expression's bounds, as the model has them. -/
theorem run_bounds {isS : Bool} {len cap l h : Nat} {m : Bool} {lo hi mx : Option Operand} {slo shi smx : Option X} (hlo : chkXo M.fm lo slo = true) (hhi : chkXo M.fm hi shi = true) (hmx : chkXo M.fm mx smx = true)
    (ht : RelT M w e a n) (hb : bounds e len slo shi smx = some (l, h, m)) (hle : len ≤ cap) :
    l ≤ h ∧ h ≤ len ∧ (m = false → (smx = none ∧ (shi = none → h = len))) ∧
    (Instr.sliceBounds isS len cap (lo.map a.eval) (hi.map a.eval) (mx.map a.eval)).run P w = .ok (l, h, if m then h else cap) w := by
  unfold bounds at hb
  simp only at hb
  split at hb
  case h_2 => cases hb
  rename_i l' h' m' hl hh hm
  split at hb
  case isFalse => cases hb
  rename_i hc
  obtain ⟨h1, h2, h3, h4, h5⟩ := hc
  simp only [Option.some.injEq, Prod.mk.injEq] at hb
  obtain ⟨rfl, rfl, rfl⟩ := hb
  have lowR : ∀ (y : Nat) (code : BoundsCode), h'.toNat ≤ y → ∀ u, lo = some u → (Instr.sliceBound (a.eval u) y code).run P w = .ok l'.toNat w := by
    intro y code hy u hu
    cases hs : slo with
    | none => have := chkXo_none hlo hs; rw [this] at hu; cases hu
    | some x =>
      simp only [hs] at hl
      obtain ⟨u', kd, hu', hk⟩ := chkXo_int hlo ht x hs l' hl
      rw [hu] at hu'; cases hu'
      rw [hk]
      exact run_sliceBound (P := P) w kd l' y code h1 (by omega)
  have highR : ∀ (y : Nat) (code : BoundsCode), h'.toNat ≤ y → ∀ u, hi = some u → (Instr.sliceBound (a.eval u) y code).run P w = .ok h'.toNat w := by
    intro y code hy u hu
    cases hs : shi with
    | none => have := chkXo_none hhi hs; rw [this] at hu; cases hu
    | some x =>
      simp only [hs] at hh
      obtain ⟨u', kd, hu', hk⟩ := chkXo_int hhi ht x hs h' hh
      rw [hu] at hu'; cases hu'
      rw [hk]
      exact run_sliceBound (P := P) w kd h' y code (by omega) (by omega)
  refine ⟨by omega, by omega, ?_, ?_⟩
  · intro hmf
    cases m' with
    | some v => simp at hmf
    | none =>
      cases hs : smx with
      | none => exact ⟨rfl, fun hhn => by simp only [hhn, Option.some.injEq] at hh; omega⟩
      | some x =>
        simp only [hs, Option.map_eq_some_iff] at hm
        obtain ⟨_, _, hm⟩ := hm
        cases hm
  · cases hmo : mx with
    | some um =>
      -- a third index
      cases hs : smx with
      | none => have := chkXo_none hmx hs; rw [this] at hmo; cases hmo
      | some x =>
        simp only [hs, Option.map_eq_some_iff] at hm
        obtain ⟨k, hk, hm⟩ := hm
        subst hm
        obtain ⟨u', kd, hu', hke⟩ := chkXo_int hmx ht x hs k hk
        rw [hmo] at hu'; cases hu'
        have hkh : k = h' := h4 k rfl
        subst hkh
        have hsh : shi.isSome = true := h5 (by simp [hs])
        obtain ⟨xh, hxh⟩ := Option.isSome_iff_exists.1 hsh
        simp only [hxh] at hh
        obtain ⟨uh, kh, huh, hkh⟩ := chkXo_int hhi ht xh hxh k hh
        have hm1 := fun code => run_sliceBound (P := P) w kd k cap code (by omega) (by omega)
        have hh1 := highR k.toNat .slice3B (Nat.le_refl _) uh huh
        cases hlo' : lo with
        | none =>
          have : slo = none := by
            cases hss : slo with
            | none => rfl
            | some x => simp [hlo', hss, chkXo] at hlo
          simp only [this, Option.some.injEq] at hl
          subst hl
          simp [Instr.sliceBounds, huh, hke, hm1, hh1]
        | some ul =>
          have hl1 := lowR k.toNat .slice3C (Nat.le_refl _) ul hlo'
          simp [Instr.sliceBounds, huh, hke, hm1, hh1, hl1]
    | none =>
      have hsm : smx = none := by
        cases hss : smx with
        | none => rfl
        | some x => simp [hmo, hss, chkXo] at hmx
      simp only [hsm, Option.some.injEq] at hm
      subst hm
      cases hhi' : hi with
      | none =>
        have hsh : shi = none := by
          cases hss : shi with
          | none => rfl
          | some x => simp [hhi', hss, chkXo] at hhi
        simp only [hsh, Option.some.injEq] at hh
        subst hh
        cases hlo' : lo with
        | none =>
          have : slo = none := by
            cases hss : slo with
            | none => rfl
            | some x => simp [hlo', hss, chkXo] at hlo
          simp only [this, Option.some.injEq] at hl
          subst hl
          simp [Instr.sliceBounds]
        | some ul =>
          have hl1 := lowR len .sliceB (by omega) ul hlo'
          simp [Instr.sliceBounds, hl1]
      | some uh =>
        have hh1 := fun code => highR cap code (by omega) uh hhi'
        cases hlo' : lo with
        | none =>
          have : slo = none := by
            cases hss : slo with
            | none => rfl
            | some x => simp [hlo', hss, chkXo] at hlo
          simp only [this, Option.some.injEq] at hl
          subst hl
          simp [Instr.sliceBounds, hh1]
        | some ul =>
          have hl1 := lowR h'.toNat .sliceB (Nat.le_refl _) ul hlo'
          simp [Instr.sliceBounds, hh1, hl1]

theorem encRows_sub {b off l k sz : Nat} {es : List (List V)} (h : EncRows M w b es off) (hs : ∀ e ∈ es, e.length = sz) (hl : l ≤ es.length) : EncRows M w b ((es.drop l).take k) (off + l * sz) := by
  have h1 : EncRows M w b (es.drop l) (off + l * sz) := by
    have h2 := h
    rw [← List.take_append_drop l es, encRows_append] at h2
    have : (es.take l).flatten.length = l * sz := by
      rw [flatten_len (sz := sz) (fun e he => hs e (List.mem_of_mem_take he)), List.length_take, Nat.min_eq_left hl]
    rw [this] at h2
    exact h2.2
  rw [← List.take_append_drop k (es.drop l), encRows_append] at h1
  exact h1.1

theorem slc_ok {t el : TypeId} {x : Operand} {sx : X} {lo hi mx : Option Operand} {slo shi smx : Option X} {base sz : Nat} {i : TypeInfo} (ho : o.op = .slice t x lo hi mx) (hx : chkX M.fm x sx = true)
    (hu0 : elemOf? P t = some el) (hi' : P.info? el = some i) (hsz : i.size = sz) (hlo : chkXo M.fm lo slo = true) (hhi : chkXo M.fm hi shi = true) (hmx : chkXo M.fm mx smx = true)
    (ht : RelT M w e a n) (hr : HRel M w H) (hv : ev1 base e H (.slc sz sx slo shi smx) = some (v, H1)) : OpOk P o a M H w v H1 := by
  have hx' := chkX_enc hx ht
  have hu := elemOf?_some hu0
  have hrun : ∀ (ad : Option Addr) (len cap l h mm : Nat), a.eval x = .slice ad len cap → (Instr.sliceBounds true len cap (lo.map a.eval) (hi.map a.eval) (mx.map a.eval)).run P w = .ok (l, h, mm) w →
      (execOp a.eval o).run P w = .ok (.value (.slice (if mm = l then ad else ad.map (·.add (l * sz))) (h - l) (mm - l))) w := by
    intro ad len cap l h mm h1 h2
    simp [execOp, ho, h1, Instr.sliceAt, Instr.slice, run_underlying hu, h2, sizeOf, typeInfo, hi', hsz]
  simp only [ev1] at hv
  split at hv
  · rename_i es tk hp
    split at hv
    case h_2 => cases hv
    rename_i l h m hb
    split at hv
    case isFalse => cases hv
    rename_i hes
    cases hv
    rw [hp] at hx'
    simp only [Enc] at hx'
    obtain ⟨hpu, ad, cap, hxe, hle, hrows, htk⟩ := hx'
    obtain ⟨hlh, hhl, hm, hbr⟩ := run_bounds (P := P) (w := w) (isS := true) hlo hhi hmx ht hb hle
    refine .plain hr (hrun ad es.length cap l h _ hxe hbr) ?_
    have hlen : ((es.drop l).take (h - l)).length = h - l := by rw [List.length_take, List.length_drop]; omega
    have hmm : h ≤ (if m = true then h else cap) := by split <;> omega
    simp only [Enc]
    refine ⟨fun d hd => hpu d (List.mem_of_mem_drop (List.mem_of_mem_take hd)), (if (if m = true then h else cap) = l then ad else ad.map (·.add (l * sz))), (if m = true then h else cap) - l, by rw [hlen], by rw [hlen]; omega, ?_, ?_⟩
    · by_cases hml : (if m = true then h else cap) = l
      · rw [if_pos hml]
        have h0 : (es.drop l).take (h - l) = [] := by rw [show h - l = 0 by omega]; simp
        rw [h0]
        cases ad with
        | none => exact ⟨rfl, by omega⟩
        | some ad => exact ⟨.inl rfl, ⟨0, by simp⟩, by simp only [EncRows]⟩
      · rw [if_neg hml]
        cases ad with
        | none =>
          exfalso
          obtain ⟨he0, hc0⟩ := hrows
          subst he0
          simp only [List.length_nil] at hhl
          apply hml
          split <;> omega
        | some ad =>
          obtain ⟨b, off, sp⟩ := ad
          obtain ⟨hsp, _, hrows⟩ := hrows
          by_cases hes0 : es = []
          · subst hes0
            exact ⟨.inl (by simp), ⟨0, by simp⟩, by simp [EncRows]⟩
          have hsp := hsp.resolve_left hes0
          simp only at hsp hrows
          subst hsp
          simp only [Option.map_some, Addr.add_lit]
          exact ⟨.inr trivial, ⟨sz, fun d hd => hes d (List.mem_of_mem_drop (List.mem_of_mem_take hd))⟩, encRows_sub hrows hes (by omega)⟩
    · by_cases hc : m = true ∨ tk = .full ∧ h = es.length
      · rw [if_pos hc]
        simp only [TkOk, hlen]
        rcases hc with hc | ⟨hc, hhe⟩
        · rw [if_pos hc]
        · subst hc
          simp only [TkOk] at htk
          split <;> omega
      · rw [if_neg hc]
        trivial
  · rename_i id off k szz hp
    split at hv
    case h_2 => cases hv
    rename_i l h m hb
    split at hv
    case isFalse => cases hv
    rename_i hc
    cases hv
    rw [hp] at hx'
    simp only [Enc] at hx'
    obtain ⟨ha, cap, hxe, hle⟩ := hx'
    obtain ⟨hlh, hhl, hm, hbr⟩ := run_bounds (P := P) (w := w) (isS := true) hlo hhi hmx ht hb hle
    refine .plain hr (hrun _ k cap l h _ hxe hbr) ?_
    have hmm : h ≤ (if m = true then h else cap) := by split <;> omega
    simp only [Enc]
    refine ⟨ha, (if m = true then h else cap) - l, ?_, by omega⟩
    congr 1
    by_cases hml : (if m = true then h else cap) = l
    · rw [if_pos hml]
      have : l = 0 := by
        rcases hc with hc | ⟨hc, hmf⟩
        · exact hc
        · rw [hmf] at hml; simp at hml; omega
      subst this
      simp
    · rw [if_neg hml]
      simp [Addr.add_lit]
  · cases hv

/-- Values laid over cells, one by one. -/
theorem foldl_set (vs : List Value) (off : Nat) : ∀ (k : Nat) (cs : Array Value), off + k + vs.length ≤ cs.size →
    ((vs.zipIdx k).foldl (fun cs (c : Value × Nat) => cs.setIfInBounds (off + c.2) c.1) cs).toList = cs.toList.take (off + k) ++ vs ++ cs.toList.drop (off + k + vs.length) := by
  induction vs with
  | nil => intro k cs _; simp
  | cons v vs ih =>
    intro k cs h
    simp only [List.zipIdx_cons, List.foldl_cons, List.length_cons] at h ⊢
    rw [ih (k + 1) _ (by simp; omega)]
    simp only [Array.toList_setIfInBounds]
    have hlt : off + k < cs.toList.length := by simp; omega
    have h1 : (cs.toList.set (off + k) v).take (off + (k + 1)) = cs.toList.take (off + k) ++ [v] := by
      rw [show off + (k + 1) = off + k + 1 by omega, List.take_succ_eq_append_getElem (by simpa using hlt), List.take_set_of_le (Nat.le_refl _)]
      simp
    have h2 : (cs.toList.set (off + k) v).drop (off + (k + 1) + vs.length) = cs.toList.drop (off + k + (vs.length + 1)) := by
      rw [List.drop_set_of_lt (by omega)]
      congr 1
      omega
    rw [h1, h2]
    simp

/-- Parts: a place's offset and cells, an operand. -/
def chkParts (fm : Fm) (place : Nat → Option (Nat × Nat)) : List (Nat × Operand) → List (Nat × Nat × X) → Bool
  | [], [] => true
  | (i, x) :: ps, (off, sz, sx) :: qs => (match place i with | some (off', sz') => off' == off && sz' == sz | none => false) && chkX fm x sx && chkParts fm place ps qs
  | _, _ => false

theorem fill_ok {place : Nat → Option (Nat × Nat)} (ht : RelT M w e a n) : ∀ {ps : List (Nat × Operand)} {qs : List (Nat × Nat × X)} {cs ds : List V} {xs : Array Value},
    chkParts M.fm place ps qs = true → fillC e cs qs = some ds → EncL M w cs xs.toList → (∀ c ∈ cs, c.scal = true) →
    ∃ ys, Instr.fill place xs (ps.map fun p => (p.1, a.eval p.2)) = some ys ∧ EncL M w ds ys.toList ∧ ∀ c ∈ ds, c.scal = true
  | [], [], cs, ds, xs, _, hf, he, hs => by
    simp only [fillC, Option.some.injEq] at hf
    subst hf
    exact ⟨xs, rfl, he, hs⟩
  | [], _ :: _, _, _, _, hc, _, _, _ => by simp [chkParts] at hc
  | _ :: _, [], _, _, _, hc, _, _, _ => by simp [chkParts] at hc
  | (i, x) :: ps, (off, sz, sx) :: qs, cs, ds, xs, hc, hf, he, hs => by
    simp only [chkParts, Bool.and_eq_true] at hc
    obtain ⟨⟨hpl, hx⟩, hc⟩ := hc
    split at hpl
    case h_2 => cases hpl
    rename_i off' sz' hplace
    simp only [Bool.and_eq_true, beq_iff_eq] at hpl
    obtain ⟨rfl, rfl⟩ := hpl
    simp only [fillC] at hf
    split at hf
    case h_2 => cases hf
    rename_i us hus
    split at hf
    case isFalse => cases hf
    rename_i hle
    obtain ⟨h1, h2⟩ := enc_cells (chkX_enc hx ht) hus
    have hul := encL_length h1
    have hxl := encL_length he
    have hsz : (a.eval x).cells.size = sz' := by rw [← Array.length_toList, hul, hle.1]
    have hfold := foldl_set (a.eval x).cells.toList off' 0 xs (by simp at hxl ⊢; omega)
    simp only [Nat.add_zero, Array.length_toList, hsz] at hfold
    have hcs' : EncL M w (cs.take off' ++ us ++ cs.drop (off' + us.length)) (xs.toList.take off' ++ (a.eval x).cells.toList ++ xs.toList.drop (off' + sz')) := by
      rw [hle.1]
      exact encL_append (encL_append (encL_take he _) h1) (encL_drop he _)
    rw [← hfold] at hcs'
    obtain ⟨ys, hy1, hy2, hy3⟩ := fill_ok ht hc hf hcs' (fun c hc => by
      simp only [List.mem_append] at hc
      rcases hc with (hc | hc) | hc
      · exact hs c (List.mem_of_mem_take hc)
      · exact h2 c hc
      · exact hs c (List.mem_of_mem_drop hc))
    refine ⟨ys, ?_, hy2, hy3⟩
    simp only [List.map_cons, Instr.fill, hplace]
    rw [if_neg]
    · have hz : (a.eval x).cells.zipIdx.foldl (fun cs (c : Value × Nat) => cs.setIfInBounds (off' + c.2) c.1) xs = ((a.eval x).cells.toList.zipIdx 0).foldl (fun cs (c : Value × Nat) => cs.setIfInBounds (off' + c.2) c.1) xs := by
        rw [← Array.foldl_toList, Array.toList_zipIdx]
      rw [← hy1]
      congr 1
    · simp only [Bool.or_eq_true, decide_eq_true_eq, not_or]
      simp at hxl
      exact ⟨by simp [hsz], by omega⟩

def placesOf (P : Program) (t : TypeId) (i : Nat) : Option (Nat × Nat) :=
  match P.underlying t with
  | some (.struct fs) => match fs[i]? with
    | some f => match P.info? f.type with
      | some inf => some (f.offset, inf.size)
      | none => none
    | none => none
  | some (.array _ el) => match P.info? el with
    | some inf => some (i * inf.size, inf.size)
    | none => none
  | _ => none
/-- Every field's type has a row. -/
def typed (P : Program) (t : TypeId) : Bool :=
  match P.underlying t with
  | some (.struct fs) => fs.all fun f => (P.info? f.type).isSome
  | some (.array _ el) => (P.info? el).isSome
  | _ => false

def placeM (f : Field) : Sem (Nat × Nat) := do pure (f.offset, ← sizeOf f.type)
theorem run_placeM {f : Field} {inf : TypeInfo} (h : P.info? f.type = some inf) : (placeM f).run P w = .ok (f.offset, inf.size) w := by
  simp [placeM, sizeOf, typeInfo, h]
theorem run_mapM_places : ∀ fs : List Field, (∀ f ∈ fs, (P.info? f.type).isSome = true) → (fs.mapM placeM).run P w =
    .ok (fs.map fun f => (f.offset, ((P.info? f.type).map (·.size)).getD 0)) w
  | [], _ => by simp
  | f :: fs, h => by
    obtain ⟨inf, hf⟩ := Option.isSome_iff_exists.1 (h f (by simp))
    rw [List.mapM_cons, Sem.run_bind, run_placeM hf, Result.andThen_ok, Sem.run_bind, run_mapM_places fs (fun g hg => h g (by simp [hg])), Result.andThen_ok]
    simp [hf]
theorem run_mapM_placesA {fs : Array Field} (h : fs.all (fun f => (P.info? f.type).isSome) = true) : (fs.mapM placeM).run P w =
    .ok (fs.toList.map fun f => (f.offset, ((P.info? f.type).map (·.size)).getD 0)).toArray w := by
  rw [Array.mapM_eq_mapM_toList, Sem.run_map, run_mapM_places fs.toList (fun f hf => (Array.all_eq_true_iff_forall_mem.1 h) f (by simpa using hf))]
  rfl

theorem build_ok {t : TypeId} {ps : Array (Nat × Operand)} {z : List V} {qs : List (Nat × Nat × X)} {base : Nat} {i : TypeInfo} {zv : Value} (ho : o.op = .build t ps)
    (hi : P.info? t = some i) (hz : i.zero = some zv) (hzz : encSs zv.cells.toList z = true) (hty : typed P t = true) (hp : chkParts M.fm (placesOf P t) ps.toList qs = true)
    (ht : RelT M w e a n) (hr : HRel M w H) (hv : ev1 base e H (.build z qs) = some (v, H1)) : OpOk P o a M H w v H1 := by
  simp only [ev1] at hv
  split at hv
  case h_2 => cases hv
  rename_i cs hcs
  cases hv
  obtain ⟨ys, h1, h2, h3⟩ := fill_ok (w := w) ht hp hcs (encSs_encL hzz) (fun c hc => V.scal_of_pure (encSs_pure hzz c hc))
  refine .plain (rv := .agg ys) hr ?_ (by simp only [Enc]; exact ⟨h3, ys.toList, by simp, h2⟩)
  have hmap : (ps.map fun p => (p.1, a.eval p.2)).toList = ps.toList.map fun p => (p.1, a.eval p.2) := by simp
  unfold typed at hty
  split at hty
  · rename_i fs hu
    have hpl : (fun k => ((fs.toList.map fun f => (f.offset, ((P.info? f.type).map (·.size)).getD 0))[k]?)) = placesOf P t := by
      funext k
      simp only [placesOf, hu, List.getElem?_map]
      rw [Array.getElem?_toList]
      cases hk : fs[k]? with
      | none => rfl
      | some f =>
        have hm := Array.mem_of_getElem? hk
        have := (Array.all_eq_true_iff_forall_mem.1 hty) f hm
        obtain ⟨inf, hf⟩ := Option.isSome_iff_exists.1 this
        simp [hf]
    have hmm := run_mapM_placesA (P := P) (w := w) hty
    have h1' : Instr.fill (fun k => (fs.toList.map fun f => (f.offset, ((P.info? f.type).map (·.size)).getD 0)).toArray[k]?) zv.cells (ps.map fun p => (p.1, a.eval p.2)).toList = some ys := by
      rw [hmap, ← h1, ← hpl]
      congr 1
      funext k
      simp
    have hb : (Instr.build t (ps.map fun p => (p.1, a.eval p.2))).run P w = .ok (.agg ys) w := by
      unfold Instr.build
      simp only [Sem.run_bind, zeroValue, typeInfo, run_program, hi, hz, Sem.run_pure, Result.andThen_ok, run_underlying hu]
      change ((fs.mapM placeM).run P w).andThen _ = _
      rw [hmm, Result.andThen_ok]
      simp only [h1', Sem.run_pure]
    simp only [execOp, ho, Sem.run_bind, Sem.run_pure]
    change (Result.andThen ((Instr.build t (ps.map fun p => (p.1, a.eval p.2))).run P w) _) = _
    rw [hb]
    rfl
  · rename_i k el hu
    obtain ⟨inf, hf⟩ := Option.isSome_iff_exists.1 hty
    have hpl : (fun k => some (k * inf.size, inf.size)) = placesOf P t := by
      funext k
      simp [placesOf, hu, hf]
    have h1' : Instr.fill (fun k => some (k * inf.size, inf.size)) zv.cells (ps.map fun p => (p.1, a.eval p.2)).toList = some ys := by
      rw [hmap, hpl]
      exact h1
    have hb : (Instr.build t (ps.map fun p => (p.1, a.eval p.2))).run P w = .ok (.agg ys) w := by
      unfold Instr.build
      simp only [Sem.run_bind, zeroValue, typeInfo, run_program, hi, hz, Sem.run_pure, Result.andThen_ok, run_underlying hu, sizeOf, hf, h1']
    simp only [execOp, ho, Sem.run_bind, Sem.run_pure]
    change (Result.andThen ((Instr.build t (ps.map fun p => (p.1, a.eval p.2))).run P w) _) = _
    rw [hb]
    rfl
  · cases hty

/-- A slice of a block's array. -/
theorem slcA_ok {t el : TypeId} {x : Operand} {sx : X} {lo hi : Option Operand} {slo shi : Option X} {base sz len : Nat} {i : TypeInfo} (ho : o.op = .slice t x lo hi none) (hx : chkX M.fm x sx = true)
    (hu0 : arrOf? P t = some (len, el)) (hi' : P.info? el = some i) (hsz : i.size = sz) (hlo : chkXo M.fm lo slo = true) (hhi : chkXo M.fm hi shi = true)
    (ht : RelT M w e a n) (hr : HRel M w H) (hv : ev1 base e H (.slcA len sz sx slo shi) = some (v, H1)) : OpOk P o a M H w v H1 := by
  have hx' := chkX_enc hx ht
  have hu := arrOf?_some hu0
  simp only [ev1] at hv
  split at hv
  case h_2 => cases hv
  rename_i l h m hb
  split at hv
  case h_2 => cases hv
  rename_i id off hp
  split at hv
  case isFalse => cases hv
  rename_i hl
  cases hv
  rw [hp] at hx'
  simp only [Enc] at hx'
  obtain ⟨hlh, hhl, hm, hbr⟩ := run_bounds (P := P) (w := w) (isS := false) (mx := none) hlo hhi rfl ht hb (Nat.le_refl len)
  have hmf : m = false := by
    unfold bounds at hb
    simp only at hb
    split at hb
    case h_2 => cases hb
    split at hb
    case isFalse => cases hb
    rename_i hmm _
    simp only [Option.some.injEq, Prod.mk.injEq] at hb
    simp only [Option.some.injEq] at hmm
    rw [← hb.2.2, ← hmm]; rfl
  subst hmf
  simp only [Bool.false_eq_true, if_false] at hbr
  have hne : ¬ len = l := by omega
  refine .plain (rv := .slice (some ⟨M.j id, off + l * sz, none⟩) (h - l) (len - l)) hr ?_ (by simp only [Enc]; exact ⟨hx'.1, len - l, rfl, by omega⟩)
  simp only [Option.map_none] at hbr
  simp [execOp, ho, hx'.2, Instr.sliceAt, Instr.sureAddr, run_underlying hu, hbr, sizeOf, typeInfo, hi', hsz, hne, Addr.add_lit]

end Go.Ev
