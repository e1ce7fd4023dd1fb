/- Maps, and the signs of a text one by one. -/
import Derived.Test.YtdomogpjchpbnaaEvJ
import Derived.Carry
namespace Go.Ev
open Go Go.RowKit
set_option linter.unusedSimpArgs false
set_option linter.unusedVariables false

variable {P : Program} {M M' : Mm} {H H1 : Heap} {w w' : World}
variable {e : Env} {a : Act} {n : Nat} {o : Oper} {v : V}

/-- A type is one of keys. -/
def kyOk (P : Program) (t : TypeId) : Ky → Bool
  | .sc .int => match P.underlying t with | some (.int _) => true | _ => false
  | .sc .bool => match P.underlying t with | some .bool => true | _ => false
  | .sc .str => match P.underlying t with | some .string => true | _ => false
  | .row ks => kdsOf P 20 t == some ks && tyAg P t

/-- A value of a row type can be a key. -/
def CkOk (P : Program) (d : Nat) (t : TypeId) (ks : List Kd) : Prop :=
  ∀ (em : Bool) (M : Mm) (w w2 : World) (cs : List V) (xs : List Value) (b : Bool), EncL M w cs xs → eqks ks cs cs = some b → (Instr.checkKey em d t (mkR (tyAg P t) xs)).run P w2 = .ok () w2

theorem ckOf : ∀ {k : Nat} {t : TypeId} {ks : List Kd} {d : Nat}, kdsOf P k t = some ks → k ≤ d → CkOk P d t ks
  | 0, t, ks, d, h, _ => by simp [kdsOf] at h
  | k + 1, t, ks, 0, h, hd => by omega
  | k + 1, t, ks, d + 1, h, hd => by
    have sub : ∀ t ks, kdsOf P k t = some ks → tyOk P t ks.length (tyAg P t) = true ∧ CkOk P d t ks := fun t ks h => ⟨kdsOf_ok h, ckOf h (by omega)⟩
    simp only [kdsOf] at h
    split at h
    case h_2 => cases h
    rename_i ks' hks
    split at h
    case isFalse => cases h
    rename_i ht0
    cases h
    clear ht0
    intro em M w w2 cs xs b hx he
    have hxl := encL_length hx
    have plain : (∃ k0, P.underlying t = some (.int k0)) ∨ P.underlying t = some .bool ∨ P.underlying t = some .string → (Instr.checkKey em (d + 1) t (mkR (tyAg P t) xs)).run P w2 = .ok () w2 := by
      intro hu
      unfold Instr.checkKey
      rcases hu with ⟨k0, hu⟩ | hu | hu <;> simp [run_underlying hu]
    split at hks
    · rename_i k0 hu; exact plain (.inl ⟨k0, hu⟩)
    · rename_i hu; exact plain (.inr (.inl hu))
    · rename_i hu; exact plain (.inr (.inr hu))
    · rename_i fs hu
      have hag : tyAg P t = true := by simp [tyAg, hu, TypeDesc.isRow]
      split at hks
      case isFalse => cases hks
      rw [hag]
      simp only [mkR, if_true]
      rw [Instr.checkKey]
      simp only [Sem.run_bind, run_underlying hu, Result.andThen_ok]
      rw [← Array.forIn_toList]
      obtain ⟨off, hoff⟩ : ∃ off, off = 0 := ⟨0, rfl⟩
      replace he : eqks ks (cs.drop off) (cs.drop off) = some b := by rw [hoff]; simpa using he
      have hof : off ≤ xs.length := by omega
      rw [← hoff] at hks
      clear hoff
      generalize fs.toList = L at hks
      induction L generalizing off ks b with
      | nil => simp
      | cons f L ih =>
        simp only [kdsFs] at hks
        split at hks
        case isFalse => cases hks
        rename_i hf
        obtain ⟨hname, hoff⟩ := hf
        split at hks
        case h_2 => cases hks
        rename_i k1 hk1
        split at hks
        case h_2 => cases hks
        rename_i rs hrs
        cases hks
        obtain ⟨hty, hck⟩ := sub _ _ hk1
        obtain ⟨x, y, h1, h2, rfl⟩ := eqks_append he
        obtain ⟨l1, _⟩ := eqks_len h1
        simp only [List.length_take, List.length_drop] at l1
        have px := run_part_tl (P := P) (w := w2) (off := off) (xs := xs) hty (by omega)
        have pc := hck em M w w2 _ _ x (encL_take (encL_drop hx off) k1.length) h1
        simp only [List.forIn_cons, Sem.run_bind, hname, hoff, ne_eq, not_false_eq_true, if_true, Result.andThen_ok, px, pc, Sem.run_pure]
        have q1 : eqks rs (cs.drop (off + k1.length)) (cs.drop (off + k1.length)) = some y := by simpa [List.drop_drop] using h2
        have q2 : off + k1.length ≤ xs.length := by omega
        exact ih (ks := rs) (b := y) (off := off + k1.length) q1 q2 hrs
    · rename_i m el hu
      have hag : tyAg P t = true := by simp [tyAg, hu, TypeDesc.isRow]
      split at hks
      case h_2 => cases hks
      rename_i k1 hk1
      simp only [Option.some.injEq] at hks
      rw [hag]
      obtain ⟨hty, hck⟩ := sub _ _ hk1
      have hty' := hty
      unfold tyOk at hty'
      split at hty'
      case h_2 => cases hty'
      rename_i _ i hi0 hi
      simp only [Bool.and_eq_true, beq_iff_eq] at hty'
      have hsz : ∀ w3 : World, (sizeOf el).run P w3 = .ok k1.length w3 := fun w3 => by simp [sizeOf, typeInfo, hi, hty'.1]
      simp only [mkR, if_true]
      rw [Instr.checkKey]
      simp only [Sem.run_bind, run_underlying hu, Result.andThen_ok]
      simp only [Std.Legacy.Range.forIn_eq_forIn_range', Std.Legacy.Range.size, Nat.sub_zero, Nat.add_one_sub_one, Nat.div_one]
      obtain ⟨off, hoff⟩ : ∃ off, off = 0 := ⟨0, rfl⟩
      replace he : eqks (List.replicate m k1).flatten (cs.drop (off * k1.length)) (cs.drop (off * k1.length)) = some b := by rw [hks, hoff]; simpa using he
      have hof : off * k1.length ≤ xs.length := by rw [hoff]; omega
      have hg : List.range' 0 m = List.range' off m := by rw [hoff]
      rw [hg]
      clear hoff hg hks hu
      induction m generalizing off b with
      | zero => simp
      | succ m ih =>
        rw [List.replicate_succ, List.flatten_cons] at he
        obtain ⟨x, y, h1, h2, rfl⟩ := eqks_append he
        obtain ⟨l1, _⟩ := eqks_len h1
        simp only [List.length_take, List.length_drop] at l1
        have px := run_part_tl (P := P) (w := w2) (off := off * k1.length) (xs := xs) hty (by omega)
        have pc := hck em M w w2 _ _ x (encL_take (encL_drop hx _) k1.length) h1
        have hnext : (off + 1) * k1.length = off * k1.length + k1.length := by rw [Nat.add_mul, Nat.one_mul]
        rw [List.range'_succ]
        simp only [List.forIn_cons, Sem.run_bind, hsz, Result.andThen_ok, px, pc, Sem.run_pure]
        have q1 : eqks (List.replicate m k1).flatten (cs.drop ((off + 1) * k1.length)) (cs.drop ((off + 1) * k1.length)) = some y := by rw [hnext]; simpa [List.drop_drop] using h2
        have q2 : (off + 1) * k1.length ≤ xs.length := by omega
        exact ih (b := y) (off := off + 1) q1 q2
    · cases hks

theorem kyOk_desc {t : TypeId} {ky : Ky} (hk : kyOk P t ky = true) : ∃ d, P.underlying t = some d ∧ (ky.isRow = true → d.isRow = true) := by
  unfold kyOk at hk
  split at hk
  · split at hk
    · exact ⟨_, ‹_›, fun h => by cases h⟩
    · cases hk
  · split at hk
    · exact ⟨_, ‹_›, fun h => by cases h⟩
    · cases hk
  · split at hk
    · exact ⟨_, ‹_›, fun h => by cases h⟩
    · cases hk
  · simp only [Bool.and_eq_true, beq_iff_eq] at hk
    have h2 := hk.2
    unfold tyAg at h2
    split at h2
    · rename_i d hd; exact ⟨d, hd, fun _ => h2⟩
    · cases h2
theorem kyOk_row {t : TypeId} {ks : List Kd} (hk : kyOk P t (.row ks) = true) : kdsOf P 20 t = some ks ∧ tyAg P t = true := by
  simpa [kyOk] using hk
/-- What was found, in memory. -/
def Found (M : Mm) (w : World) (es : List (V × V)) (ents : List MapEntry) (i : Nat) : Option (Nat × V) → Option (Nat × Value) → Prop
  | none, none => True
  | some (j, u), some (j', x) => j = j' ∧ i ≤ j ∧ (∃ p ent, es[j - i]? = some p ∧ ents[j - i]? = some ent ∧ p.2 = u ∧ ent.val = x) ∧ Enc M w u x
  | _, _ => False

theorem find_ok {t : TypeId} {ky : Ky} {kv : V} {kx : Value} (hk : kyOk P t ky = true) (hsc : ky.isRow = false) (hkv : Enc M w kv kx) : ∀ {es : List (V × V)} {ents : List MapEntry} {i : Nat} {r : Option (Nat × V)},
    EncL M w (es.map (·.1)) (ents.map (·.key)) → EncL M w (es.map (·.2)) (ents.map (·.val)) → mfind ky kv es i = some r →
    ∃ d r', P.underlying t = some d ∧ Instr.findNow d kx ents i = some r' ∧ Found M w es ents i r r'
  | [], ents, i, r, h1, h2, h => by
    have hl := encL_length h1
    simp only [List.map_nil, List.length_map, List.length_nil] at hl
    have : ents = [] := List.eq_nil_of_length_eq_zero hl
    subst this
    simp only [mfind, Option.some.injEq] at h
    subst h
    obtain ⟨d, hd, _⟩ := kyOk_desc hk
    exact ⟨d, none, hd, rfl, trivial⟩
  | p :: es, [], i, r, h1, h2, h => by
    have hl := encL_length h1
    simp at hl
  | p :: es, ent :: ents, i, r, h1, h2, h => by
    simp only [List.map_cons, EncL] at h1 h2
    obtain ⟨x1, xs1, e1, h1, h1'⟩ := h1
    obtain ⟨x2, xs2, e2, h2, h2'⟩ := h2
    cases e1
    cases e2
    have hs : ∀ b, keyEq ky kv p.1 = some b → ∃ d, P.underlying t = some d ∧ Instr.sameNow d kx ent.key = some b := by
      intro b hb
      unfold kyOk at hk
      split at hk
      · split at hk
        · rename_i k0 hu
          refine ⟨_, hu, ?_⟩
          unfold keyEq at hb
          cases hc : kv <;> rw [hc] at hb hkv <;> cases hd : p.1 <;> rw [hd] at hb h1 <;> simp only [eqk, reduceCtorEq] at hb
          simp only [Enc] at hkv h1
          rw [hkv, h1]
          split at hb
          · rename_i hkk
            simp only [Instr.sameNow, hkk, if_true]; exact hb
          · cases hb
        · cases hk
      · split at hk
        · rename_i hu
          refine ⟨_, hu, ?_⟩
          unfold keyEq at hb
          cases hc : kv <;> rw [hc] at hb hkv <;> cases hd : p.1 <;> rw [hd] at hb h1 <;> simp only [eqk, reduceCtorEq] at hb
          simp only [Enc] at hkv h1
          rw [hkv, h1]
          simp only [Instr.sameNow]; exact hb
        · cases hk
      · split at hk
        · rename_i hu
          refine ⟨_, hu, ?_⟩
          unfold keyEq at hb
          cases hc : kv <;> rw [hc] at hb hkv <;> cases hd : p.1 <;> rw [hd] at hb h1 <;> simp only [eqk, reduceCtorEq] at hb
          simp only [Enc] at hkv h1
          rw [hkv, h1]
          simp only [Instr.sameNow, beq_toListBytes, ByteArray.toList_mk]; exact hb
        · cases hk
      · cases hsc
    simp only [mfind] at h
    split at h
    · rename_i hq
      obtain ⟨d, hd, hsn⟩ := hs true hq
      simp only [Option.some.injEq] at h
      subst h
      refine ⟨d, some (i, ent.val), hd, by simp only [Instr.findNow, hsn], rfl, Nat.le_refl _, ⟨p, ent, by simp, by simp, rfl, rfl⟩, h2⟩
    · rename_i hq
      obtain ⟨d, hd, hsn⟩ := hs false hq
      obtain ⟨d', r', hd', hf, hr⟩ := find_ok hk hsc hkv h1' h2' h
      rw [hd] at hd'; cases hd'
      refine ⟨d, r', hd, by simp only [Instr.findNow, hsn]; exact hf, ?_⟩
      cases r with
      | none => cases r' <;> simp only [Found] at hr ⊢
      | some q =>
        obtain ⟨j, u⟩ := q
        cases r' with
        | none => simp only [Found] at hr
        | some q' =>
          obtain ⟨j', x⟩ := q'
          simp only [Found] at hr ⊢
          obtain ⟨a1, a2, ⟨p', ent', b1, b2, b3, b4⟩, a4⟩ := hr
          refine ⟨a1, by omega, ⟨p', ent', ?_, ?_, b3, b4⟩, a4⟩
          · rw [show j - i = (j - (i + 1)) + 1 by omega]; simpa using b1
          · rw [show j - i = (j - (i + 1)) + 1 by omega]; simpa using b2
    · cases h

theorem key_is {t : TypeId} {ky : Ky} {kv : V} {kx : Value} (hk : kyOk P t ky = true) (hkv : Enc M w kv kx) (hg : ky.isRow = true → ∃ b, keyEq ky kv kv = some b) (em : Bool) (w2 : World) : (Instr.checkKey em 10000 t kx).run P w2 = .ok () w2 := by
  cases ky with
  | sc kd =>
    unfold kyOk at hk
    split at hk
    case h_4 => rename_i heq; cases heq
    all_goals
      split at hk
      · rename_i hu
        unfold Instr.checkKey
        simp [run_underlying hu]
      · cases hk
  | row ks =>
    obtain ⟨h1, h2⟩ := kyOk_row hk
    obtain ⟨b, hb⟩ := hg rfl
    cases kv <;> simp only [keyEq, reduceCtorEq] at hb
    simp only [Enc] at hkv
    obtain ⟨_, xs, rfl, hx⟩ := hkv
    have := ckOf (P := P) (d := 10000) h1 (by omega) em M w w2 _ xs b hx hb
    rw [h2] at this
    simpa only [mkR, if_true] using this

/-- Rows are asked one by one. -/
theorem ask_ok {t : TypeId} {ks : List Kd} {cs : List V} {kx : Value} (h1 : kdsOf P 20 t = some ks) (h2 : tyAg P t = true) (hkv : Enc M w (.agg cs) kx) : ∀ {es : List (V × V)} {ents : List MapEntry} {i : Nat} {r : Option (Nat × V)},
    EncL M w (es.map (·.1)) (ents.map (·.key)) → EncL M w (es.map (·.2)) (ents.map (·.val)) → mfind (.row ks) (.agg cs) es i = some r →
    ∃ r', (∀ w2, (Instr.findAsking t kx ents i).run P w2 = .ok r' w2) ∧ Found M w es ents i r r'
  | [], ents, i, r, e1, e2, h => by
    have hl := encL_length e1
    simp only [List.map_nil, List.length_map, List.length_nil] at hl
    have : ents = [] := List.eq_nil_of_length_eq_zero hl
    subst this
    simp only [mfind, Option.some.injEq] at h
    subst h
    exact ⟨none, fun w2 => by simp [Instr.findAsking], trivial⟩
  | p :: es, [], i, r, e1, e2, h => by
    have hl := encL_length e1
    simp at hl
  | p :: es, ent :: ents, i, r, e1, e2, h => by
    simp only [List.map_cons, EncL] at e1 e2
    obtain ⟨x1, xs1, q1, e1, e1'⟩ := e1
    obtain ⟨x2, xs2, q2, e2, e2'⟩ := e2
    cases q1
    cases q2
    have hs : ∀ b, keyEq (.row ks) (.agg cs) p.1 = some b → ∀ w2, (Op.equal t kx ent.key).run P w2 = .ok b w2 := by
      intro b hb w2
      cases hp : p.1 <;> rw [hp] at hb e1 <;> simp only [keyEq, reduceCtorEq] at hb
      simp only [Enc] at hkv e1
      obtain ⟨_, xs, rfl, hx⟩ := hkv
      obtain ⟨_, ys, hy0, hy⟩ := e1
      rw [hy0]
      have he := kdsOf_eq (P := P) (d := 10000) h1 (by omega) M w w2 _ _ xs ys b hx hy hb
      rw [h2] at he
      simp only [mkR, if_true] at he
      exact he
    simp only [mfind] at h
    split at h
    · rename_i hq
      simp only [Option.some.injEq] at h
      subst h
      exact ⟨some (i, ent.val), fun w2 => by simp [Instr.findAsking, hs true hq w2], rfl, Nat.le_refl _, ⟨p, ent, by simp, by simp, rfl, rfl⟩, e2⟩
    · rename_i hq
      obtain ⟨r', hf, hr⟩ := ask_ok h1 h2 hkv e1' e2' h
      refine ⟨r', fun w2 => by simp [Instr.findAsking, hs false hq w2, hf w2], ?_⟩
      cases r with
      | none => cases r' <;> simp only [Found] at hr ⊢
      | some q =>
        obtain ⟨j, u⟩ := q
        cases r' with
        | none => simp only [Found] at hr
        | some q' =>
          obtain ⟨j', x⟩ := q'
          simp only [Found] at hr ⊢
          obtain ⟨a1, a2, ⟨p', ent', b1, b2, b3, b4⟩, a4⟩ := hr
          refine ⟨a1, by omega, ⟨p', ent', ?_, ?_, b3, b4⟩, a4⟩
          · rw [show j - i = (j - (i + 1)) + 1 by omega]; simpa using b1
          · rw [show j - i = (j - (i + 1)) + 1 by omega]; simpa using b2
    · cases h
theorem sameNow_row {d : TypeDesc} (h : d.isRow = true) (a b : Value) : Instr.sameNow d a b = none := by
  cases d <;> simp [TypeDesc.isRow] at h <;> rfl
theorem run_findKey_none {t : TypeId} {d : TypeDesc} {kx : Value} {ents : List MapEntry} (hd : P.underlying t = some d) (h : Instr.findNow d kx ents 0 = none) (w2 : World) : (Instr.findKey t kx ents).run P w2 = (Instr.findAsking t kx ents).run P w2 := by
  simp [Instr.findKey, run_underlying hd, h]

theorem findKey_ok {t : TypeId} {ky : Ky} {kv : V} {kx : Value} {es : List (V × V)} {ents : List MapEntry} {r : Option (Nat × V)} (hk : kyOk P t ky = true) (hkv : Enc M w kv kx)
    (hg : ky.isRow = true → ∃ b, keyEq ky kv kv = some b) (h1 : EncL M w (es.map (·.1)) (ents.map (·.key))) (h2 : EncL M w (es.map (·.2)) (ents.map (·.val))) (h : mfind ky kv es 0 = some r) :
    ∃ r', (∀ w, (Instr.findKey t kx ents).run P w = .ok r' w) ∧ Found M w es ents 0 r r' := by
  cases hrow : ky.isRow
  · obtain ⟨d, r', hd, hf, hr⟩ := find_ok hk hrow hkv h1 h2 h
    exact ⟨r', fun w => MapKept.run_findKey hd hf, hr⟩
  · obtain ⟨d, hd, hdr⟩ := kyOk_desc hk
    have hdi := hdr hrow
    obtain ⟨b, hb⟩ := hg hrow
    cases ky with
    | sc kd => cases hrow
    | row ks =>
      obtain ⟨k1, k2⟩ := kyOk_row hk
      cases kv <;> simp only [keyEq, reduceCtorEq] at hb
      obtain ⟨r', hf, hr⟩ := ask_ok k1 k2 hkv h1 h2 h
      refine ⟨r', fun w2 => ?_, hr⟩
      cases ents with
      | nil =>
        have hf2 := hf w2
        rw [MapKept.run_findKey (P := P) (w := w2) (l := []) (a := none) hd rfl]
        simpa [Instr.findAsking] using hf2
      | cons ent ents =>
        rw [run_findKey_none hd (by simp only [Instr.findNow, sameNow_row hdi])]
        exact hf w2

def mapOf? (P : Program) (t : TypeId) : Option (TypeId × TypeId) :=
  match P.underlying t with
  | some (.map k el) => some (k, el)
  | _ => none
theorem mapOf?_some {t k el : TypeId} (h : mapOf? P t = some (k, el)) : P.underlying t = some (.map k el) := by
  unfold mapOf? at h
  split at h
  · rename_i h2; cases h; exact h2
  · cases h

theorem mkmap_ok {t : TypeId} {base s : Nat} (ho : o.op = .makeMap t none) (hr : HRel M w H) (hv : ev1 base e H (.mkmap s) = some (v, H1)) : OpOk P o a M H w v H1 := by
  simp only [ev1] at hv
  split at hv
  case isFalse => cases hv
  rename_i hf
  cases hv
  obtain ⟨st, ii, r⟩ := stp_alcG (ob := .map #[] 0) (blk0 := .map []) hr hf rfl fun hst hid => by
    simp only [BRel]
    refine ⟨by simp [Mm.alc], #[], ?_, by simp only [List.map_nil, EncL], by simp only [List.map_nil, EncL], fun i x h => by simp at h⟩
    simp only [Mm.alc, if_true]
    exact heap_alloc_new w _
  refine ⟨.value (.map (some w.heap.size)), _, _, ?_, ?_, st, ii, r⟩
  · simp only [execOp, ho, Option.map_none, Sem.run_bind, run_makeMap, Result.andThen_ok, Sem.run_pure]
  · simp only [Enc, Mm.alc, decide_true, Bool.true_or, if_true, true_and]

/-- A zero that is a scalar. -/
def zeroS (P : Program) (t : TypeId) (z : V) : Bool :=
  match P.info? t with
  | some i => match i.zero with
    | some zv => encS zv z
    | none => false
  | none => false
theorem mget_ok {t kt el : TypeId} {x y : Operand} {sx sy : X} {base : Nat} {ky : Ky} {ok : Bool} {z : V} (ho : o.op = .lookup t x y ok) (hx : chkX M.fm x sx = true) (hy : chkX M.fm y sy = true)
    (hu0 : mapOf? P t = some (kt, el)) (hk : kyOk P kt ky = true) (hz : zeroS P el z = true) (ht : RelT M w e a n) (hr : HRel M w H) (hv : ev1 base e H (.mget ky ok z sx sy) = some (v, H1)) : OpOk P o a M H w v H1 := by
  have hu := mapOf?_some hu0
  have hx' := chkX_enc hx ht
  have hy' := chkX_enc hy ht
  obtain ⟨i, zv, hi, hzv, hez⟩ : ∃ i zv, P.info? el = some i ∧ i.zero = some zv ∧ encS zv z = true := by
    unfold zeroS at hz
    split at hz
    · rename_i i hi
      split at hz
      · rename_i zv hzv; exact ⟨i, zv, hi, hzv, hz⟩
      · cases hz
    · cases hz
  have hzero : ∀ w, (zeroValue el).run P w = .ok zv w := fun w => by simp [zeroValue, typeInfo, hi, hzv]
  have hze : Enc M w z zv := encS_enc hez
  simp only [ev1] at hv
  split at hv
  case isTrue => cases hv
  rename_i hgd
  have hg : ky.isRow = true → ∃ b, keyEq ky (sy.ev e) (sy.ev e) = some b := fun h => by
    cases hq : keyEq ky (sy.ev e) (sy.ev e) with
    | none => exact absurd ⟨h, hq⟩ hgd
    | some b => exact ⟨b, rfl⟩
  split at hv
  · rename_i id hp
    split at hv
    case h_2 => cases hv
    rename_i es hb
    rw [hp] at hx'
    simp only [Enc] at hx'
    have hb' := hr.rel id _ hb
    simp only [BRel] at hb'
    obtain ⟨_, ents, hh, hK, hV, hborn⟩ := hb'
    have hget := MapKept.run_getObj_map (P := P) hh
    have hck := fun em => key_is hk hy' hg em w
    split at hv
    · rename_i q u hf
      obtain ⟨r', hf', hF⟩ := findKey_ok hk hy' hg hK hV hf
      cases r' with
      | none => simp only [Found] at hF
      | some q' =>
        obtain ⟨j', x'⟩ := q'
        simp only [Found] at hF
        cases hv
        refine .plain (rv := if ok then .tuple #[x', .bool true] else x') hr ?_ ?_
        · simp only [execOp, ho, hx'.2, Instr.lookup, Sem.run_bind, run_underlying hu, Result.andThen_ok, hget, Sem.run_pure, hck, hf']
        · cases ok
          · simpa using hF.2.2.2
          · simp only [if_true, Enc]; exact ⟨[x', .bool true], rfl, by simp only [EncL]; exact ⟨_, _, rfl, hF.2.2.2, _, _, rfl, by simp only [Enc], rfl⟩⟩
    · rename_i hf
      obtain ⟨r', hf', hF⟩ := findKey_ok hk hy' hg hK hV hf
      cases r' with
      | some q' => simp only [Found] at hF
      | none =>
        cases hv
        refine .plain (rv := if ok then .tuple #[zv, .bool false] else zv) hr ?_ ?_
        · simp only [execOp, ho, hx'.2, Instr.lookup, Sem.run_bind, run_underlying hu, Result.andThen_ok, hget, Sem.run_pure, hck, hf', hzero]
        · cases ok
          · simpa using hze
          · simp only [if_true, Enc]; exact ⟨[zv, .bool false], rfl, by simp only [EncL]; exact ⟨_, _, rfl, hze, _, _, rfl, by simp only [Enc], rfl⟩⟩
    · cases hv
  · rename_i hp
    cases hv
    rw [hp] at hx'
    simp only [Enc] at hx'
    have hck := fun em => key_is hk hy' hg em w
    have hnil : ∀ w, (Instr.findKey kt (a.eval y) []).run P w = .ok none w := fun w => by
      obtain ⟨d, hd, _⟩ := kyOk_desc hk
      exact MapKept.run_findKey hd rfl
    refine .plain (rv := if ok then .tuple #[zv, .bool false] else zv) hr ?_ ?_
    · simp only [execOp, ho, hx', Instr.lookup, Sem.run_bind, run_underlying hu, Result.andThen_ok, Sem.run_pure, hck, hnil, hzero]
    · cases ok
      · simpa using hze
      · simp only [if_true, Enc]; exact ⟨[zv, .bool false], rfl, by simp only [EncL]; exact ⟨_, _, rfl, hze, _, _, rfl, by simp only [Enc], rfl⟩⟩
  · cases hv

theorem sameBits_key {kv kv' : V} {x x' : Value} {k : Kd} (h : eqk k kv kv' = some true) (h1 : Enc M w kv x) (h2 : Enc M w kv' x') : Instr.sameBits 10000 x' x = true := by
  cases k <;> cases kv <;> cases kv' <;> simp only [eqk, reduceCtorEq, Option.some.injEq] at h
  · split at h
    · rename_i hk
      subst hk
      simp at h; subst h
      simp only [Enc] at h1 h2
      subst h1; subst h2
      simp [Instr.sameBits]
    · cases h
  · simp at h; subst h
    simp only [Enc] at h1 h2
    subst h1; subst h2
    simp [Instr.sameBits]
  · simp at h; subst h
    simp only [Enc] at h1 h2
    subst h1; subst h2
    simp only [Instr.sameBits, beq_toListBytes, beq_self_eq_true]

theorem sameBits_kd {kv kv' : V} {x x' : Value} {k : Kd} (n : Nat) (h : eqk k kv kv' = some true) (h1 : Enc M w kv x) (h2 : Enc M w kv' x') : Instr.sameBits n x' x = true := by
  cases k <;> cases kv <;> cases kv' <;> simp only [eqk, reduceCtorEq, Option.some.injEq] at h
  · split at h
    · rename_i hk
      subst hk
      simp at h; subst h
      simp only [Enc] at h1 h2
      subst h1; subst h2
      simp [Instr.sameBits]
    · cases h
  · simp at h; subst h
    simp only [Enc] at h1 h2
    subst h1; subst h2
    simp [Instr.sameBits]
  · simp at h; subst h
    simp only [Enc] at h1 h2
    subst h1; subst h2
    simp only [Instr.sameBits, beq_toListBytes, beq_self_eq_true]
theorem sameBits_row (n : Nat) : ∀ {ks : List Kd} {cs ds : List V} {xs ys : List Value}, eqks ks cs ds = some true → EncL M w cs xs → EncL M w ds ys → ys.length = xs.length ∧ ((ys.zip xs).all fun (p : Value × Value) => Instr.sameBits n p.1 p.2) = true
  | [], [], [], xs, ys, _, hx, hy => by
    simp only [EncL] at hx hy
    subst hx; subst hy
    exact ⟨rfl, rfl⟩
  | [], [], _ :: _, _, _, h, _, _ => by simp [eqks] at h
  | [], _ :: _, _, _, _, h, _, _ => by simp [eqks] at h
  | _ :: _, [], _, _, _, h, _, _ => by simp [eqks] at h
  | _ :: _, _ :: _, [], _, _, h, _, _ => by simp [eqks] at h
  | k :: ks, c :: cs, d :: ds, xs, ys, h, hx, hy => by
    simp only [EncL] at hx hy
    obtain ⟨x, xs', rfl, h1, hx⟩ := hx
    obtain ⟨y, ys', rfl, h2, hy⟩ := hy
    simp only [eqks] at h
    split at h
    case h_2 => cases h
    rename_i u v hu hv
    simp only [Option.some.injEq, Bool.and_eq_true] at h
    obtain ⟨rfl, rfl⟩ := h
    obtain ⟨i1, i2⟩ := sameBits_row n hv hx hy
    exact ⟨by simp [i1], by simp only [List.zip_cons_cons, List.all_cons, Bool.and_eq_true]; exact ⟨sameBits_kd n hu h1 h2, i2⟩⟩
theorem sameBits_ky {ky : Ky} {kv kv' : V} {x x' : Value} (h : keyEq ky kv kv' = some true) (h1 : Enc M w kv x) (h2 : Enc M w kv' x') : Instr.sameBits 10000 x' x = true := by
  cases ky with
  | sc kd => exact sameBits_key (k := kd) h h1 h2
  | row ks =>
    cases kv <;> cases kv' <;> simp only [keyEq, reduceCtorEq] at h
    simp only [Enc] at h1 h2
    obtain ⟨_, xs, rfl, hx⟩ := h1
    obtain ⟨_, ys, rfl, hy⟩ := h2
    obtain ⟨i1, i2⟩ := sameBits_row 9999 h hx hy
    rw [Instr.sameBits]
    simp only [List.size_toArray, i1, beq_self_eq_true, Bool.true_and]
    exact i2

theorem mfind_at {ky : Ky} {kv : V} : ∀ {es : List (V × V)} {i j : Nat} {u : V}, mfind ky kv es i = some (some (j, u)) → i ≤ j ∧ ∃ p, es[j - i]? = some p ∧ p.2 = u ∧ keyEq ky kv p.1 = some true
  | [], i, j, u, h => by simp [mfind] at h
  | p :: es, i, j, u, h => by
    simp only [mfind] at h
    split at h
    · rename_i hq
      simp only [Option.some.injEq, Prod.mk.injEq] at h
      obtain ⟨rfl, rfl⟩ := h
      exact ⟨Nat.le_refl _, p, by simp, rfl, hq⟩
    · obtain ⟨h1, q, h2, h3⟩ := mfind_at h
      refine ⟨by omega, q, ?_, h3⟩
      rw [show j - i = (j - (i + 1)) + 1 by omega]; simpa using h2
    · cases h

theorem stp_map {id : Nat} {es fs : List (V × V)} {ents : Array MapEntry} (hr : HRel M w H) (hb : H[id]? = some (some (.map es)))
    (hK : EncL M w (fs.map (·.1)) (ents.toList.map (·.key))) (hV : EncL M w (fs.map (·.2)) (ents.toList.map (·.val))) (hB : ∀ (i : Nat) (x : MapEntry), ents[i]? = some x → x.born = i) :
    Stp M H w (M.limit (M.j id) 0) (H.set id (some (.map fs))) { w with heap := w.heap.setIfInBounds (M.j id) (.map ents fs.length) } ∧ Ids M (M.limit (M.j id) 0) H.length ∧
      HRel (M.limit (M.j id) 0) { w with heap := w.heap.setIfInBounds (M.j id) (.map ents fs.length) } (H.set id (some (.map fs))) := by
  have hb' := hr.rel id _ hb
  simp only [BRel] at hb'
  obtain ⟨hl0, e0, hh, _⟩ := hb'
  have hs := MapKept.heap_set (o' := .map ents fs.length) hh
  refine stp_put hr hb rfl rfl hl0 0 rfl rfl rfl (by simp) hs.2 fun hst hid => ?_
  simp only [BRel]
  exact ⟨by simp [Mm.limit], ents, hs.1, EncL.step hst hr hid hK, EncL.step hst hr hid hV, hB⟩

theorem encL_set {cs : List V} {xs : List Value} (h : EncL M w cs xs) {i : Nat} {c : V} {x : Value} (hc : Enc M w c x) : EncL M w (cs.set i c) (xs.set i x) := by
  have hl := encL_length h
  refine encL_of (by simp [hl]) fun j d y hd hy => ?_
  rw [List.getElem?_set] at hd hy
  by_cases e : i = j
  · subst e
    simp only [if_true] at hd hy
    split at hd
    · rename_i h1
      rw [if_pos (by rw [hl]; exact h1)] at hy
      cases hd; cases hy; exact hc
    · cases hd
  · rw [if_neg e] at hd hy
    obtain ⟨y', hy', he⟩ := encL_get h hd
    rw [hy] at hy'; cases hy'; exact he

theorem mput_ok {t kt el : TypeId} {x y z : Operand} {sx sy sz : X} {base : Nat} {ky : Ky} (ho : o.op = .insert t x y z ∨ o.op = .mapUpdate t x y z) (hx : chkX M.fm x sx = true) (hy : chkX M.fm y sy = true) (hz : chkX M.fm z sz = true)
    (hu0 : mapOf? P t = some (kt, el)) (hk : kyOk P kt ky = true) (ht : RelT M w e a n) (hr : HRel M w H) (hv : ev1 base e H (.mput ky sx sy sz) = some (v, H1)) : OpOk P o a M H w v H1 := by
  have hu := mapOf?_some hu0
  have hx' := chkX_enc hx ht
  have hy' := chkX_enc hy ht
  have hz' := chkX_enc hz ht
  simp only [ev1] at hv
  split at hv
  case h_2 => cases hv
  rename_i id hp
  split at hv
  case isTrue => cases hv
  rename_i hkk
  split at hv
  case h_2 => cases hv
  rename_i es hb
  rw [hp] at hx'
  simp only [Enc] at hx'
  have hb' := hr.rel id _ hb
  simp only [BRel] at hb'
  obtain ⟨_, ents, hh, hK, hV, hborn⟩ := hb'
  have hlen : ents.size = es.length := by have := encL_length hK; simpa using this
  have hget := MapKept.run_getObj_map (P := P) hh
  have hg : ky.isRow = true → ∃ b, keyEq ky (sy.ev e) (sy.ev e) = some b := fun _ => by
    cases hq : keyEq ky (sy.ev e) (sy.ev e) with
    | none => exact absurd (.inl hq) hkk
    | some b => exact ⟨b, rfl⟩
  have hck := fun em => key_is hk hy' hg em w
  have hset := fun ob => MapKept.run_setObj_map (P := P) ob hh
  have hex : ∀ w', (Instr.mapUpdate t (a.eval x) (a.eval y) (a.eval z)).run P w = .ok () w' → (execOp a.eval o).run P w = .ok .skip w' := by
    intro w' h
    rcases ho with ho | ho <;> simp only [execOp, ho, Sem.run_bind, h, Result.andThen_ok, Sem.run_pure]
  split at hv
  · rename_i i u hf
    obtain ⟨r', hf', hF⟩ := findKey_ok hk hy' hg hK hV hf
    cases r' with
    | none => simp only [Found] at hF
    | some q' =>
      obtain ⟨j', x'⟩ := q'
      simp only [Found] at hF
      obtain ⟨rfl, _, ⟨p, ent, hp1, hp2, _, _⟩, _⟩ := hF
      obtain ⟨_, p', hp', _, hkeq⟩ := mfind_at hf
      rw [hp'] at hp1; cases hp1
      simp only [Nat.sub_zero] at hp' hp2
      cases hv
      have hkenc : Enc M w p.1 ent.key := by
        obtain ⟨y2, h2, h3⟩ := encL_get hK (i := i) (c := p.1) (by rw [List.getElem?_map, hp']; rfl)
        rw [List.getElem?_map, hp2] at h2
        cases h2; exact h3
      have hsb := sameBits_ky hkeq hy' hkenc
      have hents : ents[i]? = some ent := by rw [← Array.getElem?_toList]; exact hp2
      have hmod : (ents.modify i fun en => { en with key := a.eval y, val := a.eval z }).toList = ents.toList.set i { ent with key := a.eval y, val := a.eval z } := by
        apply List.ext_getElem?
        intro k
        rw [Array.getElem?_toList, Array.getElem?_modify, List.getElem?_set]
        by_cases hki : i = k
        · subst hki
          have hlt : i < ents.toList.length := (List.getElem?_eq_some_iff.1 hp2).1
          rw [if_pos rfl, if_pos rfl, if_pos hlt, hents]; rfl
        · rw [if_neg hki, if_neg hki, Array.getElem?_toList]
      obtain ⟨st, ii, r⟩ := stp_map (fs := es.set i (sy.ev e, sz.ev e)) (ents := ents.modify i fun en => { en with key := a.eval y, val := a.eval z }) hr hb
        (by rw [hmod, List.map_set, List.map_set]; exact encL_set hK hy') (by rw [hmod, List.map_set, List.map_set]; exact encL_set hV hz')
        (fun k x hx => by
          rw [← Array.getElem?_toList, hmod, List.getElem?_set] at hx
          split at hx
          · rename_i hki
            subst hki
            split at hx
            · cases hx; exact hborn _ ent hents
            · cases hx
          · rw [Array.getElem?_toList] at hx; exact hborn k x hx)
      refine ⟨.skip, _, _, hex _ ?_, rfl, st, ii, r⟩
      simp only [Instr.mapUpdate, hx'.2, Sem.run_bind, run_underlying hu, Result.andThen_ok, hget, hck, hf', Instr.keyThatStays, hents, Option.map_some, Option.getD_some, hsb, if_true, Sem.run_pure, hset, List.length_set]
  · rename_i hf
    obtain ⟨r', hf', hF⟩ := findKey_ok hk hy' hg hK hV hf
    cases r' with
    | some q' => simp only [Found] at hF
    | none =>
      cases hv
      obtain ⟨st, ii, r⟩ := stp_map (fs := es ++ [(sy.ev e, sz.ev e)]) (ents := ents.push { key := a.eval y, val := a.eval z, born := es.length }) hr hb
        (by rw [List.map_append, Array.toList_push, List.map_append]; exact encL_append hK (by simp only [List.map_cons, List.map_nil, EncL]; exact ⟨_, _, rfl, hy', rfl⟩))
        (by rw [List.map_append, Array.toList_push, List.map_append]; exact encL_append hV (by simp only [List.map_cons, List.map_nil, EncL]; exact ⟨_, _, rfl, hz', rfl⟩))
        (fun k x hx => by
          rw [Array.getElem?_push] at hx
          split at hx
          · rename_i hk2; cases hx; rw [← hlen]; exact hk2.symm
          · exact hborn k x hx)
      refine ⟨.skip, _, _, hex _ ?_, rfl, st, ii, r⟩
      simp only [Instr.mapUpdate, hx'.2, Sem.run_bind, run_underlying hu, Result.andThen_ok, hget, hck, hf', hset, List.length_append, List.length_cons, List.length_nil]
  · cases hv

/-- A text's signs, one by one. -/
theorem rng_ok {t : TypeId} {x : Operand} {sx : X} {base s : Nat} (ho : o.op = .range t x) (hx : chkX M.fm x sx = true) (hu : P.underlying t = some .string) (ht : RelT M w e a n) (hr : HRel M w H)
    (hv : ev1 base e H (.rng s sx) = some (v, H1)) : OpOk P o a M H w v H1 := by
  have hx' := chkX_enc hx ht
  simp only [ev1] at hv
  split at hv
  case h_2 => cases hv
  rename_i tx hp
  split at hv
  case isFalse => cases hv
  rename_i hf
  cases hv
  rw [hp] at hx'
  simp only [Enc] at hx'
  obtain ⟨st, ii, r⟩ := stp_alcG (ob := .stringIter ⟨tx.toArray⟩ 0) (blk0 := .siter tx 0) hr hf rfl fun hst hid => by
    simp only [BRel]
    refine ⟨by simp [Mm.alc], ?_⟩
    simp only [Mm.alc, if_true]
    exact heap_alloc_new w _
  refine ⟨.value (.pointer (some ⟨w.heap.size, 0, none⟩)), _, _, ?_, ?_, st, ii, r⟩
  · simp [execOp, ho, hx', Instr.range, run_underlying hu]
  · simp only [Enc, Mm.alc, decide_true, Bool.true_or, if_true, true_and]

theorem nxt_ok {x : Operand} {sx : X} {base : Nat} (ho : o.op = .next x true) (hx : chkX M.fm x sx = true) (ht : RelT M w e a n) (hr : HRel M w H)
    (hv : ev1 base e H (.nxt sx) = some (v, H1)) : OpOk P o a M H w v H1 := by
  have hx' := chkX_enc hx ht
  simp only [ev1] at hv
  split at hv
  case h_2 => cases hv
  rename_i id hp
  split at hv
  case h_2 => cases hv
  rename_i tx pos hb
  rw [hp] at hx'
  simp only [Enc] at hx'
  have hb' := hr.rel id _ hb
  simp only [BRel] at hb'
  obtain ⟨hl0, hh⟩ := hb'
  split at hv
  · rename_i hlt
    cases hv
    have hrun := Lib.run_next_any_at (P := P) w (M.j id) ⟨tx.toArray⟩ pos o.type hh (by rw [size_mk]; exact hlt)
    have hs := MapKept.heap_set (o' := .stringIter ⟨tx.toArray⟩ (pos + (Utf8.decode ⟨tx.toArray⟩ pos).2)) hh
    obtain ⟨st, ii, r⟩ := stp_put (blk1 := .siter tx (pos + (Utf8.decode ⟨tx.toArray⟩ pos).2)) (w' := w.iterAt (M.j id) ⟨tx.toArray⟩ (pos + (Utf8.decode ⟨tx.toArray⟩ pos).2)) hr hb rfl rfl hl0 0 rfl rfl rfl (by simp [World.iterAt]) hs.2 fun hst hid => by
      simp only [BRel]
      exact ⟨by simp [Mm.limit], hs.1⟩
    refine ⟨.value (.tuple #[.bool true, .int .i64 pos, .int .i32 (Utf8.decode ⟨tx.toArray⟩ pos).1]), _, _, ?_, ?_, st, ii, r⟩
    · simp only [execOp, ho, hx'.2, Sem.run_bind, hrun, Result.andThen_ok, Sem.run_pure]
    · simp only [Enc]
      exact ⟨[.bool true, .int .i64 pos, .int .i32 (Utf8.decode ⟨tx.toArray⟩ pos).1], rfl, by simp [EncL, Enc]⟩
  · rename_i hlt
    cases hv
    have hrun := Lib.run_next_end_at (P := P) w (M.j id) ⟨tx.toArray⟩ pos o.type hh (by rw [size_mk]; exact hlt)
    refine .plain (rv := .tuple #[.bool false]) hr ?_ ?_
    · simp only [execOp, ho, hx'.2, Sem.run_bind, hrun, Result.andThen_ok, Sem.run_pure]
    · simp only [Enc]
      exact ⟨[.bool false], rfl, by simp [EncL, Enc]⟩

end Go.Ev
