/- More operations. -/
import Derived.Test.YtdomogpjchpbnaaEvD
import Derived.Laws.Strings
import Derived.Laws.Concat
namespace Go.Ev
set_option linter.unusedSimpArgs false
open Go Go.RowKit

variable {P : Program} {M M' : Mm} {H H1 : Heap} {w w' : World}
variable {e : Env} {a : Act} {n : Nat} {o : Oper} {v : V}

/-- Aggregate or not: the row kinds, as the model's own test has them. -/
theorem run_isAgg {t : TypeId} {d : TypeDesc} (hu : P.underlying t = some d) : (isAgg t).run P w = .ok d.isRow w := by
  unfold isAgg
  rw [Sem.run_bind, run_underlying hu w]
  cases d <;> simp [TypeDesc.isRow]

theorem run_part_mk {t : TypeId} {sz off : Nat} {ag : Bool} {xs : Array Value} (hty : tyOk P t sz ag = true) (hl : off + sz ≤ xs.size) :
    (part t xs off).run P w = .ok (mkR ag ((xs.toList.drop off).take sz)) w := by
  unfold tyOk at hty
  split at hty
  · rename_i d i hu hi
    simp only [Bool.and_eq_true, beq_iff_eq] at hty
    obtain ⟨hsz, hty⟩ := hty
    by_cases hd : d.isRow = true
    · rw [if_pos hd] at hty
      subst hty
      have : xs.extract off (off + sz) = ((xs.toList.drop off).take sz).toArray := by
        apply Array.ext'
        simp [Array.toList_extract, List.extract_eq_take_drop]
      simp [part, run_isAgg hu, hd, sizeOf, typeInfo, hi, hsz, mkR, this]
    · rw [if_neg hd] at hty
      simp only [Bool.and_eq_true, Bool.not_eq_true', beq_iff_eq] at hty
      obtain ⟨rfl, rfl⟩ := hty
      have hlt : off < xs.size := by omega
      have : (xs.toList.drop off).take 1 = [xs[off]] := by
        rw [List.drop_eq_getElem_cons (by simpa using hlt)]
        simp
      simp [part, run_isAgg hu, hd, hlt, mkR, this]
  · cases hty

def chkField (P : Program) (t : TypeId) (f : Nat) (off : Nat) : Option TypeId :=
  match P.underlying t with
  | some (.struct fs) => match fs[f]? with
    | some fl => if fl.offset = off then some fl.type else none
    | none => none
  | _ => none

theorem faddr_ok {t : TypeId} {x : Operand} {sx : X} {f base off ft : Nat} {i : TypeInfo} (ho : o.op = .fieldAddr t x f) (hx : chkX M.fm x sx = true) (hf : chkField P t f off = some ft)
    (hi : P.info? ft = some i) (hs : i.size ≠ 0) (ht : RelT M w e a n) (hr : HRel M w H) (hv : ev1 base e H (.faddr off sx) = some (v, H1)) : OpOk P o a M H w v H1 := by
  have hx' := chkX_enc hx ht
  unfold chkField at hf
  split at hf
  · rename_i fs hu
    split at hf
    · rename_i fl hfl
      split at hf
      · rename_i hoff
        cases hf
        have hrun : ∀ b k, a.eval x = .pointer (some ⟨b, k, none⟩) → (execOp a.eval o).run P w = .ok (.value (.pointer (some ⟨b, k + off, none⟩))) w := by
          intro b k hb
          simp [execOp, ho, hb, Instr.fieldAt, run_underlying hu, hfl, Instr.sureAddr, fieldPlace, sizeOf, typeInfo, hi, hs, Addr.add_lit, hoff]
        simp only [ev1] at hv
        split at hv
        · rename_i id k hp
          cases hv
          rw [hp] at hx'
          simp only [Enc] at hx'
          exact .plain hr (hrun _ _ hx'.2) (by simp only [Enc]; exact ⟨hx'.1, trivial⟩)
        · rename_i cs hp
          cases hv
          rw [hp] at hx'
          simp only [Enc] at hx'
          obtain ⟨hpu, b, k, hxe, hrow⟩ := hx'
          exact .plain hr (hrun _ _ hxe) (by simp only [Enc]; exact ⟨fun c hc => hpu c (List.mem_of_mem_drop hc), b, k + off, rfl, encRow_drop hrow⟩)
        · cases hv
      · cases hf
    · cases hf
  · cases hf

theorem fld_ok {t : TypeId} {x : Operand} {sx : X} {f base off sz ft : Nat} {ag : Bool} (ho : o.op = .field t x f) (hx : chkX M.fm x sx = true) (hf : chkField P t f off = some ft)
    (hty : tyOk P ft sz ag = true) (ht : RelT M w e a n) (hr : HRel M w H) (hv : ev1 base e H (.fld off sz ag sx) = some (v, H1)) : OpOk P o a M H w v H1 := by
  have hx' := chkX_enc hx ht
  unfold chkField at hf
  split at hf
  · rename_i fs hu
    split at hf
    · rename_i fl hfl
      split at hf
      · rename_i hoff
        cases hf
        simp only [ev1] at hv
        split at hv
        · rename_i cs hp
          split at hv
          · rename_i hle
            rw [Option.map_eq_some_iff] at hv
            obtain ⟨v', hm, hv⟩ := hv
            cases hv
            rw [hp] at hx'
            simp only [Enc] at hx'
            obtain ⟨hs, xs, hxe, he⟩ := hx'
            have hlen := encL_length he
            have hpart := run_part_mk (P := P) (w := w) (xs := xs.toArray) (off := off) hty (by simp; omega)
            refine .plain (rv := mkR ag ((xs.drop off).take sz)) hr ?_ (mk_enc hm (encL_take (encL_drop he off) sz) (fun c hc => hs c (List.mem_of_mem_drop (List.mem_of_mem_take hc))))
            simp [execOp, ho, hxe, Instr.field, run_underlying hu, hfl, asAgg, hoff, hpart]
          · cases hv
        · cases hv
      · cases hf
    · cases hf
  · cases hf

theorem encRows_get {b : Nat} {es : List (List V)} {off sz : Nat} (h : EncRows M w b es off) (hs : ∀ e ∈ es, e.length = sz) {i : Nat} {c : List V} (hi : es[i]? = some c) : EncRow M w b c (off + i * sz) := by
  induction es generalizing off i with
  | nil => simp at hi
  | cons e es ih =>
    simp only [EncRows] at h
    cases i with
    | zero => simp at hi; subst hi; simpa using h.1
    | succ i =>
      simp at hi
      have := ih h.2 (fun d hd => hs d (by simp [hd])) hi
      rw [hs e (by simp)] at this
      rw [show off + sz + i * sz = off + (i + 1) * sz by rw [Nat.add_mul, Nat.one_mul]; omega] at this
      exact this

def elemOf? (P : Program) (t : TypeId) : Option TypeId :=
  match P.underlying t with
  | some (.slice el) => some el
  | _ => none
theorem elemOf?_some {t el : TypeId} (h : elemOf? P t = some el) : P.underlying t = some (.slice el) := by
  unfold elemOf? at h
  split at h
  · cases h; assumption
  · cases h
def arrOf? (P : Program) (t : TypeId) : Option (Nat × TypeId) :=
  match P.underlying t with
  | some (.array k el) => some (k, el)
  | _ => none
theorem arrOf?_some {t el : TypeId} {k : Nat} (h : arrOf? P t = some (k, el)) : P.underlying t = some (.array k el) := by
  unfold arrOf? at h
  split at h
  · cases h; assumption
  · cases h

theorem iaddr_ok {t : TypeId} {x y : Operand} {sx sy : X} {base sz el : Nat} {i : TypeInfo} (ho : o.op = .indexAddr t x y) (hx : chkX M.fm x sx = true) (hy : chkX M.fm y sy = true) (hu0 : elemOf? P t = some el)
    (hi : P.info? el = some i) (hs : i.size = sz) (ht : RelT M w e a n) (hr : HRel M w H) (hv : ev1 base e H (.iaddr sz sx sy) = some (v, H1)) : OpOk P o a M H w v H1 := by
  have hx' := chkX_enc hx ht
  have hy' := chkX_enc hy ht
  have hu := elemOf?_some hu0
  have hrun : ∀ (ad : Addr) (len cap : Nat) (k : IntKind) (j : Int), a.eval x = .slice (some ad) len cap → a.eval y = .int k j → 0 ≤ j → j < len →
      (execOp a.eval o).run P w = .ok (.value (.pointer (some (ad.add (j.toNat * sz))))) w := by
    intro ad len cap k j h1 h2 h3 h4
    simp [execOp, ho, h1, h2, Instr.indexAt, run_underlying hu, asIntOf, h3, h4, sizeOf, typeInfo, hi, hs]
  simp only [ev1] at hv
  split at hv
  · rename_i es tk k j hp hq
    split at hv
    · rename_i h0
      split at hv
      · rename_i cs hcs
        split at hv
        · rename_i hlen
          cases hv
          rw [hp] at hx'
          rw [hq] at hy'
          simp only [Enc] at hx' hy'
          obtain ⟨hpu, ad, cap, hxe, hle, hrows, _⟩ := hx'
          have hlt := (List.getElem?_eq_some_iff.1 hcs).1
          cases ad with
          | none => obtain ⟨rfl, _⟩ := hrows; simp at hcs
          | some ad =>
            obtain ⟨hsp, ⟨sz', hsz⟩, hrows⟩ := hrows
            have hmem := List.mem_of_getElem? hcs
            have : sz' = sz := by rw [← hsz cs hmem, hlen]
            subst this
            obtain ⟨ab, ao, asp⟩ := ad
            simp only at hsp hrows
            have hsp := hsp.resolve_left (fun h0 => by rw [h0] at hcs; simp at hcs)
            subst hsp
            refine .plain hr (hrun ⟨ab, ao, none⟩ es.length cap k j hxe hy' h0 (by omega)) ?_
            simp only [Enc, Addr.add_lit]
            exact ⟨fun c hc => hpu cs hmem c hc, ab, ao + j.toNat * sz', rfl, encRows_get hrows hsz hcs⟩
        · cases hv
      · cases hv
    · cases hv
  · rename_i id off k szz kk j hp hq
    split at hv
    · rename_i h0
      cases hv
      rw [hp] at hx'
      rw [hq] at hy'
      simp only [Enc] at hx' hy'
      obtain ⟨ha, cap, hxe, hle⟩ := hx'
      refine .plain hr (hrun _ _ cap _ j hxe hy' h0.1 h0.2) ?_
      simp only [Enc, Addr.add_lit]
      exact ⟨ha, trivial⟩
    · cases hv
  · cases hv

theorem iaddrA_ok {t : TypeId} {x y : Operand} {sx sy : X} {base sz el len : Nat} {i : TypeInfo} (ho : o.op = .indexAddr t x y) (hx : chkX M.fm x sx = true) (hy : chkX M.fm y sy = true) (hu0 : arrOf? P t = some (len, el))
    (hi : P.info? el = some i) (hs : i.size = sz) (ht : RelT M w e a n) (hr : HRel M w H) (hv : ev1 base e H (.iaddrA len sz sx sy) = some (v, H1)) : OpOk P o a M H w v H1 := by
  have hx' := chkX_enc hx ht
  have hy' := chkX_enc hy ht
  have hu := arrOf?_some hu0
  have hrun : ∀ (b k0 : Nat) (k : IntKind) (j : Int), a.eval x = .pointer (some ⟨b, k0, none⟩) → a.eval y = .int k j → 0 ≤ j → j < len →
      (execOp a.eval o).run P w = .ok (.value (.pointer (some ⟨b, k0 + j.toNat * sz, none⟩))) w := by
    intro b k0 k j h1 h2 h3 h4
    simp [execOp, ho, h1, h2, Instr.indexAt, run_underlying hu, asIntOf, h3, h4, sizeOf, typeInfo, hi, hs, Instr.sureAddr, Addr.add_lit]
  simp only [ev1] at hv
  split at hv
  · rename_i id off k j hp hq
    split at hv
    · rename_i h0
      cases hv
      rw [hp] at hx'
      rw [hq] at hy'
      simp only [Enc] at hx' hy'
      exact .plain hr (hrun _ _ _ j hx'.2 hy' h0.1 h0.2) (by simp only [Enc]; exact ⟨hx'.1, trivial⟩)
    · cases hv
  · rename_i cs k j hp hq
    split at hv
    · rename_i h0
      cases hv
      rw [hp] at hx'
      rw [hq] at hy'
      simp only [Enc] at hx' hy'
      obtain ⟨hpu, b, k0, hxe, hrow⟩ := hx'
      exact .plain hr (hrun _ _ _ j hxe hy' h0.1 h0.2) (by simp only [Enc]; exact ⟨fun c hc => hpu c (List.mem_of_mem_drop hc), b, _, rfl, encRow_drop hrow⟩)
    · cases hv
  · cases hv

theorem idx_ok {t : TypeId} {x y : Operand} {sx sy : X} {base sz el len : Nat} {ag : Bool} (ho : o.op = .index t x y) (hx : chkX M.fm x sx = true) (hy : chkX M.fm y sy = true) (hu0 : arrOf? P t = some (len, el))
    (hty : tyOk P el sz ag = true) (ht : RelT M w e a n) (hr : HRel M w H) (hv : ev1 base e H (.idx len sz ag sx sy) = some (v, H1)) : OpOk P o a M H w v H1 := by
  have hx' := chkX_enc hx ht
  have hy' := chkX_enc hy ht
  have hu := arrOf?_some hu0
  simp only [ev1] at hv
  split at hv
  · rename_i cs k j hp hq
    split at hv
    · rename_i h0
      rw [Option.map_eq_some_iff] at hv
      obtain ⟨v', hm, hv⟩ := hv
      cases hv
      rw [hp] at hx'
      rw [hq] at hy'
      simp only [Enc] at hx' hy'
      obtain ⟨hs, xs, hxe, he⟩ := hx'
      have hlen := encL_length he
      have hpart := run_part_mk (P := P) (w := w) (xs := xs.toArray) (off := j.toNat * sz) hty (by simp; omega)
      have hsz : ∃ i, P.info? el = some i ∧ i.size = sz := by
        unfold tyOk at hty
        split at hty
        · rename_i d i _ hi
          simp only [Bool.and_eq_true, beq_iff_eq] at hty
          exact ⟨i, hi, hty.1⟩
        · cases hty
      obtain ⟨i, hi, hsz⟩ := hsz
      refine .plain (rv := mkR ag ((xs.drop (j.toNat * sz)).take sz)) hr ?_ (mk_enc hm (encL_take (encL_drop he _) sz) (fun c hc => hs c (List.mem_of_mem_drop (List.mem_of_mem_take hc))))
      simp [execOp, ho, hxe, hy', Instr.index, asIntOf, run_underlying hu, h0.1, h0.2.1, sizeOf, typeInfo, hi, hsz, hpart]
    · cases hv
  · cases hv

def valOf : V → Value
  | .int k n => .int k n
  | .bool b => .bool b
  | .str s => .string ⟨s.toArray⟩
  | _ => undef
theorem size_mk (s : List UInt8) : (ByteArray.mk s.toArray).size = s.length := by simp [ByteArray.size]
theorem bin_ok {xt yt : TypeId} {x y : Operand} {sx sy : X} {base : Nat} {op : BinOp} (ho : o.op = .binOp op xt x y yt) (hx : chkX M.fm x sx = true) (hy : chkX M.fm y sy = true)
    (ht : RelT M w e a n) (hr : HRel M w H) (hv : ev1 base e H (.bin op sx sy) = some (v, H1)) : OpOk P o a M H w v H1 := by
  have hx' := chkX_enc hx ht
  have hy' := chkX_enc hy ht
  simp only [ev1] at hv
  rw [Option.map_eq_some_iff] at hv
  obtain ⟨v', hm, hv⟩ := hv
  simp only [Prod.mk.injEq] at hv
  obtain ⟨rfl, rfl⟩ := hv
  unfold evBin at hm
  split at hm
  · rename_i k p k' q hp hq
    rw [hp] at hx'
    rw [hq] at hy'
    simp only [Enc] at hx' hy'
    have hg : ∀ w, (eqGuard op xt x y (.int k p) (.int k' q)).run P w = .ok () w := by intro w; unfold eqGuard; cases op <;> simp
    have hex : (execOp a.eval o).run P w = ((binOp op xt (.int k p) (.int k' q)).run P w).andThen fun u w' => .ok (.value u) w' := by
      simp only [execOp, ho, hx', hy', Sem.run_bind, hg, Result.andThen_ok]
      cases (binOp op xt (.int k p) (.int k' q)).run P w <;> simp [Result.andThen]
    have fin : (binOp op xt (.int k p) (.int k' q)).run P w = .ok (valOf v') w → Enc M w v' (valOf v') → OpOk P o a M H w v' H := by
      intro h1 h2
      refine .plain (rv := valOf v') hr ?_ h2
      rw [hex, h1]; rfl
    cases op <;> simp only at hm
    case shl | shr =>
      split at hm
      · cases hm
      · rename_i h0
        simp only [Option.some.injEq] at hm
        subst hm
        refine fin ?_ (by simp only [Enc, valOf])
        simp [binOp, Op.shift, h0, valOf, shlI, shrI]
    case quo | rem =>
      split at hm
      · rename_i hk
        subst hk
        split at hm
        · cases hm
        · rename_i h0
          simp only [Option.some.injEq] at hm
          subst hm
          refine fin ?_ (by simp only [Enc, valOf])
          simp [binOp, Op.intDiv, h0, valOf, quoI, remI]
      · cases hm
    all_goals
      split at hm
      · rename_i hk
        subst hk
        simp only [Option.some.injEq] at hm
        subst hm
        refine fin ?_ (by simp only [Enc, valOf])
        simp [binOp, Op.intArith, Op.intBits, Op.intCmp, valOf, addI, subI, mulI, quoI, remI, andI, orI, xorI, andnI, shlI, shrI]
      · cases hm
  · rename_i s t hp hq
    rw [hp] at hx'
    rw [hq] at hy'
    simp only [Enc] at hx' hy'
    have hg : ∀ w, (eqGuard op xt x y (.string ⟨s.toArray⟩) (.string ⟨t.toArray⟩)).run P w = .ok () w := by intro w; unfold eqGuard; cases op <;> simp
    have hex : (execOp a.eval o).run P w = ((binOp op xt (.string ⟨s.toArray⟩) (.string ⟨t.toArray⟩)).run P w).andThen fun u w' => .ok (.value u) w' := by
      simp only [execOp, ho, hx', hy', Sem.run_bind, hg, Result.andThen_ok]
      cases (binOp op xt (.string ⟨s.toArray⟩) (.string ⟨t.toArray⟩)).run P w <;> simp [Result.andThen]
    have fin : (binOp op xt (.string ⟨s.toArray⟩) (.string ⟨t.toArray⟩)).run P w = .ok (valOf v') w → Enc M w v' (valOf v') → OpOk P o a M H w v' H := by
      intro h1 h2
      refine .plain (rv := valOf v') hr ?_ h2
      rw [hex, h1]; rfl
    cases op <;> simp only [Option.some.injEq, reduceCtorEq] at hm
    case add =>
      split at hm
      · rename_i hle
        simp only [Option.some.injEq] at hm
        subst hm
        refine fin ?_ (by simp only [Enc, valOf])
        rw [binOp_string_add, run_string_add_sum w _ _ (by rw [size_mk, size_mk]; exact hle), ByteArray.mk_append_mk, valOf]
      · cases hm
    all_goals
      subst hm
      refine fin ?_ (by simp only [Enc, valOf])
      simp [binOp, Op.stringOp, valOf]
  · cases hm

theorem beq_ok {xt yt : TypeId} {x y : Operand} {sx sy : X} {base : Nat} {neg : Bool} (ho : o.op = .binOp (if neg then .neq else .eql) xt x y yt) (hx : chkX M.fm x sx = true) (hy : chkX M.fm y sy = true)
    (hu : P.underlying xt = some .bool) (ht : RelT M w e a n) (hr : HRel M w H) (hv : ev1 base e H (.beq neg sx sy) = some (v, H1)) : OpOk P o a M H w v H1 := by
  have hx' := chkX_enc hx ht
  have hy' := chkX_enc hy ht
  simp only [ev1] at hv
  split at hv
  · rename_i p q hp hq
    cases hv
    rw [hp] at hx'
    rw [hq] at hy'
    simp only [Enc] at hx' hy'
    refine .plain (rv := .bool (if neg then !(p == q) else p == q)) hr ?_ (by simp only [Enc])
    have hg : ∀ op w, (eqGuard op xt x y (.bool p) (.bool q)).run P w = .ok () w := by intro op w; unfold eqGuard; cases op <;> simp
    cases neg
    · simp only [execOp, ho, hx', hy', Sem.run_bind, hg, Result.andThen_ok, Bool.false_eq_true, if_false, run_eql_bool w xt p q hu]; rfl
    · simp only [execOp, ho, hx', hy', Sem.run_bind, hg, Result.andThen_ok, if_true, run_neq_bool w xt p q hu]; rfl
  · cases hv

theorem un_ok {xt : TypeId} {x : Operand} {sx : X} {base : Nat} {op : UnOp} (ho : o.op = .unOp op xt x) (hx : chkX M.fm x sx = true)
    (ht : RelT M w e a n) (hr : HRel M w H) (hv : ev1 base e H (.un op sx) = some (v, H1)) : OpOk P o a M H w v H1 := by
  have hx' := chkX_enc hx ht
  simp only [ev1] at hv
  rw [Option.map_eq_some_iff] at hv
  obtain ⟨v', hm, hv⟩ := hv
  cases hv
  unfold evUn at hm
  split at hm
  · rename_i k p hp
    rw [hp] at hx'
    simp only [Enc] at hx'
    cases op <;> simp only [Option.some.injEq, reduceCtorEq] at hm <;> subst hm
    · refine .plain (rv := .int k (negI k p)) hr ?_ (by simp only [Enc])
      simp [execOp, ho, hx', Op.unary, Op.intArith, negI]
    · refine .plain (rv := .int k (notI k p)) hr ?_ (by simp only [Enc])
      simp [execOp, ho, hx', Op.unary, Op.intBits, notI]
  · rename_i p hp
    rw [hp] at hx'
    simp only [Enc] at hx'
    cases op <;> simp only [Option.some.injEq, reduceCtorEq] at hm <;> subst hm
    refine .plain (rv := .bool !p) hr ?_ (by simp only [Enc])
    simp [execOp, ho, hx', Op.unary]
  · cases hm

theorem conv_ok {st dt : TypeId} {x : Operand} {sx : X} {base : Nat} {k : IntKind} {sd : TypeDesc} (ho : o.op = .convert st dt x) (hx : chkX M.fm x sx = true) (hs : P.underlying st = some sd) (hd : P.underlying dt = some (.int k))
    (ht : RelT M w e a n) (hr : HRel M w H) (hv : ev1 base e H (.conv k sx) = some (v, H1)) : OpOk P o a M H w v H1 := by
  have hx' := chkX_enc hx ht
  simp only [ev1] at hv
  split at hv
  · rename_i k' p hp
    cases hv
    rw [hp] at hx'
    simp only [Enc] at hx'
    refine .plain (rv := .int k (convI k p)) hr ?_ (by simp only [Enc])
    simp [execOp, ho, hx', convert, run_underlying hs, run_underlying hd, Conv.intToInt, convI]
  · cases hv

theorem mkfn_ok {f f' : Nat} {cap : Array Operand} {scap : List X} (ho : o.op = .makeFunc (.func f) #[] cap) (hf : f = M.fm f') (hx : chkXs M.fm cap.toList scap = true)
    (ht : RelT M w e a n) (hr : HRel M w H) : OpOk P o a M H w (.fn f' (scap.map (X.ev e))) H := by
  refine .plain (rv := .func (.func (M.fm f')) #[] (cap.toList.map a.eval).toArray) hr ?_ (by simp only [Enc]; exact ⟨_, rfl, chkXs_encL hx ht⟩)
  have : (cap.toList.map a.eval).toArray = cap.map a.eval := by apply Array.ext'; simp
  rw [this]
  simp [execOp, ho, Instr.makeFunc, hf]

theorem ext_ok {x : Operand} {sx : X} {base i : Nat} (ho : o.op = .extract x i) (hx : chkX M.fm x sx = true) (ht : RelT M w e a n) (hr : HRel M w H)
    (hv : ev1 base e H (.ext i sx) = some (v, H1)) : OpOk P o a M H w v H1 := by
  have hx' := chkX_enc hx ht
  simp only [ev1] at hv
  split at hv
  · rename_i cs hp
    rw [Option.map_eq_some_iff] at hv
    obtain ⟨v', hm, hv⟩ := hv
    cases hv
    rw [hp] at hx'
    simp only [Enc] at hx'
    obtain ⟨xs, hxe, he⟩ := hx'
    obtain ⟨y, hy, hen⟩ := encL_get he hm
    refine .plain (rv := y) hr ?_ hen
    have : xs.toArray[i]? = some y := by simpa using hy
    simp [execOp, ho, hxe, Instr.extract, this]
  · cases hv

theorem nilck_ok {x : Operand} {sx : X} {base : Nat} (ho : o.op = .nilCheck x) (hx : chkX M.fm x sx = true) (ht : RelT M w e a n) (hr : HRel M w H)
    (hv : ev1 base e H (.nilck sx) = some (v, H1)) : OpOk P o a M H w v H1 := by
  have hx' := chkX_enc hx ht
  simp only [ev1] at hv
  split at hv
  · rename_i id k hp
    cases hv
    rw [hp] at hx'
    have hx2 := hx'
    simp only [Enc] at hx2
    refine .plain (rv := a.eval x) hr ?_ hx'
    simp [execOp, ho, hx2.2]
  · rename_i cs hp
    cases hv
    rw [hp] at hx'
    have hx2 := hx'
    simp only [Enc] at hx2
    obtain ⟨_, b, k, hxe, _⟩ := hx2
    refine .plain (rv := a.eval x) hr ?_ hx'
    simp [execOp, ho, hxe]
  · rename_i f cap hp
    cases hv
    rw [hp] at hx'
    have hx2 := hx'
    simp only [Enc] at hx2
    obtain ⟨xs, hxe, _⟩ := hx2
    refine .plain (rv := a.eval x) hr ?_ hx'
    simp [execOp, ho, hxe]
  · cases hv

theorem len_ok {t : TypeId} {x : Operand} {sx : X} {base : Nat} {st : Bool} (ho : o.op = .call { callee := .builtin .len, args := #[x], argTypes := #[t] }) (hx : chkX M.fm x sx = true)
    (hu : if st then P.underlying t = some .string else ∃ el, elemOf? P t = some el) (ht : RelT M w e a n) (hr : HRel M w H)
    (hv : ev1 base e H (.len st sx) = some (v, H1)) : OpOk P o a M H w v H1 := by
  have hx' := chkX_enc hx ht
  simp only [ev1] at hv
  split at hv
  · rename_i es tk hp
    cases hv
    simp only [Bool.false_eq_true, if_false] at hu
    obtain ⟨el, hu⟩ := hu
    rw [hp] at hx'
    simp only [Enc] at hx'
    obtain ⟨_, ad, cap, hxe, _⟩ := hx'
    refine .plain (rv := .int .i64 es.length) hr ?_ (by simp only [Enc])
    simp [execOp, ho, resolve, invoke, builtin, hxe, Builtin.len_, run_underlying (elemOf?_some hu), goInt]
  · rename_i id off k szz hp
    cases hv
    simp only [Bool.false_eq_true, if_false] at hu
    obtain ⟨el, hu⟩ := hu
    rw [hp] at hx'
    simp only [Enc] at hx'
    obtain ⟨_, cap, hxe, _⟩ := hx'
    refine .plain (rv := .int .i64 k) hr ?_ (by simp only [Enc])
    simp [execOp, ho, resolve, invoke, builtin, hxe, Builtin.len_, run_underlying (elemOf?_some hu), goInt]
  · rename_i s hp
    cases hv
    simp only [if_true] at hu
    rw [hp] at hx'
    simp only [Enc] at hx'
    refine .plain (rv := .int .i64 s.length) hr ?_ (by simp only [Enc])
    simp [execOp, ho, resolve, invoke, builtin, hx', Builtin.len_, run_underlying hu, goInt, size_mk]
  · cases hv

def isInt (P : Program) (t : TypeId) (k : IntKind) : Bool := match P.underlying t with | some (.int k') => k == k' | _ => false
theorem isInt_spec {t : TypeId} {k : IntKind} (h : isInt P t k = true) : P.underlying t = some (.int k) := by
  unfold isInt at h
  split at h
  · rename_i k' hk; simp only [beq_iff_eq] at h; rw [h]; exact hk
  · cases h
def isBool (P : Program) (t : TypeId) : Bool := match P.underlying t with | some .bool => true | _ => false
theorem isBool_spec {t : TypeId} (h : isBool P t = true) : P.underlying t = some .bool := by
  unfold isBool at h
  split at h
  · assumption
  · cases h
def isStr (P : Program) (t : TypeId) : Bool := match P.underlying t with | some .string => true | _ => false
theorem isStr_spec {t : TypeId} (h : isStr P t = true) : P.underlying t = some .string := by
  unfold isStr at h
  split at h
  · assumption
  · cases h

end Go.Ev
