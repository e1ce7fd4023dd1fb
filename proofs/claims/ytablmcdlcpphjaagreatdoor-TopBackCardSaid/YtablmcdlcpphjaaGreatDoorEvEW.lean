/- More operations. -/
import Derived.Laws.Strings
import Derived.Laws.Concat
import Derived.Test.YtablmcdlcpphjaaGreatDoorEvAW
set_option linter.unusedVariables false
set_option linter.unusedSimpArgs false
namespace Go.Ev
set_option linter.unusedSimpArgs false
open Go Go.RowKit
variable {P : Program} {M M' : Mm} {H H1 : Heap} {w w' : World}
variable {e : Env} {a : Act} {n : Nat} {o : Oper} {v : V}
theorem run_isAgg {t : TypeId} {d : TypeDesc} (hu : P.underlying t = some d) : (isAgg t).run P w = .ok d.isRow w := by
 unfold isAgg
 rw [Sem.run_bind, run_underlying hu w]
 cases d <;> simp [TypeDesc.isRow]
theorem run_part_mk {t : TypeId} {sz off : Nat} {ag : Bool} {xs : Array Value} (hty : tyOk P t sz ag = true) (hl : off + sz ≤ xs.size) :
  (part t xs off).run P w = .ok (mkR ag ((xs.toList.drop off).take sz)) w := by
 unfold tyOk at hty
 split at hty
 ·rename_i d i hu hi
  simp only [Bool.and_eq_true, beq_iff_eq] at hty
  obtain ⟨hsz, hty⟩ := hty
  by_cases hd : d.isRow = true
  ·rw [if_pos hd] at hty
   subst hty
   have : xs.extract off (off + sz) = ((xs.toList.drop off).take sz).toArray := by
    apply Array.ext'
    simp [Array.toList_extract, List.extract_eq_take_drop]
   simp [part, run_isAgg hu, hd, sizeOf, typeInfo, hi, hsz, mkR, this]
  ·rw [if_neg hd] at hty
   simp only [Bool.and_eq_true, Bool.not_eq_true', beq_iff_eq] at hty
   obtain ⟨rfl, rfl⟩ := hty
   have hlt : off < xs.size := by omega
   have : (xs.toList.drop off).take 1 = [xs[off]] := by
    rw [List.drop_eq_getElem_cons (by simpa using hlt)]
    simp
   simp [part, run_isAgg hu, hd, hlt, mkR, this]
 ·cases hty
def chkField (P : Program) (t : TypeId) (f : Nat) (off : Nat) : Option TypeId :=
 match P.underlying t with
 | some (.struct fs) => match fs[f]? with
  | some fl => if fl.offset = off then some fl.type else none
  | none => none
 | _ => none
theorem faddr_ok {t : TypeId} {x : Operand} {sx : X} {f base off ft : Nat} {i : TypeInfo} (ho : o.op = .fieldAddr t x f) (hx : chkX M.fm x sx = true) (hf : chkField P t f off = some ft)
  (hi : P.info? ft = some i) (hs : i.size ≠ 0) (ht : RelT M w e a n) (hr : HRel M w H) (hv : ev1 base e H (.faddr off sx) = some (v, H1)) : OpOk P o a M H w v H1 := by
 have hx' := chkX_enc hx ht
 unfold chkField at hf
 split at hf
 ·rename_i fs hu
  split at hf
  ·rename_i fl hfl
   split at hf
   ·rename_i hoff
    cases hf
    have hrun : ∀ b k, a.eval x = .pointer (some ⟨b, k, none⟩) → (execOp a.eval o).run P w = .ok (.value (.pointer (some ⟨b, k + off, none⟩))) w := by
     intro b k hb
     simp [execOp, ho, hb, Instr.fieldAt, run_underlying hu, hfl, Instr.sureAddr, fieldPlace, sizeOf, typeInfo, hi, hs, Addr.add_lit, hoff]
    simp only [ev1] at hv
    split at hv
    ·rename_i id k hp
     cases hv
     rw [hp] at hx'
     simp only [Enc] at hx'
     exact .plain hr (hrun _ _ hx'.2) (by simp only [Enc]; exact ⟨hx'.1, trivial⟩)
    ·rename_i cs hp
     cases hv
     rw [hp] at hx'
     simp only [Enc] at hx'
     obtain ⟨hpu, b, k, hxe, hrow⟩ := hx'
     exact .plain hr (hrun _ _ hxe) (by simp only [Enc]; exact ⟨fun c hc => hpu c (List.mem_of_mem_drop hc), b, k + off, rfl, encRow_drop hrow⟩)
    ·cases hv
   ·cases hf
  ·cases hf
 ·cases hf
theorem fld_ok {t : TypeId} {x : Operand} {sx : X} {f base off sz ft : Nat} {ag : Bool} (ho : o.op = .field t x f) (hx : chkX M.fm x sx = true) (hf : chkField P t f off = some ft)
  (hty : tyOk P ft sz ag = true) (ht : RelT M w e a n) (hr : HRel M w H) (hv : ev1 base e H (.fld off sz ag sx) = some (v, H1)) : OpOk P o a M H w v H1 := by
 have hx' := chkX_enc hx ht
 unfold chkField at hf
 split at hf
 ·rename_i fs hu
  split at hf
  ·rename_i fl hfl
   split at hf
   ·rename_i hoff
    cases hf
    simp only [ev1] at hv
    split at hv
    ·rename_i cs hp
     split at hv
     ·rename_i hle
      rw [Option.map_eq_some_iff] at hv
      obtain ⟨v', hm, hv⟩ := hv
      cases hv
      rw [hp] at hx'
      simp only [Enc] at hx'
      obtain ⟨hs, xs, hxe, he⟩ := hx'
      have hlen := encL_length he
      have hpart := run_part_mk (P := P) (w := w) (xs := xs.toArray) (off := off) hty (by simp; omega)
      refine .plain (rv := mkR ag ((xs.drop off).take sz)) hr ?_ (mk_enc hm (encL_take (encL_drop he off) sz) (fun c hc => hs c (List.mem_of_mem_drop (List.mem_of_mem_take hc))))
      simp [execOp, ho, hxe, Instr.field, run_underlying hu, hfl, asAgg, hoff, hpart]
     ·cases hv
    ·cases hv
   ·cases hf
  ·cases hf
 ·cases hf
theorem encRows_get {b : Nat} {es : List (List V)} {off sz : Nat} (h : EncRows M w b es off) (hs : ∀ e ∈ es, e.length = sz) {i : Nat} {c : List V} (hi : es[i]? = some c) : EncRow M w b c (off + i * sz) := by
 induction es generalizing off i with
 | nil => simp at hi
 | cons e es ih =>
  simp only [EncRows] at h
  cases i with
  | zero => simp at hi; subst hi; simpa using h.1
  | succ i =>
   simp at hi
   have := ih h.2 (fun d hd => hs d (by simp [hd])) hi
   rw [hs e (by simp)] at this
   rw [show off + sz + i * sz = off + (i + 1) * sz by rw [Nat.add_mul, Nat.one_mul]; omega] at this
   exact this
def elemOf? (P : Program) (t : TypeId) : Option TypeId :=
 match P.underlying t with
 | some (.slice el) => some el
 | _ => none
theorem elemOf?_some {t el : TypeId} (h : elemOf? P t = some el) : P.underlying t = some (.slice el) := by
 unfold elemOf? at h
 split at h
 ·cases h; assumption
 ·cases h
def arrOf? (P : Program) (t : TypeId) : Option (Nat × TypeId) :=
 match P.underlying t with
 | some (.array k el) => some (k, el)
 | _ => none
theorem arrOf?_some {t el : TypeId} {k : Nat} (h : arrOf? P t = some (k, el)) : P.underlying t = some (.array k el) := by
 unfold arrOf? at h
 split at h
 ·cases h; assumption
 ·cases h
theorem iaddr_ok {t : TypeId} {x y : Operand} {sx sy : X} {base sz el : Nat} {i : TypeInfo} (ho : o.op = .indexAddr t x y) (hx : chkX M.fm x sx = true) (hy : chkX M.fm y sy = true) (hu0 : elemOf? P t = some el)
  (hi : P.info? el = some i) (hs : i.size = sz) (ht : RelT M w e a n) (hr : HRel M w H) (hv : ev1 base e H (.iaddr sz sx sy) = some (v, H1)) : OpOk P o a M H w v H1 := by
 have hx' := chkX_enc hx ht
 have hy' := chkX_enc hy ht
 have hu := elemOf?_some hu0
 have hrun : ∀ (ad : Addr) (len cap : Nat) (k : IntKind) (j : Int), a.eval x = .slice (some ad) len cap → a.eval y = .int k j → 0 ≤ j → j < len →
   (execOp a.eval o).run P w = .ok (.value (.pointer (some (ad.add (j.toNat * sz))))) w := by
  intro ad len cap k j h1 h2 h3 h4
  simp [execOp, ho, h1, h2, Instr.indexAt, run_underlying hu, asIntOf, h3, h4, sizeOf, typeInfo, hi, hs]
 simp only [ev1] at hv
 split at hv
 ·rename_i es tk k j hp hq
  split at hv
  ·rename_i h0
   split at hv
   ·rename_i cs hcs
    split at hv
    ·rename_i hlen
     cases hv
     rw [hp] at hx'
     rw [hq] at hy'
     simp only [Enc] at hx' hy'
     obtain ⟨hpu, ad, cap, hxe, hle, hrows, _⟩ := hx'
     have hlt := (List.getElem?_eq_some_iff.1 hcs).1
     cases ad with
     | none => obtain ⟨rfl, _⟩ := hrows; simp at hcs
     | some ad =>
      obtain ⟨hsp, ⟨sz', hsz⟩, hrows⟩ := hrows
      have hmem := List.mem_of_getElem? hcs
      have : sz' = sz := by rw [← hsz cs hmem, hlen]
      subst this
      obtain ⟨ab, ao, asp⟩ := ad
      simp only at hsp hrows
      have hsp := hsp.resolve_left (fun h0 => by rw [h0] at hcs; simp at hcs)
      subst hsp
      refine .plain hr (hrun ⟨ab, ao, none⟩ es.length cap k j hxe hy' h0 (by omega)) ?_
      simp only [Enc, Addr.add_lit]
      exact ⟨fun c hc => hpu cs hmem c hc, ab, ao + j.toNat * sz', rfl, encRows_get hrows hsz hcs⟩
    ·cases hv
   ·cases hv
  ·cases hv
 ·rename_i id off k szz kk j hp hq
  split at hv
  ·rename_i h0
   cases hv
   rw [hp] at hx'
   rw [hq] at hy'
   simp only [Enc] at hx' hy'
   obtain ⟨ha, cap, hxe, hle⟩ := hx'
   refine .plain hr (hrun _ _ cap _ j hxe hy' h0.1 h0.2) ?_
   simp only [Enc, Addr.add_lit]
   exact ⟨ha, trivial⟩
  ·cases hv
 ·cases hv
theorem iaddrA_ok {t : TypeId} {x y : Operand} {sx sy : X} {base sz el len : Nat} {i : TypeInfo} (ho : o.op = .indexAddr t x y) (hx : chkX M.fm x sx = true) (hy : chkX M.fm y sy = true) (hu0 : arrOf? P t = some (len, el))
  (hi : P.info? el = some i) (hs : i.size = sz) (ht : RelT M w e a n) (hr : HRel M w H) (hv : ev1 base e H (.iaddrA len sz sx sy) = some (v, H1)) : OpOk P o a M H w v H1 := by
 have hx' := chkX_enc hx ht
 have hy' := chkX_enc hy ht
 have hu := arrOf?_some hu0
 have hrun : ∀ (b k0 : Nat) (k : IntKind) (j : Int), a.eval x = .pointer (some ⟨b, k0, none⟩) → a.eval y = .int k j → 0 ≤ j → j < len →
   (execOp a.eval o).run P w = .ok (.value (.pointer (some ⟨b, k0 + j.toNat * sz, none⟩))) w := by
  intro b k0 k j h1 h2 h3 h4
  simp [execOp, ho, h1, h2, Instr.indexAt, run_underlying hu, asIntOf, h3, h4, sizeOf, typeInfo, hi, hs, Instr.sureAddr, Addr.add_lit]
 simp only [ev1] at hv
 split at hv
 ·rename_i id off k j hp hq
  split at hv
  ·rename_i h0
   cases hv
   rw [hp] at hx'
   rw [hq] at hy'
   simp only [Enc] at hx' hy'
   exact .plain hr (hrun _ _ _ j hx'.2 hy' h0.1 h0.2) (by simp only [Enc]; exact ⟨hx'.1, trivial⟩)
  ·cases hv
 ·rename_i cs k j hp hq
  split at hv
  ·rename_i h0
   cases hv
   rw [hp] at hx'
   rw [hq] at hy'
   simp only [Enc] at hx' hy'
   obtain ⟨hpu, b, k0, hxe, hrow⟩ := hx'
   exact .plain hr (hrun _ _ _ j hxe hy' h0.1 h0.2) (by simp only [Enc]; exact ⟨fun c hc => hpu c (List.mem_of_mem_drop hc), b, _, rfl, encRow_drop hrow⟩)
  ·cases hv
 ·cases hv
theorem idx_ok {t : TypeId} {x y : Operand} {sx sy : X} {base sz el len : Nat} {ag : Bool} (ho : o.op = .index t x y) (hx : chkX M.fm x sx = true) (hy : chkX M.fm y sy = true) (hu0 : arrOf? P t = some (len, el))
  (hty : tyOk P el sz ag = true) (ht : RelT M w e a n) (hr : HRel M w H) (hv : ev1 base e H (.idx len sz ag sx sy) = some (v, H1)) : OpOk P o a M H w v H1 := by
 have hx' := chkX_enc hx ht
 have hy' := chkX_enc hy ht
 have hu := arrOf?_some hu0
 simp only [ev1] at hv
 split at hv
 ·rename_i cs k j hp hq
  split at hv
  ·rename_i h0
   rw [Option.map_eq_some_iff] at hv
   obtain ⟨v', hm, hv⟩ := hv
   cases hv
   rw [hp] at hx'
   rw [hq] at hy'
   simp only [Enc] at hx' hy'
   obtain ⟨hs, xs, hxe, he⟩ := hx'
   have hlen := encL_length he
   have hpart := run_part_mk (P := P) (w := w) (xs := xs.toArray) (off := j.toNat * sz) hty (by simp; omega)
   have hsz : ∃ i, P.info? el = some i ∧ i.size = sz := by
    unfold tyOk at hty
    split at hty
    ·rename_i d i _ hi
     simp only [Bool.and_eq_true, beq_iff_eq] at hty
     exact ⟨i, hi, hty.1⟩
    ·cases hty
   obtain ⟨i, hi, hsz⟩ := hsz
   refine .plain (rv := mkR ag ((xs.drop (j.toNat * sz)).take sz)) hr ?_ (mk_enc hm (encL_take (encL_drop he _) sz) (fun c hc => hs c (List.mem_of_mem_drop (List.mem_of_mem_take hc))))
   simp [execOp, ho, hxe, hy', Instr.index, asIntOf, run_underlying hu, h0.1, h0.2.1, sizeOf, typeInfo, hi, hsz, hpart]
  ·cases hv
 ·cases hv
def valOf : V → Value
 | .int k n => .int k n
 | .bool b => .bool b
 | .str s => .string ⟨s.toArray⟩
 | _ => undef
theorem size_mk (s : List UInt8) : (ByteArray.mk s.toArray).size = s.length := by simp [ByteArray.size]
theorem bin_ok {xt yt : TypeId} {x y : Operand} {sx sy : X} {base : Nat} {op : BinOp} (ho : o.op = .binOp op xt x y yt) (hx : chkX M.fm x sx = true) (hy : chkX M.fm y sy = true)
  (ht : RelT M w e a n) (hr : HRel M w H) (hv : ev1 base e H (.bin op sx sy) = some (v, H1)) : OpOk P o a M H w v H1 := by
 have hx' := chkX_enc hx ht
 have hy' := chkX_enc hy ht
 simp only [ev1] at hv
 rw [Option.map_eq_some_iff] at hv
 obtain ⟨v', hm, hv⟩ := hv
 simp only [Prod.mk.injEq] at hv
 obtain ⟨rfl, rfl⟩ := hv
 unfold evBin at hm
 split at hm
 ·rename_i k p k' q hp hq
  rw [hp] at hx'
  rw [hq] at hy'
  simp only [Enc] at hx' hy'
  have hg : ∀ w, (eqGuard op xt x y (.int k p) (.int k' q)).run P w = .ok () w := by intro w; unfold eqGuard; cases op <;> simp
  have hex : (execOp a.eval o).run P w = ((binOp op xt (.int k p) (.int k' q)).run P w).andThen fun u w' => .ok (.value u) w' := by
   simp only [execOp, ho, hx', hy', Sem.run_bind, hg, Result.andThen_ok]
   cases (binOp op xt (.int k p) (.int k' q)).run P w <;> simp [Result.andThen]
  have fin : (binOp op xt (.int k p) (.int k' q)).run P w = .ok (valOf v') w → Enc M w v' (valOf v') → OpOk P o a M H w v' H := by
   intro h1 h2
   refine .plain (rv := valOf v') hr ?_ h2
   rw [hex, h1]; rfl
  cases op <;> simp only at hm
  case shl | shr =>
   split at hm
   ·cases hm
   ·rename_i h0
    simp only [Option.some.injEq] at hm
    subst hm
    refine fin ?_ (by simp only [Enc, valOf])
    simp [binOp, Op.shift, h0, valOf, shlI, shrI]
  case quo | rem =>
   split at hm
   ·rename_i hk
    subst hk
    split at hm
    ·cases hm
    ·rename_i h0
     simp only [Option.some.injEq] at hm
     subst hm
     refine fin ?_ (by simp only [Enc, valOf])
     simp [binOp, Op.intDiv, h0, valOf, quoI, remI]
   ·cases hm
  all_goals
   split at hm
   ·rename_i hk
    subst hk
    simp only [Option.some.injEq] at hm
    subst hm
    refine fin ?_ (by simp only [Enc, valOf])
    simp [binOp, Op.intArith, Op.intBits, Op.intCmp, valOf, addI, subI, mulI, quoI, remI, andI, orI, xorI, andnI, shlI, shrI]
   ·cases hm
 ·rename_i s t hp hq
  rw [hp] at hx'
  rw [hq] at hy'
  simp only [Enc] at hx' hy'
  have hg : ∀ w, (eqGuard op xt x y (.string ⟨s.toArray⟩) (.string ⟨t.toArray⟩)).run P w = .ok () w := by intro w; unfold eqGuard; cases op <;> simp
  have hex : (execOp a.eval o).run P w = ((binOp op xt (.string ⟨s.toArray⟩) (.string ⟨t.toArray⟩)).run P w).andThen fun u w' => .ok (.value u) w' := by
   simp only [execOp, ho, hx', hy', Sem.run_bind, hg, Result.andThen_ok]
   cases (binOp op xt (.string ⟨s.toArray⟩) (.string ⟨t.toArray⟩)).run P w <;> simp [Result.andThen]
  have fin : (binOp op xt (.string ⟨s.toArray⟩) (.string ⟨t.toArray⟩)).run P w = .ok (valOf v') w → Enc M w v' (valOf v') → OpOk P o a M H w v' H := by
   intro h1 h2
   refine .plain (rv := valOf v') hr ?_ h2
   rw [hex, h1]; rfl
  cases op <;> simp only [Option.some.injEq, reduceCtorEq] at hm
  case add =>
   split at hm
   ·rename_i hle
    simp only [Option.some.injEq] at hm
    subst hm
    refine fin ?_ (by simp only [Enc, valOf])
    rw [binOp_string_add, run_string_add_sum w _ _ (by rw [size_mk, size_mk]; exact hle), ByteArray.mk_append_mk, valOf]
   ·cases hm
  all_goals
   subst hm
   refine fin ?_ (by simp only [Enc, valOf])
   simp [binOp, Op.stringOp, valOf]
 ·cases hm
theorem beq_ok {xt yt : TypeId} {x y : Operand} {sx sy : X} {base : Nat} {neg : Bool} (ho : o.op = .binOp (if neg then .neq else .eql) xt x y yt) (hx : chkX M.fm x sx = true) (hy : chkX M.fm y sy = true)
  (hu : P.underlying xt = some .bool) (ht : RelT M w e a n) (hr : HRel M w H) (hv : ev1 base e H (.beq neg sx sy) = some (v, H1)) : OpOk P o a M H w v H1 := by
 have hx' := chkX_enc hx ht
 have hy' := chkX_enc hy ht
 simp only [ev1] at hv
 split at hv
 ·rename_i p q hp hq
  cases hv
  rw [hp] at hx'
  rw [hq] at hy'
  simp only [Enc] at hx' hy'
  refine .plain (rv := .bool (if neg then !(p == q) else p == q)) hr ?_ (by simp only [Enc])
  have hg : ∀ op w, (eqGuard op xt x y (.bool p) (.bool q)).run P w = .ok () w := by intro op w; unfold eqGuard; cases op <;> simp
  cases neg
  ·simp only [execOp, ho, hx', hy', Sem.run_bind, hg, Result.andThen_ok, Bool.false_eq_true, if_false, run_eql_bool w xt p q hu]; rfl
  ·simp only [execOp, ho, hx', hy', Sem.run_bind, hg, Result.andThen_ok, if_true, run_neq_bool w xt p q hu]; rfl
 ·cases hv
theorem un_ok {xt : TypeId} {x : Operand} {sx : X} {base : Nat} {op : UnOp} (ho : o.op = .unOp op xt x) (hx : chkX M.fm x sx = true)
  (ht : RelT M w e a n) (hr : HRel M w H) (hv : ev1 base e H (.un op sx) = some (v, H1)) : OpOk P o a M H w v H1 := by
 have hx' := chkX_enc hx ht
 simp only [ev1] at hv
 rw [Option.map_eq_some_iff] at hv
 obtain ⟨v', hm, hv⟩ := hv
 cases hv
 unfold evUn at hm
 split at hm
 ·rename_i k p hp
  rw [hp] at hx'
  simp only [Enc] at hx'
  cases op <;> simp only [Option.some.injEq, reduceCtorEq] at hm <;> subst hm
  ·refine .plain (rv := .int k (negI k p)) hr ?_ (by simp only [Enc])
   simp [execOp, ho, hx', Op.unary, Op.intArith, negI]
  ·refine .plain (rv := .int k (notI k p)) hr ?_ (by simp only [Enc])
   simp [execOp, ho, hx', Op.unary, Op.intBits, notI]
 ·rename_i p hp
  rw [hp] at hx'
  simp only [Enc] at hx'
  cases op <;> simp only [Option.some.injEq, reduceCtorEq] at hm <;> subst hm
  refine .plain (rv := .bool !p) hr ?_ (by simp only [Enc])
  simp [execOp, ho, hx', Op.unary]
 ·cases hm
theorem conv_ok {st dt : TypeId} {x : Operand} {sx : X} {base : Nat} {k : IntKind} {sd : TypeDesc} (ho : o.op = .convert st dt x) (hx : chkX M.fm x sx = true) (hs : P.underlying st = some sd) (hd : P.underlying dt = some (.int k))
  (ht : RelT M w e a n) (hr : HRel M w H) (hv : ev1 base e H (.conv k sx) = some (v, H1)) : OpOk P o a M H w v H1 := by
 have hx' := chkX_enc hx ht
 simp only [ev1] at hv
 split at hv
 ·rename_i k' p hp
  cases hv
  rw [hp] at hx'
  simp only [Enc] at hx'
  refine .plain (rv := .int k (convI k p)) hr ?_ (by simp only [Enc])
  simp [execOp, ho, hx', convert, run_underlying hs, run_underlying hd, Conv.intToInt, convI]
 ·cases hv
theorem mkfn_ok {f f' : Nat} {cap : Array Operand} {scap : List X} (ho : o.op = .makeFunc (.func f) #[] cap) (hf : f = M.fm f') (hx : chkXs M.fm cap.toList scap = true)
  (ht : RelT M w e a n) (hr : HRel M w H) : OpOk P o a M H w (.fn f' (scap.map (X.ev e))) H := by
 refine .plain (rv := .func (.func (M.fm f')) #[] (cap.toList.map a.eval).toArray) hr ?_ (by simp only [Enc]; exact ⟨_, rfl, chkXs_encL hx ht⟩)
 have : (cap.toList.map a.eval).toArray = cap.map a.eval := by apply Array.ext'; simp
 rw [this]
 simp [execOp, ho, Instr.makeFunc, hf]
theorem ext_ok {x : Operand} {sx : X} {base i : Nat} (ho : o.op = .extract x i) (hx : chkX M.fm x sx = true) (ht : RelT M w e a n) (hr : HRel M w H)
  (hv : ev1 base e H (.ext i sx) = some (v, H1)) : OpOk P o a M H w v H1 := by
 have hx' := chkX_enc hx ht
 simp only [ev1] at hv
 split at hv
 ·rename_i cs hp
  rw [Option.map_eq_some_iff] at hv
  obtain ⟨v', hm, hv⟩ := hv
  cases hv
  rw [hp] at hx'
  simp only [Enc] at hx'
  obtain ⟨xs, hxe, he⟩ := hx'
  obtain ⟨y, hy, hen⟩ := encL_get he hm
  refine .plain (rv := y) hr ?_ hen
  have : xs.toArray[i]? = some y := by simpa using hy
  simp [execOp, ho, hxe, Instr.extract, this]
 ·cases hv
theorem nilck_ok {x : Operand} {sx : X} {base : Nat} (ho : o.op = .nilCheck x) (hx : chkX M.fm x sx = true) (ht : RelT M w e a n) (hr : HRel M w H)
  (hv : ev1 base e H (.nilck sx) = some (v, H1)) : OpOk P o a M H w v H1 := by
 have hx' := chkX_enc hx ht
 simp only [ev1] at hv
 split at hv
 ·rename_i id k hp
  cases hv
  rw [hp] at hx'
  have hx2 := hx'
  simp only [Enc] at hx2
  refine .plain (rv := a.eval x) hr ?_ hx'
  simp [execOp, ho, hx2.2]
 ·rename_i cs hp
  cases hv
  rw [hp] at hx'
  have hx2 := hx'
  simp only [Enc] at hx2
  obtain ⟨_, b, k, hxe, _⟩ := hx2
  refine .plain (rv := a.eval x) hr ?_ hx'
  simp [execOp, ho, hxe]
 ·rename_i f cap hp
  cases hv
  rw [hp] at hx'
  have hx2 := hx'
  simp only [Enc] at hx2
  obtain ⟨xs, hxe, _⟩ := hx2
  refine .plain (rv := a.eval x) hr ?_ hx'
  simp [execOp, ho, hxe]
 ·cases hv
theorem len_ok {t : TypeId} {x : Operand} {sx : X} {base : Nat} {st : Bool} (ho : o.op = .call { callee := .builtin .len, args := #[x], argTypes := #[t] }) (hx : chkX M.fm x sx = true)
  (hu : if st then P.underlying t = some .string else ∃ el, elemOf? P t = some el) (ht : RelT M w e a n) (hr : HRel M w H)
  (hv : ev1 base e H (.len st sx) = some (v, H1)) : OpOk P o a M H w v H1 := by
 have hx' := chkX_enc hx ht
 simp only [ev1] at hv
 split at hv
 ·rename_i es tk hp
  cases hv
  simp only [Bool.false_eq_true, if_false] at hu
  obtain ⟨el, hu⟩ := hu
  rw [hp] at hx'
  simp only [Enc] at hx'
  obtain ⟨_, ad, cap, hxe, _⟩ := hx'
  refine .plain (rv := .int .i64 es.length) hr ?_ (by simp only [Enc])
  simp [execOp, ho, resolve, invoke, builtin, hxe, Builtin.len_, run_underlying (elemOf?_some hu), goInt]
 ·rename_i id off k szz hp
  cases hv
  simp only [Bool.false_eq_true, if_false] at hu
  obtain ⟨el, hu⟩ := hu
  rw [hp] at hx'
  simp only [Enc] at hx'
  obtain ⟨_, cap, hxe, _⟩ := hx'
  refine .plain (rv := .int .i64 k) hr ?_ (by simp only [Enc])
  simp [execOp, ho, resolve, invoke, builtin, hxe, Builtin.len_, run_underlying (elemOf?_some hu), goInt]
 ·rename_i s hp
  cases hv
  simp only [if_true] at hu
  rw [hp] at hx'
  simp only [Enc] at hx'
  refine .plain (rv := .int .i64 s.length) hr ?_ (by simp only [Enc])
  simp [execOp, ho, resolve, invoke, builtin, hx', Builtin.len_, run_underlying hu, goInt, size_mk]
 ·cases hv
def isInt (P : Program) (t : TypeId) (k : IntKind) : Bool := match P.underlying t with | some (.int k') => k == k' | _ => false
theorem isInt_spec {t : TypeId} {k : IntKind} (h : isInt P t k = true) : P.underlying t = some (.int k) := by
 unfold isInt at h
 split at h
 ·rename_i k' hk; simp only [beq_iff_eq] at h; rw [h]; exact hk
 ·cases h
def isBool (P : Program) (t : TypeId) : Bool := match P.underlying t with | some .bool => true | _ => false
theorem isBool_spec {t : TypeId} (h : isBool P t = true) : P.underlying t = some .bool := by
 unfold isBool at h
 split at h
 ·assumption
 ·cases h
def isStr (P : Program) (t : TypeId) : Bool := match P.underlying t with | some .string => true | _ => false
theorem isStr_spec {t : TypeId} (h : isStr P t = true) : P.underlying t = some .string := by
 unfold isStr at h
 split at h
 ·assumption
 ·cases h
end Go.Ev
/- Append, slice expressions, composite literals. -/
namespace Go.Ev
open Go Go.RowKit
variable {P : Program} {M M' : Mm} {H H1 : Heap} {w w' : World}
variable {e : Env} {a : Act} {n : Nat} {o : Oper} {v : V}
theorem flatten_len {es : List (List V)} {sz : Nat} (h : ∀ e ∈ es, e.length = sz) : es.flatten.length = es.length * sz := by
 induction es with
 | nil => simp
 | cons e es ih => simp only [List.flatten_cons, List.length_append, ih (fun d hd => h d (by simp [hd])), h e (by simp), List.length_cons, Nat.add_mul, Nat.one_mul]; omega
theorem encRows_vals {b off : Nat} {es : List (List V)} (h : EncRows M w b es off) : ∃ xs : List Value, EncL M w es.flatten xs ∧ w.rangeAt b off xs := encRow_range (encRows_iff.1 h)
theorem encL_rows {b : Nat} {xs : List Value} : ∀ {es : List (List V)} {off : Nat}, EncL M w es.flatten xs → w.rangeAt b off xs → (∀ i, i < xs.length → Rd M b (off + i)) → EncRows M w b es off := by
 intro es off h1 h2 h3
 rw [encRows_iff]
 refine encRow_of fun i c hc => ?_
 obtain ⟨x, hx, he⟩ := encL_get h1 hc
 exact ⟨x, h2 i x hx, h3 i (List.getElem?_eq_some_iff.1 hx).1, he⟩
theorem encL_one {cs : List V} {xs : List Value} (h : EncL M w cs xs) (hs : ∀ c ∈ cs, c.scal = true) : ∀ u ∈ xs, u.oneCell' = true := by
 intro u hu
 obtain ⟨i, hi⟩ := List.getElem?_of_mem hu
 have hil : i < cs.length := by rw [← encL_length h]; exact (List.getElem?_eq_some_iff.1 hi).1
 obtain ⟨x', hx1, hx2⟩ := encL_get h (List.getElem?_eq_getElem hil)
 rw [hi] at hx1; cases hx1
 exact enc_one hx2 (hs _ (List.getElem_mem hil))
theorem src_of {c : V} {fs : List (List V)} {x : Value} {t : TypeId} {sz : Nat} (hu : (∃ el, P.underlying t = some (.slice el)) ∨ P.underlying t = some .string) (h : Enc M w c x) (hc : c.elems? = some fs) (hs : ∀ f ∈ fs, f.length = sz) :
  ∃ news, Src P sz t x fs.length news w ∧ EncL M w fs.flatten news := by
 cases c <;> simp only [V.elems?, Option.some.injEq, reduceCtorEq] at hc <;> subst hc
 case vs fs tk =>
  simp only [Enc] at h
  obtain ⟨hp, ad, cap, rfl, hle, hrows, _⟩ := h
  cases ad with
  | none =>
   obtain ⟨rfl, rfl⟩ := hrows
   exact ⟨[], ⟨hu, fun _ => rfl, run_firstCells_none w sz 0 0 0, run_firstCells_none w.drew sz 0 0 0, by simp, fun _ h => by cases h⟩, by simp only [List.flatten_nil, EncL]⟩
  | some ad =>
   obtain ⟨b, off, sp⟩ := ad
   obtain ⟨hsp, _, hrows⟩ := hrows
   by_cases hfs : fs = []
   ·subst hfs
    exact ⟨[], ⟨hu, fun _ => rfl, run_firstCells_some w sz 0 ⟨b, off, sp⟩ 0 cap [] (by simp) (fun j u hu => by simp at hu), run_firstCells_some w.drew sz 0 ⟨b, off, sp⟩ 0 cap [] (by simp) (fun j u hu => by simp at hu), by simp, by simp⟩,
     by simp only [List.flatten_nil, EncL]⟩
   have hsp := hsp.resolve_left hfs
   simp only at hsp hrows
   subst hsp
   obtain ⟨xs, h1, h2⟩ := encRows_vals hrows
   have hl : xs.length = fs.length * sz := by rw [encL_length h1, flatten_len hs]
   have hcell : ∀ j u, xs[j]? = some u → w.cell? ((⟨b, off, none⟩ : Addr).add j) = some u := fun j u hu => by rw [Addr.add_mid]; exact h2 j u hu
   refine ⟨xs, ⟨hu, fun _ => rfl, run_firstCells_some w sz fs.length ⟨b, off, none⟩ fs.length cap xs hl hcell, run_firstCells_some w.drew sz fs.length ⟨b, off, none⟩ fs.length cap xs hl (by simpa using hcell), hl, encL_one h1 fun c hc => ?_⟩, h1⟩
   obtain ⟨f, hf, hc⟩ := List.mem_flatten.1 hc
   exact V.scal_of_pure (hp f hf c hc)
 case str s =>
  simp only [Enc] at h
  subst h
  have hlen : (ofBytes s).length = s.length := by simp [ofBytes]
  have hsz : (ByteArray.mk s.toArray).size = s.length := by simp [ByteArray.size]
  by_cases hs0 : s = []
  ·subst hs0
   refine ⟨[], ⟨hu, fun _ => rfl, ?_, ?_, by simp [ofBytes], fun _ h => by cases h⟩, by simp only [ofBytes, List.map_nil, List.flatten_nil, EncL]⟩ <;> simp [Builtin.firstCells, ofBytes] <;> rfl
  ·have h1 : sz = 1 := by
    cases s with
    | nil => exact absurd rfl hs0
    | cons b s => have := hs [V.int .u8 b.toNat] (by simp [ofBytes]); simpa using this.symm
   subst h1
   refine ⟨byteCells ⟨s.toArray⟩, ?_, ?_⟩
   ·rw [hlen, ← hsz]
    exact ⟨hu, fun _ => rfl, firstCells_string _ w, firstCells_string _ w.drew, by rw [byteCells_length, Nat.mul_one], fun u hu => by obtain ⟨_, _, rfl⟩ := List.mem_map.1 hu; rfl⟩
   ·have hfl : (ofBytes s).flatten = s.map fun b => V.int .u8 b.toNat := by
     clear hs hlen hsz hs0
     induction s with
     | nil => rfl
     | cons b s ih => simp only [ofBytes, List.map_cons, List.flatten_cons] at ih ⊢; rw [ih]; rfl
    rw [hfl]
    refine encL_of (by simp [byteCells]) fun i c x hc hx => ?_
    simp only [byteCells, List.getElem?_map, Option.map_eq_some_iff] at hc hx
    obtain ⟨b, hb, rfl⟩ := hc
    obtain ⟨b', hb', rfl⟩ := hx
    rw [hb] at hb'; cases hb'
    simp only [Enc]
theorem elems_pure {c : V} {fs : List (List V)} {x : Value} (h : Enc M w c x) (hc : c.elems? = some fs) : ∀ f ∈ fs, ∀ d ∈ f, d.pure = true := by
 cases c <;> simp only [V.elems?, Option.some.injEq, reduceCtorEq] at hc <;> subst hc
 case vs => simp only [Enc] at h; exact h.1
 case str =>
  intro f hf d hd
  obtain ⟨b, _, rfl⟩ := List.mem_map.1 hf
  simp at hd; subst hd; rfl
def appOk (P : Program) (t t' : TypeId) (sz bytes : Nat) : Bool :=
 match elemOf? P t, (elemOf? P t').isSome || isStr P t' with
 | some el, true => match P.info? el with
  | some i => i.size == sz && i.bytes == bytes && decide (0 < sz) && decide (0 < bytes) && (match i.zero with | some z => z.cells.size == sz | none => false)
  | none => false
 | _, _ => false
theorem size_zeroCells' (z : Array Value) (k : Nat) : (Builtin.zeroCells z k).size = k * z.size := by simp [Builtin.zeroCells]
theorem run_append_room_row (w : World) (t tx ty el : TypeId) (i : TypeInfo) (ht : P.underlying t = some (.slice el)) (hi : P.info? el = some i) (b sLen sCap : Nat) (xs : Array Value) (te : TypeId)
  (hh : w.heap[b]? = some (.cells xs te (0, 0))) (x : Value) (k : Nat) (news : List Value) (hs : Src P i.size tx x k news w) (hroom : sLen + k ≤ sCap) (hfit : sLen * i.size + news.length ≤ xs.size) :
  (Builtin.append_ #[t, tx] ty #[.slice (some ⟨b, 0, none⟩) sLen sCap, x]).run P w =
   .ok (.slice (some ⟨b, 0, none⟩) (sLen + k) sCap) (w.setRow b (xs.toList.take (sLen * i.size) ++ news ++ xs.toList.drop (sLen * i.size + news.length)).toArray) := by
 have hst := run_storeCells_at P b (sLen * i.size) te news 0 xs w hh (by simpa using hfit) hs.one
 simp only [Nat.add_zero] at hst
 rcases hs.kind with ⟨e', hk⟩ | hk <;> simp [Builtin.append_, run_underlying ht, run_underlying hk, sizeOf, typeInfo, hi, hs.len, hroom, hs.cells, Addr.add_lit, hst]
theorem app_ok {t t' : TypeId} {x y : Operand} {sx sy : X} {base s sz bytes : Nat} (ho : o.op = .call { callee := .builtin .append, args := #[x, y], argTypes := #[t, t'] })
  (hx : chkX M.fm x sx = true) (hy : chkX M.fm y sy = true) (hok : appOk P t t' sz bytes = true) (ht : RelT M w e a n) (hr : HRel M w H)
  (hv : ev1 base e H (.app s sz bytes sx sy) = some (v, H1)) : OpOk P o a M H w v H1 := by
 have hx' := chkX_enc hx ht
 have hy' := chkX_enc hy ht
 unfold appOk at hok
 split at hok
 case h_2 => cases hok
 rename_i el hel hel'
 have hu := elemOf?_some hel
 have hu' : (∃ el, P.underlying t' = some (.slice el)) ∨ P.underlying t' = some .string := by
  simp only [Bool.or_eq_true] at hel'
  rcases hel' with h | h
  ·obtain ⟨el', h⟩ := Option.isSome_iff_exists.1 h; exact .inl ⟨_, elemOf?_some h⟩
  ·exact .inr (isStr_spec h)
 split at hok
 case h_2 => cases hok
 rename_i i hi
 simp only [Bool.and_eq_true, beq_iff_eq, decide_eq_true_eq] at hok
 obtain ⟨⟨⟨⟨hsz, hby⟩, hpos⟩, hbpos⟩, hz⟩ := hok
 split at hz
 case h_2 => cases hz
 rename_i z hzero
 simp only [beq_iff_eq] at hz
 have hex : ∀ r w', (Builtin.append_ #[t, t'] o.type #[a.eval x, a.eval y]).run P w = .ok r w' → (execOp a.eval o).run P w = .ok (.value r) w' := by
  intro r w' h
  simp only [execOp, ho, resolve, invoke, builtin, Sem.run_bind, Sem.run_pure, Result.andThen_ok, List.map_toArray, List.map_cons, List.map_nil, h]
 simp only [ev1] at hv
 split at hv
 case h_2 => cases hv
 rename_i es tk fs hp hq
 rw [hp] at hx'
 split at hv
 ·rename_i hfs
  cases hv
  subst hfs
  obtain ⟨news, hsrc, hn⟩ := src_of (sz := sz) hu' hy' hq (by simp)
  simp only [List.flatten_nil, EncL] at hn
  subst hn
  have hx2 := hx'
  simp only [Enc] at hx2
  obtain ⟨_, ad, cap, hxe, hle, _⟩ := hx2
  have := run_append_nothing (P := P) w t t' o.type el i hu hi ad es.length cap hle (a.eval y) (by rw [hsz]; exact hsrc)
  rw [← hxe] at this
  exact .plain hr (hex _ _ this) hx'
 rename_i hfs
 split at hv
 case isFalse => cases hv
 rename_i hg
 obtain ⟨hbound, hfl, hes⟩ := hg
 obtain ⟨news, hsrc, hnews⟩ := src_of (sz := sz) hu' hy' hq hfl
 have hnl : news.length = fs.length * sz := by rw [encL_length hnews, flatten_len hfl]
 have hpf := elems_pure hy' hq
 have hx2 := hx'
 simp only [Enc] at hx2
 obtain ⟨hpu, ad, cap, hxe, hle, hrows, htk⟩ := hx2
 have hfpos : 0 < fs.length := List.length_pos_iff.2 hfs
 have hpure : ∀ e ∈ es ++ fs, ∀ c ∈ e, c.pure = true := by
  intro d hd c hc
  simp only [List.mem_append] at hd
  rcases hd with hd | hd
  ·exact hpu d hd c hc
  ·exact hpf d hd c hc
 have hall : ∀ e ∈ es ++ fs, e.length = sz := by
  intro d hd
  simp only [List.mem_append] at hd
  rcases hd with hd | hd
  ·exact hes d hd
  ·exact hfl d hd
 -- the old cells
 have hold : ∃ olds : List Value, EncL M w es.flatten olds ∧ (Builtin.firstCells i.size es.length (.slice ad es.length cap)).run P w.drew = .ok olds.toArray w.drew := by
  cases ad with
  | none =>
   obtain ⟨he0, _⟩ := hrows
   subst he0
   exact ⟨[], by simp only [List.flatten_nil, EncL], by simp [Builtin.firstCells]⟩
  | some ad =>
   obtain ⟨b, off, sp⟩ := ad
   obtain ⟨hsp, _, hrows⟩ := hrows
   by_cases hes0 : es = []
   ·subst hes0
    exact ⟨[], by simp only [List.flatten_nil, EncL], run_firstCells_some w.drew i.size 0 ⟨b, off, sp⟩ 0 cap [] (by simp) (fun j u hu => by simp at hu)⟩
   have hsp := hsp.resolve_left hes0
   simp only at hsp hrows
   subst hsp
   obtain ⟨xs, h1, h2⟩ := encRows_vals hrows
   refine ⟨xs, h1, ?_⟩
   exact run_firstCells_some w.drew i.size es.length ⟨b, off, none⟩ es.length cap xs (by rw [encL_length h1, flatten_len hes, hsz]) (fun j u hu => by
    rw [Addr.add_mid]
    exact h2 j u hu)
 obtain ⟨olds, holdE, holdR⟩ := hold
 have hol : olds.length = es.length * sz := by rw [encL_length holdE, flatten_len hes]
 -- what a new array comes to
 have grown : ∀ id, (isFree H id = true ∨ ∃ k, H[id]? = some (some (.zone k))) → (M.al id = true → (M.z id).n < es.length + fs.length) → cap < es.length + fs.length →
   (execOp a.eval o).run P w = .ok (.value (.slice (some ⟨w.heap.size, 0, none⟩) (es.length + fs.length) (grownCap w (es.length + fs.length) cap el)))
    (w.drew.alloc (.cells ((olds ++ news).toArray ++ Builtin.zeroCells z.cells (grownCap w (es.length + fs.length) cap el - (es.length + fs.length))) el)) →
   OpOk P o a M H w (.vs (es ++ fs) (.own id)) (H.set id (some (.zone (es.length + fs.length)))) := by
  intro id hid hlt _ hrun
  have hge := grownCap_ge w (es.length + fs.length) cap el
  generalize hC : grownCap w (es.length + fs.length) cap el = C at hge hrun
  have hnewc : (w.drew.alloc (.cells ((olds ++ news).toArray ++ Builtin.zeroCells z.cells (C - (es.length + fs.length))) el)).heap[w.heap.size]? =
    some (.cells ((olds ++ news).toArray ++ Builtin.zeroCells z.cells (C - (es.length + fs.length))) el (0, 0)) := heap_alloc_new w.drew _
  have g := (Grew.drew w).trans (Grew.alloc w.drew (.cells ((olds ++ news).toArray ++ Builtin.zeroCells z.cells (C - (es.length + fs.length))) el))
  obtain ⟨st, ii, r⟩ := stp_zone (w' := w.drew.alloc (.cells ((olds ++ news).toArray ++ Builtin.zeroCells z.cells (C - (es.length + fs.length))) el)) (z := ⟨es.length + fs.length, some w.heap.size, C, sz⟩) hr hid g.os g.tape g.output g.size
   (fun b hb _ => g.block b hb)
   (fun b l k hb _ _ => g.cell (hr.owned_lt ⟨id, hb⟩))
   (fun b hb => by simp only [Option.some.injEq] at hb; omega)
   (fun b l hb hb2 _ => by simp only [Option.some.injEq] at hb2; have := hr.owned_lt ⟨id, hb⟩; omega)
   (fun ha => ⟨by have := hlt ha; simp only; omega, fun h => by have := hlt ha; simp only at h; omega⟩)
   (by
    refine ⟨by simp only; omega, hge, hpos, _, _, hnewc, ?_⟩
    simp only [Array.size_append, List.size_toArray, List.length_append, size_zeroCells', hz, hol, hnl, ← Nat.add_mul]
    congr 1
    omega)
  refine ⟨_, _, _, hrun, ?_, st, ii, r⟩
  simp only [Enc]
  refine ⟨hpure, some ⟨w.heap.size, 0, none⟩, C, by simp, by simpa using hge, ⟨.inr rfl, ⟨sz, hall⟩, ?_⟩, ?_⟩
  ·have he1 := EncL.step st hr ii (encL_append holdE hnews)
   rw [← List.flatten_append] at he1
   refine encL_rows he1 ?_ ?_
   ·intro j u hu
    have hj : j < (olds ++ news).length := (List.getElem?_eq_some_iff.1 hu).1
    rw [cell_of_row _ w.heap.size (0 + j) _ el (0, 0) hnewc]
    rw [Nat.zero_add, Array.getElem?_append]
    rw [if_pos (by simpa using hj)]
    simpa using hu
   ·intro j hj l hl
    simp only [Mm.zon, if_true, Option.some.injEq] at hl
    subst hl
    simp only [List.length_append, hol, hnl, ← Nat.add_mul] at hj
    simp only [Nat.zero_add]
    exact hj
  ·simp only [TkOk, Mm.zon, decide_true, Bool.true_or, if_true, true_and, List.length_append]
   exact ⟨Nat.le_refl _, fun _ => hall⟩
 have hgrow : cap < es.length + fs.length → Builtin.nextslicecap (es.length + fs.length) cap * i.bytes ≤ 281474976710656 →
   (execOp a.eval o).run P w = .ok (.value (.slice (some ⟨w.heap.size, 0, none⟩) (es.length + fs.length) (grownCap w (es.length + fs.length) cap el)))
    (w.drew.alloc (.cells ((olds ++ news).toArray ++ Builtin.zeroCells z.cells (grownCap w (es.length + fs.length) cap el - (es.length + fs.length))) el)) := by
  intro hc hfit
  refine hex _ _ ?_
  have := run_append_grow_src (P := P) w t t' o.type el i z hu hi hzero ad es.length cap olds holdR (a.eval y) fs.length news (by rw [hsz]; exact hsrc) hc (by
   have := Nat.le_mul_of_pos_right (es.length + fs.length) hbpos
   omega) hfit
  rw [← hxe] at this
  exact this
 have hfit : cap < es.length + fs.length → Builtin.nextslicecap (es.length + fs.length) cap * i.bytes ≤ 281474976710656 := fun h => growslice_fits h (by rw [hby]; exact hbound)
 cases tk with
 | no => cases hv
 | full =>
  simp only at hv
  split at hv
  case isFalse => cases hv
  rename_i hf
  cases hv
  simp only [TkOk] at htk
  have hc : cap < es.length + fs.length := by omega
  exact grown _ (.inl hf) (fun ha => by rw [free_al hr hf] at ha; cases ha) hc (hgrow hc (hfit hc))
 | own q =>
  simp only at hv
  split at hv
  case h_2 => cases hv
  rename_i k hq
  split at hv
  case isFalse => cases hv
  rename_i hk
  cases hv
  subst hk
  simp only [TkOk] at htk
  obtain ⟨hal, _, htk⟩ := htk
  have hb := hr.rel q _ hq
  simp only [BRel] at hb
  obtain ⟨hzn, hb⟩ := hb
  obtain ⟨hcap, htk⟩ := htk hzn.symm
  cases hbk : (M.z q).blk with
  | none =>
   simp only [hbk] at hb htk
   have hc : cap < es.length + fs.length := by omega
   exact grown q (.inr ⟨_, hq⟩) (fun _ => by omega) hc (hgrow hc (hfit hc))
  | some b =>
   simp only [hbk] at hb htk
   obtain ⟨hn0, hn1, hn2, hlim, xs, te, hh, hxs⟩ := hb
   obtain ⟨rfl, hzs⟩ := htk
   by_cases hroom : es.length + fs.length ≤ cap
   ·-- in place
    have hzsz : (M.z q).sz = sz := by
     cases hee : es with
     | nil => rw [hee] at hn0; simp at hn0
     | cons e0 es0 => rw [← hzs e0 (by simp [hee]), hes e0 (by simp [hee])]
    have hroom' : es.length * sz + fs.length * sz ≤ (M.z q).cap * sz := by rw [← Nat.add_mul]; exact Nat.mul_le_mul_right _ (by omega)
    rw [hzsz] at hxs hlim
    have hrun := run_append_room_row (P := P) w t t' o.type el i hu hi b es.length cap xs te hh (a.eval y) fs.length news (by rw [hsz]; exact hsrc) hroom (by rw [hsz, hnl, hxs]; exact hroom')
    rw [← hxe] at hrun
    rw [hsz] at hrun
    have hnewh := setRow_heap w b xs (xs.toList.take (es.length * sz) ++ news ++ xs.toList.drop (es.length * sz + news.length)).toArray te (0, 0) hh
    generalize hY : (xs.toList.take (es.length * sz) ++ news ++ xs.toList.drop (es.length * sz + news.length)).toArray = ys at hrun hnewh
    have hyget : ∀ j, j < es.length * sz → ys[j]? = xs[j]? := by
     intro j hj
     rw [← hY]
     simp only [List.getElem?_toArray, List.append_assoc]
     rw [List.getElem?_append_left (by simp; omega), List.getElem?_take, if_pos hj]
     simp
    have hblo : blOf M H q = some b := by simp [blOf, hq, hbk]
    have hoth : ∀ k, k ≠ b → (w.setRow b ys).heap[k]? = w.heap[k]? := fun k hk => setRow_other w b k ys (fun e => hk e)
    have hcellb : ∀ j, j < es.length * sz → (w.setRow b ys).cell? ⟨b, j, none⟩ = w.cell? ⟨b, j, none⟩ := by
     intro j hj
     rw [cell_of_row _ b j _ te (0, 0) hnewh, cell_of_row _ b j _ te (0, 0) hh, hyget j hj]
    obtain ⟨st, ii, r⟩ := stp_zone (w' := w.setRow b ys) (z := ⟨es.length + fs.length, some b, cap, sz⟩) hr (.inr ⟨_, hq⟩) rfl rfl rfl (by simp [World.setRow])
     (fun k _ hne => hoth k (fun e => hne (by rw [hblo, e])))
     (fun k l j hk hl hj => by
      rw [hblo] at hk; cases hk
      rw [hlim] at hl; cases hl
      exact hcellb j hj)
     (fun k hk => by simp only [Option.some.injEq] at hk; subst hk; exact .inr hblo)
     (fun k l hk _ hl => by
      rw [hblo] at hk; cases hk
      rw [hlim] at hl; cases hl
      exact Nat.mul_le_mul_right _ (by simp only; omega))
     (fun _ => ⟨by simp only; omega, fun h => by simp only at h; omega⟩)
     ⟨by simp only; omega, hroom, hpos, ys, te, hnewh, by
      have hx3 : xs.toList.length = cap * sz := by rw [Array.length_toList, hxs, hcap]
      rw [← hcap] at hroom'
      rw [← hY]
      simp only [List.size_toArray, List.length_append, List.length_take, List.length_drop, hx3, hnl]
      rw [Nat.min_eq_left (by omega)]
      omega⟩
    refine ⟨_, _, _, hex _ _ hrun, ?_, st, ii, r⟩
    simp only [Enc]
    refine ⟨hpure, some ⟨b, 0, none⟩, cap, by simp, by simpa using hroom, ⟨.inr rfl, ⟨sz, hall⟩, ?_⟩, ?_⟩
    ·rw [encRows_append]
     refine ⟨?_, ?_⟩
     ·have := hrows.2.2
      exact EncRows.step st hr ii this
     ·rw [flatten_len hes]
      refine encL_rows (EncL.step st hr ii hnews) ?_ ?_
      ·intro j u hu
       have hj : j < news.length := (List.getElem?_eq_some_iff.1 hu).1
       rw [cell_of_row _ b _ _ te (0, 0) hnewh, ← hY]
       simp only [List.getElem?_toArray, Nat.zero_add]
       have hlt : (xs.toList.take (es.length * sz)).length = es.length * sz := by
        have hx3 : xs.toList.length = (M.z q).cap * sz := by rw [Array.length_toList, hxs]
        rw [List.length_take, hx3]
        exact Nat.min_eq_left (by omega)
       rw [List.append_assoc, List.getElem?_append_right (by rw [hlt]; omega), hlt, Nat.add_sub_cancel_left, List.getElem?_append_left hj]
       exact hu
      ·intro j hj l hl
       simp only [Mm.zon, if_true, Option.some.injEq] at hl
       subst hl
       rw [hnl] at hj
       simp only [Nat.add_mul, Nat.zero_add]
       omega
    ·simp only [TkOk, Mm.zon, decide_true, Bool.true_or, if_true, true_and, List.length_append]
     exact ⟨Nat.le_refl _, fun _ => hall⟩
   ·have hc : cap < es.length + fs.length := by omega
    exact grown q (.inr ⟨_, hq⟩) (fun _ => by omega) hc (hgrow hc (hfit hc))
end Go.Ev
/- A slice that grows by appends, and may be written behind the last. -/
namespace Go.Ev
open Go Go.RowKit
variable {P : Program} {M M' : Mm} {H H1 : Heap} {w w' : World} {e : Env} {a : Act} {n : Nat} {o : Oper} {v : V}
def Mm.move (M : Mm) (id k : Nat) : Mm :=
 { M with al := fun i => decide (i = k) || M.al i, j := fun i => if i = k then M.j id else M.j i, z := fun i => if i = id then ⟨1, none, 1, 0⟩ else if i = k then M.z id else M.z i }
theorem stp_move (hr : HRel M w H) {id k : Nat} {cs : List V} {sz : Nat} {fu : Bool} {blk : Blk} (hb : H[id]? = some (some (.grow cs sz fu))) (hf : isFree H k = true) (hnz : blk.isZone = false)
  (hB : Stp M H w (M.move id k) ((H.set id (some (.zone 1))).set k (some blk)) w → Ids M (M.move id k) H.length → BRel (M.move id k) w k blk) :
  Stp M H w (M.move id k) ((H.set id (some (.zone 1))).set k (some blk)) w ∧ Ids M (M.move id k) H.length ∧ HRel (M.move id k) w ((H.set id (some (.zone 1))).set k (some blk)) := by
 have hak := free_al hr hf
 have hlk := free_lt hf
 have hlt : id < H.length := (List.getElem?_eq_some_iff.1 hb).1
 have ha : M.al id = true := (hr.dom id).2 ⟨_, hb⟩
 have hne : k ≠ id := fun e => by subst e; rw [ha] at hak; cases hak
 have h0 := hr.rel id _ hb
 simp only [BRel] at h0
 have hblo : blOf M H id = some (M.j id) := by simp [blOf, hb]
 have gk : ((H.set id (some (Blk.zone 1))).set k (some blk))[k]? = some (some blk) := List.getElem?_set_self (by simpa using hlk)
 have gid : ((H.set id (some (Blk.zone 1))).set k (some blk))[id]? = some (some (.zone 1)) := by rw [getElem?_set_ne (Ne.symm hne)]; exact List.getElem?_set_self hlt
 have go : ∀ i, i ≠ k → i ≠ id → ((H.set id (some (Blk.zone 1))).set k (some blk))[i]? = H[i]? := fun i h1 h2 => by rw [getElem?_set_ne h1, getElem?_set_ne h2]
 have bk : blOf (M.move id k) ((H.set id (some (.zone 1))).set k (some blk)) k = some (M.j id) := by
  unfold blOf; rw [gk]
  cases blk <;> first | (simp [Blk.isZone] at hnz; done) | simp [Mm.move]
 have bid : blOf (M.move id k) ((H.set id (some (.zone 1))).set k (some blk)) id = none := by
  unfold blOf; rw [gid]; simp [Mm.move]
 have bo : ∀ i, i ≠ k → i ≠ id → blOf (M.move id k) ((H.set id (some (.zone 1))).set k (some blk)) i = blOf M H i := by
  intro i h1 h2
  unfold blOf; rw [go i h1 h2]
  simp only [Mm.move, h1, h2, if_false]
 have hst : Stp M H w (M.move id k) ((H.set id (some (.zone 1))).set k (some blk)) w :=
  { Stp.refl M H w with
   limn := fun _ _ h => h
   lims := fun _ l _ h => ⟨l, h, Nat.le_refl _⟩
   limo := fun _ _ _ => rfl
   own := fun b _ hob => by
    obtain ⟨i, hi⟩ := hob
    by_cases h1 : i = k
    ·subst h1; rw [bk] at hi; exact ⟨id, by rw [hblo]; exact hi⟩
    ·by_cases h2 : i = id
     ·subst h2; rw [bid] at hi; cases hi
     ·rw [bo i h1 h2] at hi; exact ⟨i, hi⟩
   fm := rfl }
 have hid : Ids M (M.move id k) H.length := fun i _ hi => by
  have h1 : i ≠ k := fun e => by subst e; rw [hak] at hi; cases hi
  simp only [Mm.move, hi, Bool.or_true, true_and, if_neg h1]
  split
  ·rename_i h2
   subst h2
   exact ⟨by simp [h0.2.2.1], fun h => by simp [h0.2.2.1] at h⟩
  ·exact Zle.refl _
 refine ⟨hst, hid, ⟨fun i => ?_, fun i b hi => ?_, fun i i' b h1 h2 => ?_, hr.glo.step hst hr hid⟩⟩
 ·by_cases h1 : i = k
  ·subst h1; simp only [Mm.move, decide_true, Bool.true_or, true_iff]; exact ⟨_, gk⟩
  ·simp only [Mm.move, h1, decide_false, Bool.false_or]
   by_cases h2 : i = id
   ·subst h2; rw [ha]; simp only [true_iff]; exact ⟨_, gid⟩
   ·rw [go i h1 h2]; exact hr.dom i
 ·by_cases h1 : i = k
  ·subst h1; rw [gk] at hi; cases hi; exact hB hst hid
  ·by_cases h2 : i = id
   ·subst h2; rw [gid] at hi; cases hi; simp [BRel, Mm.move]
   ·rw [go i h1 h2] at hi
    exact BRel.step hst hr hid hi (fun b _ => ⟨rfl, rfl⟩) (by simp only [Mm.move, h1, h2, if_false])
 ·have key : ∀ i b, blOf (M.move id k) ((H.set id (some (.zone 1))).set k (some blk)) i = some b → (i = k ∧ b = M.j id) ∨ (i ≠ k ∧ i ≠ id ∧ blOf M H i = some b) := by
   intro i b hi
   by_cases h1 : i = k
   ·subst h1; rw [bk] at hi; cases hi; exact .inl ⟨rfl, rfl⟩
   ·by_cases h2 : i = id
    ·subst h2; rw [bid] at hi; cases hi
    ·rw [bo i h1 h2] at hi; exact .inr ⟨h1, h2, hi⟩
  rcases key i b h1 with ⟨p1, p2⟩ | ⟨p1, p2, p3⟩ <;> rcases key i' b h2 with ⟨q1, q2⟩ | ⟨q1, q2, q3⟩
  ·omega
  ·subst p2; exact absurd (hr.inj i' id _ q3 hblo) q2
  ·subst q2; exact absurd (hr.inj i id _ p3 hblo) p2
  ·exact hr.inj i i' b p3 q3
def Mm.setz (M : Mm) (k : Nat) (z : Z) : Mm := { M with z := fun i => if i = k then z else M.z i }
theorem stp_setz (hr : HRel M w H) {k : Nat} (z : Z) (hf : isFree H k = true) : Stp M H w (M.setz k z) H w ∧ Ids M (M.setz k z) H.length ∧ HRel (M.setz k z) w H := by
 have hak := free_al hr hf
 have bo : ∀ i, blOf (M.setz k z) H i = blOf M H i := by
  intro i
  by_cases h : i = k
  ·subst h; unfold blOf; rw [isFree_iff.1 hf]
  ·unfold blOf; simp only [Mm.setz, h, if_false]
 have hst : Stp M H w (M.setz k z) H w :=
  { Stp.refl M H w with
   limn := fun _ _ h => h
   lims := fun _ l _ h => ⟨l, h, Nat.le_refl _⟩
   limo := fun _ _ _ => rfl
   own := fun b _ hob => by obtain ⟨i, hi⟩ := hob; rw [bo] at hi; exact ⟨i, hi⟩
   fm := rfl }
 have hid : Ids M (M.setz k z) H.length := fun i _ hi => by
  have h1 : i ≠ k := fun e => by subst e; rw [hak] at hi; cases hi
  simp only [Mm.setz, if_neg h1]
  exact ⟨hi, trivial, Zle.refl _⟩
 refine ⟨hst, hid, ⟨hr.dom, fun i b hi => ?_, fun i i' b h1 h2 => ?_, hr.glo.step hst hr hid⟩⟩
 ·have h1 : i ≠ k := fun e => by subst e; rw [isFree_iff.1 hf] at hi; cases hi
  exact BRel.step hst hr hid hi (fun b _ => ⟨rfl, rfl⟩) (by simp only [Mm.setz, h1, if_false])
 ·rw [bo] at h1 h2; exact hr.inj i i' b h1 h2
def Mm.kill (M : Mm) (id : Nat) : Mm := { M with z := fun i => if i = id then ⟨1, none, 1, 0⟩ else M.z i }
theorem stp_kill (hr : HRel M w H) {id : Nat} {cs : List V} {sz : Nat} {fu : Bool} (hb : H[id]? = some (some (.grow cs sz fu))) :
  Stp M H w (M.kill id) (H.set id (some (.zone 1))) w ∧ Ids M (M.kill id) H.length ∧ HRel (M.kill id) w (H.set id (some (.zone 1))) := by
 have hlt : id < H.length := (List.getElem?_eq_some_iff.1 hb).1
 have ha : M.al id = true := (hr.dom id).2 ⟨_, hb⟩
 have h0 := hr.rel id _ hb
 simp only [BRel] at h0
 have gid : (H.set id (some (Blk.zone 1)))[id]? = some (some (.zone 1)) := List.getElem?_set_self hlt
 have bid : blOf (M.kill id) (H.set id (some (.zone 1))) id = none := by unfold blOf; rw [gid]; simp [Mm.kill]
 have bo : ∀ i, i ≠ id → blOf (M.kill id) (H.set id (some (.zone 1))) i = blOf M H i := by
  intro i h; unfold blOf; rw [getElem?_set_ne h]; simp only [Mm.kill, h, if_false]
 have key : ∀ i b, blOf (M.kill id) (H.set id (some (.zone 1))) i = some b → i ≠ id ∧ blOf M H i = some b := by
  intro i b hi
  by_cases h : i = id
  ·subst h; rw [bid] at hi; cases hi
  ·rw [bo i h] at hi; exact ⟨h, hi⟩
 have hst : Stp M H w (M.kill id) (H.set id (some (.zone 1))) w :=
  { Stp.refl M H w with
   limn := fun _ _ h => h
   lims := fun _ l _ h => ⟨l, h, Nat.le_refl _⟩
   limo := fun _ _ _ => rfl
   own := fun b _ hob => by obtain ⟨i, hi⟩ := hob; exact ⟨i, (key i b hi).2⟩
   fm := rfl }
 have hid : Ids M (M.kill id) H.length := fun i _ hi => by
  refine ⟨hi, rfl, ?_⟩
  simp only [Mm.kill]
  split
  ·rename_i h2
   subst h2
   exact ⟨by simp [h0.2.2.1], fun h => by simp [h0.2.2.1] at h⟩
  ·exact Zle.refl _
 refine ⟨hst, hid, ⟨fun i => ?_, fun i b hi => ?_, fun i i' b h1 h2 => ?_, hr.glo.step hst hr hid⟩⟩
 ·by_cases h2 : i = id
  ·subst h2; simp only [Mm.kill, ha, true_iff]; exact ⟨_, gid⟩
  ·rw [getElem?_set_ne h2]; exact hr.dom i
 ·by_cases h2 : i = id
  ·subst h2; rw [gid] at hi; cases hi; simp [BRel, Mm.kill]
  ·rw [getElem?_set_ne h2] at hi
   exact BRel.step hst hr hid hi (fun b _ => ⟨rfl, rfl⟩) (by simp only [Mm.kill, h2, if_false])
 ·exact hr.inj i i' b (key i b h1).2 (key i' b h2).2
theorem flat_pure {fs : List (List V)} (h : ∀ f ∈ fs, ∀ d ∈ f, d.pure = true) : ∀ c ∈ fs.flatten, c.scal = true := fun c hc => by
 obtain ⟨f, hf, hc⟩ := List.mem_flatten.1 hc
 exact V.scal_of_pure (h f hf c hc)
theorem growR_enc {last : Bool} {k b N sz cap : Nat} (ha : M.al k = true) (hj : M.j k = b) (hN : N ≤ cap) (hz : (M.z k).n = 0 → cap = (M.z k).cap) :
  Enc M w (growR last k N sz) (.slice (some ⟨b, 0, none⟩) N cap) := by
 subst hj
 cases last
 ·simp only [growR, Bool.false_eq_true, if_false, Enc]; exact ⟨ha, cap, rfl, hN, hz⟩
 ·simp only [growR, if_true, Enc]; exact ⟨ha, cap, rfl, hN⟩
theorem growB_rel {last : Bool} {k sz : Nat} {cs : List V} {xs : Array Value} {te : TypeId} (hs : ∀ c ∈ cs, c.scal = true) (hl : M.lim (M.j k) = some 0) (h0 : (M.z k).n = 0) (h1 : (M.z k).sz = sz)
  (hx : w.heap[M.j k]? = some (.cells xs te (0, 0))) (hsz : xs.size = (M.z k).cap * sz) (he : EncL M w cs (xs.toList.take cs.length)) : BRel M w k (growB last cs sz) := by
 cases last
 ·simp only [growB, Bool.false_eq_true, if_false, BRel]; exact ⟨hs, hl, h0, h1, xs, te, hx, hsz, he, fun h => by cases h⟩
 ·simp only [growB, if_true, BRel]; exact ⟨hs, hl, xs, te, hx, he⟩
theorem growB_zone (last : Bool) (cs : List V) (sz : Nat) : (growB last cs sz).isZone = false := by cases last <;> rfl
theorem stp_grown (hr : HRel M w H) {k sz C : Nat} (last : Bool) {cs : List V} {xs : Array Value} (el : TypeId) (hf : isFree H k = true) (hs : ∀ c ∈ cs, c.scal = true) (hsz : xs.size = C * sz)
  (he : EncL M w cs (xs.toList.take cs.length)) :
  ∃ M', Stp M H w M' (H.set k (some (growB last cs sz))) (w.drew.alloc (.cells xs el)) ∧ Ids M M' H.length ∧ HRel M' (w.drew.alloc (.cells xs el)) (H.set k (some (growB last cs sz))) ∧
   M'.al k = true ∧ M'.j k = w.heap.size ∧ M'.z k = ⟨0, none, C, sz⟩ := by
 obtain ⟨s1, i1, r1⟩ := stp_same (M' := M) hr (Grew.drew w) (Same.refl _ _)
 obtain ⟨s2, i2, r2⟩ := stp_setz r1 ⟨0, none, C, sz⟩ hf
 obtain ⟨s3, i3, r3⟩ := stp_alcG (ob := .cells xs el) (blk0 := growB last cs sz) r2 hf (growB_zone _ _ _) fun hst hid => by
  refine growB_rel hs ?_ ?_ ?_ (xs := xs) (te := el) ?_ ?_ (EncL.step hst r2 hid (EncL.step s2 r1 i2 (EncL.step s1 hr i1 he)))
  ·simp [Mm.alc]
  ·simp [Mm.alc, Mm.setz]
  ·simp [Mm.alc, Mm.setz]
  ·simp only [Mm.alc, if_true]; exact heap_alloc_new w.drew _
  ·simp [Mm.alc, Mm.setz, hsz]
 exact ⟨_, (s1.trans s2).trans s3, (i1.trans i2 (Nat.le_refl _)).trans i3 (Nat.le_refl _), r3, by simp [Mm.alc], by simp [Mm.alc], by simp [Mm.alc, Mm.setz]⟩
theorem appG_ok {t t' : TypeId} {x y : Operand} {sx sy : X} {base s sz bytes : Nat} {last : Bool} (ho : o.op = .call { callee := .builtin .append, args := #[x, y], argTypes := #[t, t'] })
  (hx : chkX M.fm x sx = true) (hy : chkX M.fm y sy = true) (hok : appOk P t t' sz bytes = true) (ht : RelT M w e a n) (hr : HRel M w H)
  (hv : ev1 base e H (.appG last s sz bytes sx sy) = some (v, H1)) : OpOk P o a M H w v H1 := by
 have hx' := chkX_enc hx ht
 have hy' := chkX_enc hy ht
 unfold appOk at hok
 split at hok
 case h_2 => cases hok
 rename_i el hel hel'
 have hu := elemOf?_some hel
 have hu' : (∃ el, P.underlying t' = some (.slice el)) ∨ P.underlying t' = some .string := by
  simp only [Bool.or_eq_true] at hel'
  rcases hel' with h | h
  ·obtain ⟨el', h⟩ := Option.isSome_iff_exists.1 h; exact .inl ⟨_, elemOf?_some h⟩
  ·exact .inr (isStr_spec h)
 split at hok
 case h_2 => cases hok
 rename_i i hi
 simp only [Bool.and_eq_true, beq_iff_eq, decide_eq_true_eq] at hok
 obtain ⟨⟨⟨⟨hsz, hby⟩, hpos⟩, hbpos⟩, hz⟩ := hok
 split at hz
 case h_2 => cases hz
 rename_i z hzero
 simp only [beq_iff_eq] at hz
 have hex : ∀ r w', (Builtin.append_ #[t, t'] o.type #[a.eval x, a.eval y]).run P w = .ok r w' → (execOp a.eval o).run P w = .ok (.value r) w' := by
  intro r w' h
  simp only [execOp, ho, resolve, invoke, builtin, Sem.run_bind, Sem.run_pure, Result.andThen_ok, List.map_toArray, List.map_cons, List.map_nil, h]
 -- what a new array comes to
 have grow : ∀ (k0 : Nat) (ad : Option Addr) (cap : Nat) (olds : List Value) (fs : List (List V)) (news : List Value),
   a.eval x = .slice ad k0 cap → (Builtin.firstCells i.size k0 (.slice ad k0 cap)).run P w.drew = .ok olds.toArray w.drew →
   Src P sz t' (a.eval y) fs.length news w → cap < k0 + fs.length → (k0 + fs.length) * bytes ≤ 140737488355328 →
   (execOp a.eval o).run P w = .ok (.value (.slice (some ⟨w.heap.size, 0, none⟩) (k0 + fs.length) (grownCap w (k0 + fs.length) cap el)))
    (w.drew.alloc (.cells ((olds ++ news).toArray ++ Builtin.zeroCells z.cells (grownCap w (k0 + fs.length) cap el - (k0 + fs.length))) el)) := by
  intro k0 ad cap olds fs news hxe hold hsrc hc hb
  refine hex _ _ ?_
  have := run_append_grow_src (P := P) w t t' o.type el i z hu hi hzero ad k0 cap olds hold (a.eval y) fs.length news (by rw [hsz]; exact hsrc) hc (by
   have := Nat.le_mul_of_pos_right (k0 + fs.length) hbpos
   omega) (growslice_fits hc (by rw [hby]; exact hb))
  rw [← hxe] at this
  exact this
 simp only [ev1, appGV] at hv
 split at hv
 case h_3 => cases hv
 ·rename_i es tk fs hp hq
  rw [hp] at hx'
  split at hv
  ·rename_i hc
   obtain ⟨rfl, rfl, rfl, rfl⟩ := hc
   cases hv
   obtain ⟨news, hsrc, hn⟩ := src_of (sz := sz) hu' hy' hq (by simp)
   simp only [List.flatten_nil, EncL] at hn
   subst hn
   have hx2 := hx'
   simp only [Enc] at hx2
   obtain ⟨_, ad, cap, hxe, hle, _⟩ := hx2
   have := run_append_nothing (P := P) w t t' o.type el i hu hi ad ([] : List (List V)).length cap hle (a.eval y) (by rw [hsz]; exact hsrc)
   rw [← hxe] at this
   exact .plain hr (hex _ _ this) hx'
  ·split at hv
   case isFalse => cases hv
   rename_i hc
   obtain ⟨rfl, rfl, hfs, hfree, hbound, hfl⟩ := hc
   cases hv
   obtain ⟨news, hsrc, hnews⟩ := src_of (sz := sz) hu' hy' hq hfl
   have hnl : news.length = fs.length * sz := by rw [encL_length hnews, flatten_len hfl]
   have hpf := elems_pure hy' hq
   simp only [Enc] at hx'
   obtain ⟨_, ad, cap, hxe, hle, hrows, htk⟩ := hx'
   simp only [TkOk, List.length_nil] at htk hxe
   subst htk
   have hfpos : 0 < fs.length := List.length_pos_iff.2 hfs
   have hold : (Builtin.firstCells i.size 0 (.slice ad 0 0)).run P w.drew = .ok ([] : List Value).toArray w.drew := by
    cases ad with
    | none => simp [Builtin.firstCells]
    | some ad => exact run_firstCells_some w.drew i.size 0 ad 0 0 [] (by simp) (fun j u hu => by simp at hu)
   have hrun := grow 0 ad 0 [] fs news hxe hold hsrc (by omega) (by rw [Nat.zero_add]; exact hbound)
   have hge := grownCap_ge w (0 + fs.length) 0 el
   generalize grownCap w (0 + fs.length) 0 el = C at hrun hge
   simp only [List.nil_append, Nat.zero_add] at hrun hge
   have hfl2 : fs.flatten.length = news.length := (encL_length hnews).symm
   obtain ⟨M', st, ii, r, h1, h2, h3⟩ := stp_grown (xs := news.toArray ++ Builtin.zeroCells z.cells (C - fs.length)) (C := C) (sz := sz) hr last el hfree (flat_pure hpf) (by
     simp only [Array.size_append, List.size_toArray, size_zeroCells', hz, hnl, ← Nat.add_mul]; congr 1; omega) (by
     rw [Array.toList_append, List.toList_toArray, hfl2, List.take_left' rfl]; exact hnews)
   exact ⟨_, _, M', hrun, growR_enc h1 h2 hge (fun _ => by rw [h3]), st, ii, r⟩
 ·rename_i id k0 fs hp hq
  rw [hp] at hx'
  split at hv
  case h_2 => cases hv
  rename_i cs sz' fu hb
  split at hv
  case isFalse => cases hv
  rename_i hc
  obtain ⟨rfl, hcl, hfree, hbound, hfl⟩ := hc
  cases hv
  obtain ⟨news, hsrc, hnews⟩ := src_of (sz := sz') hu' hy' hq hfl
  have hnl : news.length = fs.length * sz' := by rw [encL_length hnews, flatten_len hfl]
  have hpf := elems_pure hy' hq
  have hfl2 : fs.flatten.length = news.length := (encL_length hnews).symm
  simp only [Enc] at hx'
  obtain ⟨hal, cap, hxe, hle, hzc⟩ := hx'
  have hb' := hr.rel id _ hb
  simp only [BRel] at hb'
  obtain ⟨hs, hl0, hz0, hzs, xs, te, hh, hxs, hE, hful⟩ := hb'
  have hcap := hzc hz0
  have hxl : cs.length ≤ xs.toList.length := by have := encL_length hE; rw [List.length_take] at this; omega
  have hsa : ∀ c ∈ cs ++ fs.flatten, c.scal = true := fun c hc => by
   rcases List.mem_append.1 hc with h | h
   ·exact hs c h
   ·exact flat_pure hpf c h
  have hlt : id < H.length := (List.getElem?_eq_some_iff.1 hb).1
  have hak := free_al hr hfree
  have hne : base + s ≠ id := fun e => by rw [e, hal] at hak; cases hak
  by_cases hroom : k0 + fs.length ≤ cap
  ·-- in place, or nothing to append
   have hmul : k0 * sz' + fs.length * sz' ≤ cap * sz' := by rw [← Nat.add_mul]; exact Nat.mul_le_mul_right _ hroom
   have hxs' : xs.toList.length = cap * sz' := by rw [Array.length_toList, hxs, hcap]
   -- the block with what is new
   have hstep : ∃ M1 w1, (execOp a.eval o).run P w = .ok (.value (.slice (some ⟨M.j id, 0, none⟩) (k0 + fs.length) cap)) w1 ∧ Stp M H w M1 (H.set id (some (.grow (cs ++ fs.flatten) sz' (fu && fs.isEmpty)))) w1 ∧ Ids M M1 H.length ∧
     HRel M1 w1 (H.set id (some (.grow (cs ++ fs.flatten) sz' (fu && fs.isEmpty)))) ∧ M1.j id = M.j id ∧ M1.z id = M.z id := by
    by_cases hf0 : fs = []
    ·subst hf0
     simp only [List.length_nil, Nat.zero_mul] at hnl
     have hn0 : news = [] := List.eq_nil_of_length_eq_zero hnl
     subst hn0
     have := run_append_nothing (P := P) w t t' o.type el i hu hi (some ⟨M.j id, 0, none⟩) k0 cap hle (a.eval y) (by rw [hsz]; exact hsrc)
     rw [← hxe] at this
     have hself : H.set id (some (.grow (cs ++ ([] : List (List V)).flatten) sz' (fu && ([] : List (List V)).isEmpty))) = H := by
      simp only [List.flatten_nil, List.append_nil, List.isEmpty_nil, Bool.and_true]
      obtain ⟨h1, h2⟩ := List.getElem?_eq_some_iff.1 hb
      rw [← h2]; exact List.set_getElem_self h1
     rw [hself]
     exact ⟨M, w, by have h3 := hex _ _ this; rw [hxe] at h3; exact h3, Stp.refl _ _ _, Ids.refl _ _, hr, rfl, rfl⟩
    ·have hrun := run_append_room_row (P := P) w t t' o.type el i hu hi (M.j id) k0 cap xs te hh (a.eval y) fs.length news (by rw [hsz]; exact hsrc) hroom (by rw [hsz, hnl]; rw [← Array.length_toList, hxs']; exact hmul)
     rw [← hxe, hsz] at hrun
     have hnewh := setRow_heap w (M.j id) xs (xs.toList.take (k0 * sz') ++ news ++ xs.toList.drop (k0 * sz' + news.length)).toArray te (0, 0) hh
     generalize hY : (xs.toList.take (k0 * sz') ++ news ++ xs.toList.drop (k0 * sz' + news.length)).toArray = ys at hrun hnewh
     have hoth : ∀ k, k ≠ M.j id → (w.setRow (M.j id) ys).heap[k]? = w.heap[k]? := fun k hk => setRow_other w (M.j id) k ys (fun e => hk e)
     obtain ⟨s1, i1, r1⟩ := stp_put (blk1 := .grow (cs ++ fs.flatten) sz' (fu && fs.isEmpty)) (w' := w.setRow (M.j id) ys) hr hb rfl rfl hl0 0 rfl rfl rfl (by simp [World.setRow]) hoth fun hst hid => by
      simp only [BRel]
      refine ⟨hsa, by simp [Mm.limit], hz0, hzs, ys, te, hnewh, ?_, ?_, fun h => by
       rw [Bool.and_eq_true, List.isEmpty_iff] at h
       exact absurd h.2 hf0⟩
      ·show ys.size = (M.z id).cap * sz'
       rw [← hcap, ← hY]
       simp only [List.size_toArray, List.length_append, List.length_take, List.length_drop, hxs', hnl]
       omega
      ·have hyt : ys.toList.take (cs ++ fs.flatten).length = xs.toList.take (k0 * sz') ++ news := by
        rw [← hY, List.toList_toArray]
        refine List.take_left' ?_
        simp only [List.length_append, List.length_take, hfl2, hcl]; omega
       rw [hyt]
       rw [hcl] at hE
       exact encL_append (EncL.step hst hr hid hE) (EncL.step hst hr hid hnews)
     exact ⟨_, _, hex _ _ hrun, s1, i1, r1, rfl, rfl⟩
   obtain ⟨M1, w1, hrun, s1, i1, r1, hj1, hz1⟩ := hstep
   have hb1 : (H.set id (some (Blk.grow (cs ++ fs.flatten) sz' (fu && fs.isEmpty))))[id]? = some (some (.grow (cs ++ fs.flatten) sz' (fu && fs.isEmpty))) := List.getElem?_set_self hlt
   have hf1 : isFree (H.set id (some (Blk.grow (cs ++ fs.flatten) sz' (fu && fs.isEmpty)))) (base + s) = true := by
    rw [isFree_iff] at hfree ⊢; rw [getElem?_set_ne hne]; exact hfree
   have hb1' := r1.rel id _ hb1
   simp only [BRel] at hb1'
   obtain ⟨_, hl1, hz10, hz1s, xs1, te1, hh1, hxs1, hE1, _⟩ := hb1'
   obtain ⟨s2, i2, r2⟩ := stp_move (blk := growB last (cs ++ fs.flatten) sz') r1 hb1 hf1 (growB_zone _ _ _) fun hst hid => by
    have e1 : (M1.move id (base + s)).j (base + s) = M1.j id := by simp [Mm.move]
    have e2 : (M1.move id (base + s)).z (base + s) = M1.z id := by simp [Mm.move, hne]
    exact growB_rel hsa (by rw [e1]; exact hl1) (by rw [e2]; exact hz10) (by rw [e2]; exact hz1s) (by rw [e1]; exact hh1) (by rw [e2]; exact hxs1) (EncL.step hst r1 hid hE1)
   rw [List.set_set] at s2 r2
   refine ⟨_, _, _, hrun, growR_enc (by simp [Mm.move]) (by simp [Mm.move, hj1]) hroom (fun _ => ?_), s1.trans s2, i1.trans i2 (by simp), r2⟩
   simp only [Mm.move, hne, if_false, if_true, hz1]
   exact hcap
  ·have hold : (Builtin.firstCells i.size k0 (.slice (some ⟨M.j id, 0, none⟩) k0 cap)).run P w.drew = .ok (xs.toList.take cs.length).toArray w.drew :=
    run_firstCells_some w.drew i.size k0 ⟨M.j id, 0, none⟩ k0 cap (xs.toList.take cs.length) (by rw [encL_length hE, hcl, hsz]) (fun j u hu => by
     rw [Addr.add_mid]
     rw [List.getElem?_take] at hu
     split at hu
     ·show w.cell? _ = _
      rw [cell_of_row w (M.j id) (0 + j) xs te (0, 0) hh]
      simpa using hu
     ·cases hu)
   have hrun := grow k0 (some ⟨M.j id, 0, none⟩) cap _ fs news hxe hold hsrc (by omega) hbound
   have hge := grownCap_ge w (k0 + fs.length) cap el
   generalize grownCap w (k0 + fs.length) cap el = C at hrun hge
   have hol : (xs.toList.take cs.length).length = k0 * sz' := (encL_length hE).trans hcl
   generalize xs.toList.take cs.length = olds at hrun hol hE
   obtain ⟨M', st, ii, r, h1, h2, h3⟩ := stp_grown (xs := (olds ++ news).toArray ++ Builtin.zeroCells z.cells (C - (k0 + fs.length))) (C := C) (sz := sz') hr last el hfree hsa (by
     simp only [Array.size_append, List.size_toArray, List.length_append, size_zeroCells', hz, hnl, hol, hcl, ← Nat.add_mul]; congr 1; omega) (by
     rw [Array.toList_append, List.toList_toArray, List.take_left' (by simp only [List.length_append, hol, hfl2, hcl])]
     exact encL_append hE hnews)
   obtain ⟨s2, i2, r2⟩ := stp_kill (id := id) (cs := cs) (sz := sz') (fu := fu) r (by rw [getElem?_set_ne (Ne.symm hne)]; exact hb)
   rw [List.set_comm _ _ hne] at s2 r2
   refine ⟨_, _, _, hrun, growR_enc (M := M'.kill id) h1 h2 hge (fun _ => ?_), st.trans s2, ii.trans i2 (by simp), r2⟩
   simp only [Mm.kill, hne, if_false, h3]
end Go.Ev
/- Slice expressions, composite literals. -/
namespace Go.Ev
open Go Go.RowKit
variable {P : Program} {M M' : Mm} {H H1 : Heap} {w w' : World}
variable {e : Env} {a : Act} {n : Nat} {o : Oper} {v : V}
theorem intOf?_some {c : V} {k : Int} (h : intOf? c = some k) : ∃ kd, c = .int kd k := by
 cases c <;> simp_all [intOf?]
theorem chkXo_int {oo : Option Operand} {xx : Option X} (h : chkXo M.fm oo xx = true) (ht : RelT M w e a n) : ∀ x, xx = some x → ∀ k, intOf? (x.ev e) = some k → ∃ u kd, oo = some u ∧ a.eval u = .int kd k := by
 intro x hx k hk
 subst hx
 unfold chkXo at h
 split at h
 ·cases ‹some x = none›
 ·rename_i u y hy
  cases hy
  obtain ⟨kd, hc⟩ := intOf?_some hk
  have := chkX_enc h ht
  rw [hc] at this
  simp only [Enc] at this
  exact ⟨u, kd, rfl, this⟩
 ·cases h
theorem chkXo_none {oo : Option Operand} {xx : Option X} (h : chkXo M.fm oo xx = true) (hx : xx = none) : oo = none := by
 subst hx
 unfold chkXo at h
 split at h <;> simp_all
theorem run_bounds {isS : Bool} {len cap l h : Nat} {m : Bool} {lo hi mx : Option Operand} {slo shi smx : Option X} (hlo : chkXo M.fm lo slo = true) (hhi : chkXo M.fm hi shi = true) (hmx : chkXo M.fm mx smx = true)
  (ht : RelT M w e a n) (hb : bounds e len slo shi smx = some (l, h, m)) (hle : len ≤ cap) :
  l ≤ h ∧ h ≤ len ∧ (m = false → (smx = none ∧ (shi = none → h = len))) ∧
  (Instr.sliceBounds isS len cap (lo.map a.eval) (hi.map a.eval) (mx.map a.eval)).run P w = .ok (l, h, if m then h else cap) w := by
 unfold bounds at hb
 simp only at hb
 split at hb
 case h_2 => cases hb
 rename_i l' h' m' hl hh hm
 split at hb
 case isFalse => cases hb
 rename_i hc
 obtain ⟨h1, h2, h3, h4, h5⟩ := hc
 simp only [Option.some.injEq, Prod.mk.injEq] at hb
 obtain ⟨rfl, rfl, rfl⟩ := hb
 have lowR : ∀ (y : Nat) (code : BoundsCode), h'.toNat ≤ y → ∀ u, lo = some u → (Instr.sliceBound (a.eval u) y code).run P w = .ok l'.toNat w := by
  intro y code hy u hu
  cases hs : slo with
  | none => have := chkXo_none hlo hs; rw [this] at hu; cases hu
  | some x =>
   simp only [hs] at hl
   obtain ⟨u', kd, hu', hk⟩ := chkXo_int hlo ht x hs l' hl
   rw [hu] at hu'; cases hu'
   rw [hk]
   exact run_sliceBound (P := P) w kd l' y code h1 (by omega)
 have highR : ∀ (y : Nat) (code : BoundsCode), h'.toNat ≤ y → ∀ u, hi = some u → (Instr.sliceBound (a.eval u) y code).run P w = .ok h'.toNat w := by
  intro y code hy u hu
  cases hs : shi with
  | none => have := chkXo_none hhi hs; rw [this] at hu; cases hu
  | some x =>
   simp only [hs] at hh
   obtain ⟨u', kd, hu', hk⟩ := chkXo_int hhi ht x hs h' hh
   rw [hu] at hu'; cases hu'
   rw [hk]
   exact run_sliceBound (P := P) w kd h' y code (by omega) (by omega)
 refine ⟨by omega, by omega, ?_, ?_⟩
 ·intro hmf
  cases m' with
  | some v => simp at hmf
  | none =>
   cases hs : smx with
   | none => exact ⟨rfl, fun hhn => by simp only [hhn, Option.some.injEq] at hh; omega⟩
   | some x =>
    simp only [hs, Option.map_eq_some_iff] at hm
    obtain ⟨_, _, hm⟩ := hm
    cases hm
 ·cases hmo : mx with
  | some um =>
   -- a third index
   cases hs : smx with
   | none => have := chkXo_none hmx hs; rw [this] at hmo; cases hmo
   | some x =>
    simp only [hs, Option.map_eq_some_iff] at hm
    obtain ⟨k, hk, hm⟩ := hm
    subst hm
    obtain ⟨u', kd, hu', hke⟩ := chkXo_int hmx ht x hs k hk
    rw [hmo] at hu'; cases hu'
    have hkh : k = h' := h4 k rfl
    subst hkh
    have hsh : shi.isSome = true := h5 (by simp [hs])
    obtain ⟨xh, hxh⟩ := Option.isSome_iff_exists.1 hsh
    simp only [hxh] at hh
    obtain ⟨uh, kh, huh, hkh⟩ := chkXo_int hhi ht xh hxh k hh
    have hm1 := fun code => run_sliceBound (P := P) w kd k cap code (by omega) (by omega)
    have hh1 := highR k.toNat .slice3B (Nat.le_refl _) uh huh
    cases hlo' : lo with
    | none =>
     have : slo = none := by
      cases hss : slo with
      | none => rfl
      | some x => simp [hlo', hss, chkXo] at hlo
     simp only [this, Option.some.injEq] at hl
     subst hl
     simp [Instr.sliceBounds, huh, hke, hm1, hh1]
    | some ul =>
     have hl1 := lowR k.toNat .slice3C (Nat.le_refl _) ul hlo'
     simp [Instr.sliceBounds, huh, hke, hm1, hh1, hl1]
  | none =>
   have hsm : smx = none := by
    cases hss : smx with
    | none => rfl
    | some x => simp [hmo, hss, chkXo] at hmx
   simp only [hsm, Option.some.injEq] at hm
   subst hm
   cases hhi' : hi with
   | none =>
    have hsh : shi = none := by
     cases hss : shi with
     | none => rfl
     | some x => simp [hhi', hss, chkXo] at hhi
    simp only [hsh, Option.some.injEq] at hh
    subst hh
    cases hlo' : lo with
    | none =>
     have : slo = none := by
      cases hss : slo with
      | none => rfl
      | some x => simp [hlo', hss, chkXo] at hlo
     simp only [this, Option.some.injEq] at hl
     subst hl
     simp [Instr.sliceBounds]
    | some ul =>
     have hl1 := lowR len .sliceB (by omega) ul hlo'
     simp [Instr.sliceBounds, hl1]
   | some uh =>
    have hh1 := fun code => highR cap code (by omega) uh hhi'
    cases hlo' : lo with
    | none =>
     have : slo = none := by
      cases hss : slo with
      | none => rfl
      | some x => simp [hlo', hss, chkXo] at hlo
     simp only [this, Option.some.injEq] at hl
     subst hl
     simp [Instr.sliceBounds, hh1]
    | some ul =>
     have hl1 := lowR h'.toNat .sliceB (Nat.le_refl _) ul hlo'
     simp [Instr.sliceBounds, hh1, hl1]
theorem encRows_sub {b off l k sz : Nat} {es : List (List V)} (h : EncRows M w b es off) (hs : ∀ e ∈ es, e.length = sz) (hl : l ≤ es.length) : EncRows M w b ((es.drop l).take k) (off + l * sz) := by
 have h1 : EncRows M w b (es.drop l) (off + l * sz) := by
  have h2 := h
  rw [← List.take_append_drop l es, encRows_append] at h2
  have : (es.take l).flatten.length = l * sz := by
   rw [flatten_len (sz := sz) (fun e he => hs e (List.mem_of_mem_take he)), List.length_take, Nat.min_eq_left hl]
  rw [this] at h2
  exact h2.2
 rw [← List.take_append_drop k (es.drop l), encRows_append] at h1
 exact h1.1
theorem slc_ok {t el : TypeId} {x : Operand} {sx : X} {lo hi mx : Option Operand} {slo shi smx : Option X} {base sz : Nat} {i : TypeInfo} (ho : o.op = .slice t x lo hi mx) (hx : chkX M.fm x sx = true)
  (hu0 : elemOf? P t = some el) (hi' : P.info? el = some i) (hsz : i.size = sz) (hlo : chkXo M.fm lo slo = true) (hhi : chkXo M.fm hi shi = true) (hmx : chkXo M.fm mx smx = true)
  (ht : RelT M w e a n) (hr : HRel M w H) (hv : ev1 base e H (.slc sz sx slo shi smx) = some (v, H1)) : OpOk P o a M H w v H1 := by
 have hx' := chkX_enc hx ht
 have hu := elemOf?_some hu0
 have hrun : ∀ (ad : Option Addr) (len cap l h mm : Nat), a.eval x = .slice ad len cap → (Instr.sliceBounds true len cap (lo.map a.eval) (hi.map a.eval) (mx.map a.eval)).run P w = .ok (l, h, mm) w →
   (execOp a.eval o).run P w = .ok (.value (.slice (if mm = l then ad else ad.map (·.add (l * sz))) (h - l) (mm - l))) w := by
  intro ad len cap l h mm h1 h2
  simp [execOp, ho, h1, Instr.sliceAt, Instr.slice, run_underlying hu, h2, sizeOf, typeInfo, hi', hsz]
 simp only [ev1] at hv
 split at hv
 ·rename_i es tk hp
  split at hv
  case h_2 => cases hv
  rename_i l h m hb
  split at hv
  case isFalse => cases hv
  rename_i hes
  cases hv
  rw [hp] at hx'
  simp only [Enc] at hx'
  obtain ⟨hpu, ad, cap, hxe, hle, hrows, htk⟩ := hx'
  obtain ⟨hlh, hhl, hm, hbr⟩ := run_bounds (P := P) (w := w) (isS := true) hlo hhi hmx ht hb hle
  refine .plain hr (hrun ad es.length cap l h _ hxe hbr) ?_
  have hlen : ((es.drop l).take (h - l)).length = h - l := by rw [List.length_take, List.length_drop]; omega
  have hmm : h ≤ (if m = true then h else cap) := by split <;> omega
  simp only [Enc]
  refine ⟨fun d hd => hpu d (List.mem_of_mem_drop (List.mem_of_mem_take hd)), (if (if m = true then h else cap) = l then ad else ad.map (·.add (l * sz))), (if m = true then h else cap) - l, by rw [hlen], by rw [hlen]; omega, ?_, ?_⟩
  ·by_cases hml : (if m = true then h else cap) = l
   ·rw [if_pos hml]
    have h0 : (es.drop l).take (h - l) = [] := by rw [show h - l = 0 by omega]; simp
    rw [h0]
    cases ad with
    | none => exact ⟨rfl, by omega⟩
    | some ad => exact ⟨.inl rfl, ⟨0, by simp⟩, by simp only [EncRows]⟩
   ·rw [if_neg hml]
    cases ad with
    | none =>
     exfalso
     obtain ⟨he0, hc0⟩ := hrows
     subst he0
     simp only [List.length_nil] at hhl
     apply hml
     split <;> omega
    | some ad =>
     obtain ⟨b, off, sp⟩ := ad
     obtain ⟨hsp, _, hrows⟩ := hrows
     by_cases hes0 : es = []
     ·subst hes0
      exact ⟨.inl (by simp), ⟨0, by simp⟩, by simp [EncRows]⟩
     have hsp := hsp.resolve_left hes0
     simp only at hsp hrows
     subst hsp
     simp only [Option.map_some, Addr.add_lit]
     exact ⟨.inr trivial, ⟨sz, fun d hd => hes d (List.mem_of_mem_drop (List.mem_of_mem_take hd))⟩, encRows_sub hrows hes (by omega)⟩
  ·by_cases hc : m = true ∨ tk = .full ∧ h = es.length
   ·rw [if_pos hc]
    simp only [TkOk, hlen]
    rcases hc with hc | ⟨hc, hhe⟩
    ·rw [if_pos hc]
    ·subst hc
     simp only [TkOk] at htk
     split <;> omega
   ·rw [if_neg hc]
    trivial
 ·rename_i id off k szz hp
  split at hv
  case h_2 => cases hv
  rename_i l h m hb
  split at hv
  case isFalse => cases hv
  rename_i hc
  cases hv
  rw [hp] at hx'
  simp only [Enc] at hx'
  obtain ⟨ha, cap, hxe, hle⟩ := hx'
  obtain ⟨hlh, hhl, hm, hbr⟩ := run_bounds (P := P) (w := w) (isS := true) hlo hhi hmx ht hb hle
  refine .plain hr (hrun _ k cap l h _ hxe hbr) ?_
  have hmm : h ≤ (if m = true then h else cap) := by split <;> omega
  simp only [Enc]
  refine ⟨ha, (if m = true then h else cap) - l, ?_, by omega⟩
  congr 1
  by_cases hml : (if m = true then h else cap) = l
  ·rw [if_pos hml]
   have : l = 0 := by
    rcases hc with hc | ⟨hc, hmf⟩
    ·exact hc
    ·rw [hmf] at hml; simp at hml; omega
   subst this
   simp
  ·rw [if_neg hml]
   simp [Addr.add_lit]
 ·cases hv
theorem foldl_set (vs : List Value) (off : Nat) : ∀ (k : Nat) (cs : Array Value), off + k + vs.length ≤ cs.size →
  ((vs.zipIdx k).foldl (fun cs (c : Value × Nat) => cs.setIfInBounds (off + c.2) c.1) cs).toList = cs.toList.take (off + k) ++ vs ++ cs.toList.drop (off + k + vs.length) := by
 induction vs with
 | nil => intro k cs _; simp
 | cons v vs ih =>
  intro k cs h
  simp only [List.zipIdx_cons, List.foldl_cons, List.length_cons] at h ⊢
  rw [ih (k + 1) _ (by simp; omega)]
  simp only [Array.toList_setIfInBounds]
  have hlt : off + k < cs.toList.length := by simp; omega
  have h1 : (cs.toList.set (off + k) v).take (off + (k + 1)) = cs.toList.take (off + k) ++ [v] := by
   rw [show off + (k + 1) = off + k + 1 by omega, List.take_succ_eq_append_getElem (by simpa using hlt), List.take_set_of_le (Nat.le_refl _)]
   simp
  have h2 : (cs.toList.set (off + k) v).drop (off + (k + 1) + vs.length) = cs.toList.drop (off + k + (vs.length + 1)) := by
   rw [List.drop_set_of_lt (by omega)]
   congr 1
   omega
  rw [h1, h2]
  simp
def chkParts (fm : Fm) (place : Nat → Option (Nat × Nat)) : List (Nat × Operand) → List (Nat × Nat × X) → Bool
 | [], [] => true
 | (i, x) :: ps, (off, sz, sx) :: qs => (match place i with | some (off', sz') => off' == off && sz' == sz | none => false) && chkX fm x sx && chkParts fm place ps qs
 | _, _ => false
theorem fill_ok {place : Nat → Option (Nat × Nat)} (ht : RelT M w e a n) : ∀ {ps : List (Nat × Operand)} {qs : List (Nat × Nat × X)} {cs ds : List V} {xs : Array Value},
  chkParts M.fm place ps qs = true → fillC e cs qs = some ds → EncL M w cs xs.toList → (∀ c ∈ cs, c.scal = true) →
  ∃ ys, Instr.fill place xs (ps.map fun p => (p.1, a.eval p.2)) = some ys ∧ EncL M w ds ys.toList ∧ ∀ c ∈ ds, c.scal = true
 | [], [], cs, ds, xs, _, hf, he, hs => by
  simp only [fillC, Option.some.injEq] at hf
  subst hf
  exact ⟨xs, rfl, he, hs⟩
 | [], _ :: _, _, _, _, hc, _, _, _ => by simp [chkParts] at hc
 | _ :: _, [], _, _, _, hc, _, _, _ => by simp [chkParts] at hc
 | (i, x) :: ps, (off, sz, sx) :: qs, cs, ds, xs, hc, hf, he, hs => by
  simp only [chkParts, Bool.and_eq_true] at hc
  obtain ⟨⟨hpl, hx⟩, hc⟩ := hc
  split at hpl
  case h_2 => cases hpl
  rename_i off' sz' hplace
  simp only [Bool.and_eq_true, beq_iff_eq] at hpl
  obtain ⟨rfl, rfl⟩ := hpl
  simp only [fillC] at hf
  split at hf
  case h_2 => cases hf
  rename_i us hus
  split at hf
  case isFalse => cases hf
  rename_i hle
  obtain ⟨h1, h2⟩ := enc_cells (chkX_enc hx ht) hus
  have hul := encL_length h1
  have hxl := encL_length he
  have hsz : (a.eval x).cells.size = sz' := by rw [← Array.length_toList, hul, hle.1]
  have hfold := foldl_set (a.eval x).cells.toList off' 0 xs (by simp at hxl ⊢; omega)
  simp only [Nat.add_zero, Array.length_toList, hsz] at hfold
  have hcs' : EncL M w (cs.take off' ++ us ++ cs.drop (off' + us.length)) (xs.toList.take off' ++ (a.eval x).cells.toList ++ xs.toList.drop (off' + sz')) := by
   rw [hle.1]
   exact encL_append (encL_append (encL_take he _) h1) (encL_drop he _)
  rw [← hfold] at hcs'
  obtain ⟨ys, hy1, hy2, hy3⟩ := fill_ok ht hc hf hcs' (fun c hc => by
   simp only [List.mem_append] at hc
   rcases hc with (hc | hc) | hc
   ·exact hs c (List.mem_of_mem_take hc)
   ·exact h2 c hc
   ·exact hs c (List.mem_of_mem_drop hc))
  refine ⟨ys, ?_, hy2, hy3⟩
  simp only [List.map_cons, Instr.fill, hplace]
  rw [if_neg]
  ·have hz : (a.eval x).cells.zipIdx.foldl (fun cs (c : Value × Nat) => cs.setIfInBounds (off' + c.2) c.1) xs = ((a.eval x).cells.toList.zipIdx 0).foldl (fun cs (c : Value × Nat) => cs.setIfInBounds (off' + c.2) c.1) xs := by
    rw [← Array.foldl_toList, Array.toList_zipIdx]
   rw [← hy1]
   congr 1
  ·simp only [Bool.or_eq_true, decide_eq_true_eq, not_or]
   simp at hxl
   exact ⟨by simp [hsz], by omega⟩
def placesOf (P : Program) (t : TypeId) (i : Nat) : Option (Nat × Nat) :=
 match P.underlying t with
 | some (.struct fs) => match fs[i]? with
  | some f => match P.info? f.type with
   | some inf => some (f.offset, inf.size)
   | none => none
  | none => none
 | some (.array _ el) => match P.info? el with
  | some inf => some (i * inf.size, inf.size)
  | none => none
 | _ => none
def typed (P : Program) (t : TypeId) : Bool :=
 match P.underlying t with
 | some (.struct fs) => fs.all fun f => (P.info? f.type).isSome
 | some (.array _ el) => (P.info? el).isSome
 | _ => false
def placeM (f : Field) : Sem (Nat × Nat) := do pure (f.offset, ← sizeOf f.type)
theorem run_placeM {f : Field} {inf : TypeInfo} (h : P.info? f.type = some inf) : (placeM f).run P w = .ok (f.offset, inf.size) w := by
 simp [placeM, sizeOf, typeInfo, h]
theorem run_mapM_places : ∀ fs : List Field, (∀ f ∈ fs, (P.info? f.type).isSome = true) → (fs.mapM placeM).run P w =
  .ok (fs.map fun f => (f.offset, ((P.info? f.type).map (·.size)).getD 0)) w
 | [], _ => by simp
 | f :: fs, h => by
  obtain ⟨inf, hf⟩ := Option.isSome_iff_exists.1 (h f (by simp))
  rw [List.mapM_cons, Sem.run_bind, run_placeM hf, Result.andThen_ok, Sem.run_bind, run_mapM_places fs (fun g hg => h g (by simp [hg])), Result.andThen_ok]
  simp [hf]
theorem run_mapM_placesA {fs : Array Field} (h : fs.all (fun f => (P.info? f.type).isSome) = true) : (fs.mapM placeM).run P w =
  .ok (fs.toList.map fun f => (f.offset, ((P.info? f.type).map (·.size)).getD 0)).toArray w := by
 rw [Array.mapM_eq_mapM_toList, Sem.run_map, run_mapM_places fs.toList (fun f hf => (Array.all_eq_true_iff_forall_mem.1 h) f (by simpa using hf))]
 rfl
theorem build_ok {t : TypeId} {ps : Array (Nat × Operand)} {z : List V} {qs : List (Nat × Nat × X)} {base : Nat} {i : TypeInfo} {zv : Value} (ho : o.op = .build t ps)
  (hi : P.info? t = some i) (hz : i.zero = some zv) (hzz : encSs zv.cells.toList z = true) (hty : typed P t = true) (hp : chkParts M.fm (placesOf P t) ps.toList qs = true)
  (ht : RelT M w e a n) (hr : HRel M w H) (hv : ev1 base e H (.build z qs) = some (v, H1)) : OpOk P o a M H w v H1 := by
 simp only [ev1] at hv
 split at hv
 case h_2 => cases hv
 rename_i cs hcs
 cases hv
 obtain ⟨ys, h1, h2, h3⟩ := fill_ok (w := w) ht hp hcs (encSs_encL hzz) (fun c hc => V.scal_of_pure (encSs_pure hzz c hc))
 refine .plain (rv := .agg ys) hr ?_ (by simp only [Enc]; exact ⟨h3, ys.toList, by simp, h2⟩)
 have hmap : (ps.map fun p => (p.1, a.eval p.2)).toList = ps.toList.map fun p => (p.1, a.eval p.2) := by simp
 unfold typed at hty
 split at hty
 ·rename_i fs hu
  have hpl : (fun k => ((fs.toList.map fun f => (f.offset, ((P.info? f.type).map (·.size)).getD 0))[k]?)) = placesOf P t := by
   funext k
   simp only [placesOf, hu, List.getElem?_map]
   rw [Array.getElem?_toList]
   cases hk : fs[k]? with
   | none => rfl
   | some f =>
    have hm := Array.mem_of_getElem? hk
    have := (Array.all_eq_true_iff_forall_mem.1 hty) f hm
    obtain ⟨inf, hf⟩ := Option.isSome_iff_exists.1 this
    simp [hf]
  have hmm := run_mapM_placesA (P := P) (w := w) hty
  have h1' : Instr.fill (fun k => (fs.toList.map fun f => (f.offset, ((P.info? f.type).map (·.size)).getD 0)).toArray[k]?) zv.cells (ps.map fun p => (p.1, a.eval p.2)).toList = some ys := by
   rw [hmap, ← h1, ← hpl]
   congr 1
   funext k
   simp
  have hb : (Instr.build t (ps.map fun p => (p.1, a.eval p.2))).run P w = .ok (.agg ys) w := by
   unfold Instr.build
   simp only [Sem.run_bind, zeroValue, typeInfo, run_program, hi, hz, Sem.run_pure, Result.andThen_ok, run_underlying hu]
   change ((fs.mapM placeM).run P w).andThen _ = _
   rw [hmm, Result.andThen_ok]
   simp only [h1', Sem.run_pure]
  simp only [execOp, ho, Sem.run_bind, Sem.run_pure]
  change (Result.andThen ((Instr.build t (ps.map fun p => (p.1, a.eval p.2))).run P w) _) = _
  rw [hb]
  rfl
 ·rename_i k el hu
  obtain ⟨inf, hf⟩ := Option.isSome_iff_exists.1 hty
  have hpl : (fun k => some (k * inf.size, inf.size)) = placesOf P t := by
   funext k
   simp [placesOf, hu, hf]
  have h1' : Instr.fill (fun k => some (k * inf.size, inf.size)) zv.cells (ps.map fun p => (p.1, a.eval p.2)).toList = some ys := by
   rw [hmap, hpl]
   exact h1
  have hb : (Instr.build t (ps.map fun p => (p.1, a.eval p.2))).run P w = .ok (.agg ys) w := by
   unfold Instr.build
   simp only [Sem.run_bind, zeroValue, typeInfo, run_program, hi, hz, Sem.run_pure, Result.andThen_ok, run_underlying hu, sizeOf, hf, h1']
  simp only [execOp, ho, Sem.run_bind, Sem.run_pure]
  change (Result.andThen ((Instr.build t (ps.map fun p => (p.1, a.eval p.2))).run P w) _) = _
  rw [hb]
  rfl
 ·cases hty
theorem slcA_ok {t el : TypeId} {x : Operand} {sx : X} {lo hi : Option Operand} {slo shi : Option X} {base sz len : Nat} {i : TypeInfo} (ho : o.op = .slice t x lo hi none) (hx : chkX M.fm x sx = true)
  (hu0 : arrOf? P t = some (len, el)) (hi' : P.info? el = some i) (hsz : i.size = sz) (hlo : chkXo M.fm lo slo = true) (hhi : chkXo M.fm hi shi = true)
  (ht : RelT M w e a n) (hr : HRel M w H) (hv : ev1 base e H (.slcA len sz sx slo shi) = some (v, H1)) : OpOk P o a M H w v H1 := by
 have hx' := chkX_enc hx ht
 have hu := arrOf?_some hu0
 simp only [ev1] at hv
 split at hv
 case h_2 => cases hv
 rename_i l h m hb
 split at hv
 case h_2 => cases hv
 rename_i id off hp
 split at hv
 case isFalse => cases hv
 rename_i hl
 cases hv
 rw [hp] at hx'
 simp only [Enc] at hx'
 obtain ⟨hlh, hhl, hm, hbr⟩ := run_bounds (P := P) (w := w) (isS := false) (mx := none) hlo hhi rfl ht hb (Nat.le_refl len)
 have hmf : m = false := by
  unfold bounds at hb
  simp only at hb
  split at hb
  case h_2 => cases hb
  split at hb
  case isFalse => cases hb
  rename_i hmm _
  simp only [Option.some.injEq, Prod.mk.injEq] at hb
  simp only [Option.some.injEq] at hmm
  rw [← hb.2.2, ← hmm]; rfl
 subst hmf
 simp only [Bool.false_eq_true, if_false] at hbr
 have hne : ¬ len = l := by omega
 refine .plain (rv := .slice (some ⟨M.j id, off + l * sz, none⟩) (h - l) (len - l)) hr ?_ (by simp only [Enc]; exact ⟨hx'.1, len - l, rfl, by omega⟩)
 simp only [Option.map_none] at hbr
 simp [execOp, ho, hx'.2, Instr.sliceAt, Instr.sureAddr, run_underlying hu, hbr, sizeOf, typeInfo, hi', hsz, hne, Addr.add_lit]
end Go.Ev
/- Slice literals; the checker of one operation as a whole. -/
namespace Go.Ev
open Go Go.RowKit
variable {P : Program} {M M' : Mm} {H H1 : Heap} {w w' : World}
variable {e : Env} {a : Act} {n : Nat} {o : Oper} {v : V}
theorem flat_rep {α : Type} (z : List α) : ∀ (k i : Nat), i < k * z.length → (List.replicate k z).flatten[i]? = z[i % z.length]?
 | 0, i, h => by simp at h
 | k + 1, i, h => by
  rw [List.replicate_succ, List.flatten_cons]
  by_cases hi : i < z.length
  ·rw [List.getElem?_append_left hi, Nat.mod_eq_of_lt hi]
  ·rw [List.getElem?_append_right (by omega), flat_rep z k (i - z.length) (by rw [Nat.add_mul, Nat.one_mul] at h; omega), Nat.mod_eq_sub_mod (by omega : i ≥ z.length)]
theorem fillE_flat {sz : Nat} : ∀ {qs : List (Nat × X)} {es fs : List (List V)}, (∀ e ∈ es, e.length = sz) → (∀ f ∈ es, ∀ c ∈ f, c.pure = true) → fillE e sz es qs = some fs →
  fillC e es.flatten (qs.map fun q => (q.1 * sz, sz, q.2)) = some fs.flatten ∧ fs.length = es.length ∧ (∀ e ∈ fs, e.length = sz) ∧ (∀ f ∈ fs, ∀ c ∈ f, c.pure = true)
 | [], es, fs, hs, hp, h => by
  simp only [fillE, Option.some.injEq] at h
  subst h
  exact ⟨rfl, rfl, hs, hp⟩
 | (i, x) :: qs, es, fs, hs, hp, h => by
  simp only [fillE] at h
  split at h
  case h_2 => cases h
  rename_i ds hds
  split at h
  case isFalse => cases h
  rename_i hc
  obtain ⟨hi, hl, hpu⟩ := hc
  have hs' : ∀ e ∈ es.set i ds, e.length = sz := by
   intro f hf
   rcases List.mem_or_eq_of_mem_set hf with hf | rfl
   ·exact hs f hf
   ·exact hl
  have hp' : ∀ f ∈ es.set i ds, ∀ c ∈ f, c.pure = true := by
   intro f hf
   rcases List.mem_or_eq_of_mem_set hf with hf | rfl
   ·exact hp f hf
   ·exact List.all_eq_true.1 hpu
  obtain ⟨h1, h2, h3, h4⟩ := fillE_flat hs' hp' h
  refine ⟨?_, by rw [h2]; simp, h3, h4⟩
  simp only [List.map_cons, fillC, hds]
  have hfl := flatten_len hs
  have hlt : i * sz + sz ≤ es.length * sz := by
   have : (i + 1) * sz ≤ es.length * sz := Nat.mul_le_mul_right _ hi
   rw [Nat.add_mul, Nat.one_mul] at this
   exact this
  rw [if_pos ⟨hl, by rw [hfl, hl]; exact hlt⟩]
  have hset : (es.set i ds).flatten = es.flatten.take (i * sz) ++ ds ++ es.flatten.drop (i * sz + ds.length) := by
   have e1 : es = es.take i ++ es[i] :: es.drop (i + 1) := by rw [List.getElem_cons_drop, List.take_append_drop]
   have t1 : (es.take i).flatten.length = i * sz := by
    rw [flatten_len (sz := sz) (fun f hf => hs f (List.mem_of_mem_take hf)), List.length_take, Nat.min_eq_left (by omega)]
   have t2 : es[i].length = sz := hs _ (List.getElem_mem hi)
   have e2 : es.set i ds = es.take i ++ ds :: es.drop (i + 1) := List.set_eq_take_append_cons_drop ▸ by rw [if_pos hi]
   rw [e2]
   have e3 : es.flatten = (es.take i).flatten ++ (es[i] ++ (es.drop (i + 1)).flatten) := by
    have := congrArg List.flatten e1
    rw [List.flatten_append, List.flatten_cons] at this
    exact this
   rw [e3]
   simp only [List.flatten_append, List.flatten_cons]
   rw [← t1, List.take_left, hl, ← t2, List.drop_append, ]
   simp
  rw [← hset]
  exact h1
theorem enc_rep {z : List V} {zc : Array Value} (hzz : encSs zc.toList z = true) (hz0 : 0 < z.length) (k : Nat) :
  EncL M w (List.replicate k z).flatten ((Array.range (k * z.length)).map (fun j => zc[j % zc.size]!)).toList := by
 have hzl : zc.size = z.length := by
  have := encL_length (encSs_encL (M := M) (w := w) hzz)
  simpa using this
 refine encL_of ?_ fun j c x hc hx => ?_
 ·rw [flatten_len (sz := z.length) (fun f hf => by rw [List.eq_of_mem_replicate hf])]
  simp
 ·have hj : j < k * z.length := by
   have := (List.getElem?_eq_some_iff.1 hc).1
   rw [flatten_len (sz := z.length) (fun f hf => by rw [List.eq_of_mem_replicate hf]), List.length_replicate] at this
   exact this
  rw [flat_rep z k j hj] at hc
  obtain ⟨x', hx', he⟩ := encL_get (encSs_encL (M := M) (w := w) hzz) hc
  have hm : j % z.length < zc.size := by rw [hzl]; exact Nat.mod_lt _ hz0
  have : x = x' := by
   simp only [Array.toList_map, Array.toList_range, List.getElem?_map] at hx
   rw [List.getElem?_range hj] at hx
   simp only [Option.map_some, Option.some.injEq] at hx
   rw [← hx, hzl]
   rw [getElem!_pos zc _ hm]
   simp only [Array.getElem?_toList] at hx'
   rw [Array.getElem?_eq_getElem hm] at hx'
   simpa using hx'
  rw [this]
  exact he
theorem mksl_ok {t el : TypeId} {l c : Operand} {sx : X} {s base bytes : Nat} {z : List V} {i : TypeInfo} {zv : Value} (ho : o.op = .makeSlice t l c) (hl : chkX M.fm l sx = true) (hc : chkX M.fm c sx = true)
  (hu0 : elemOf? P t = some el) (hi : P.info? el = some i) (hsz : i.size = z.length) (hby : i.bytes = bytes) (hb0 : 0 < bytes) (hz0 : 0 < z.length) (hz : i.zero = some zv) (hzz : encSs zv.cells.toList z = true)
  (ht : RelT M w e a n) (hr : HRel M w H) (hv : ev1 base e H (.mksl s bytes z sx) = some (v, H1)) : OpOk P o a M H w v H1 := by
 have hu := elemOf?_some hu0
 have hl' := chkX_enc hl ht
 have hc' := chkX_enc hc ht
 simp only [ev1] at hv
 split at hv
 case h_2 => cases hv
 rename_i kd k hk
 split at hv
 case isFalse => cases hv
 rename_i hcond
 obtain ⟨hf, h0, hle⟩ := hcond
 cases hv
 rw [hk] at hl' hc'
 simp only [Enc] at hl' hc'
 have hkn : k.toNat ≤ 140737488355328 := Nat.le_trans (Nat.le_mul_of_pos_right _ hb0) hle
 have hbytes : (i.bytes : Int) * k ≤ 281474976710656 := by
  rw [hby]
  have h1 : ((k.toNat * bytes : Nat) : Int) = (bytes : Int) * k := by
   rw [Int.natCast_mul, Int.toNat_of_nonneg h0, Int.mul_comm]
  omega
 have hrun := run_make (P := P) w t el i zv hu hi hz kd kd k k h0 (Int.le_refl _) hbytes (by omega)
 have hcells : madeCells zv.cells (k.toNat * i.size) = (Array.range (k.toNat * z.length)).map (fun j => zv.cells[j % zv.cells.size]!) := by rw [hsz]; rfl
 rw [hcells] at hrun
 obtain ⟨st, ii, r⟩ := stp_alc (t := el) hr hf (enc_rep hzz hz0 k.toNat) (fun c hc => by
  obtain ⟨f, hf, hc⟩ := List.mem_flatten.1 hc
  rw [List.eq_of_mem_replicate hf] at hc
  exact V.scal_of_pure (encSs_pure hzz c hc))
 refine ⟨.value (.slice (some ⟨w.heap.size, 0, none⟩) k.toNat k.toNat), _, _, ?_, ?_, st, ii, r⟩
 ·simp only [execOp, ho, hl', hc', Sem.run_bind, Sem.run_pure, hrun, Result.andThen_ok]
 ·simp only [Enc, Mm.alc, decide_true, Bool.true_or, if_true, true_and]
  exact ⟨k.toNat, rfl, Nat.le_refl _⟩
theorem bslice_run {t el : TypeId} {k : Nat} {ps : Array (Nat × Operand)} {z : List V} {qs : List (Nat × X)} {i : TypeInfo} {zv : Value} (ho : o.op = .buildSlice t k ps)
  (hu0 : elemOf? P t = some el) (hi : P.info? el = some i) (hsz : i.size = z.length) (hz0 : 0 < z.length) (hk : k * z.length ≤ 16777216) (hz : i.zero = some zv) (hzz : encSs zv.cells.toList z = true)
  (hp : chkParts M.fm (fun j => some (j * z.length, z.length)) ps.toList (qs.map fun q => (q.1 * z.length, z.length, q.2)) = true)
  (ht : RelT M w e a n) {es : List (List V)} (hes : fillE e z.length (List.replicate k z) qs = some es) :
  ∃ ys : Array Value, (execOp a.eval o).run P w = .ok (.value (.slice (some ⟨w.heap.size, 0, none⟩) k k)) (w.alloc (.cells ys el)) ∧ EncL M w es.flatten ys.toList ∧ es.length = k ∧ (∀ f ∈ es, f.length = z.length) ∧ (∀ f ∈ es, ∀ c ∈ f, c.pure = true) := by
 have hu := elemOf?_some hu0
 have hzp := encSs_pure hzz
 obtain ⟨h1, h2, h3, h4⟩ := fillE_flat (fun f hf => by rw [List.eq_of_mem_replicate hf]) (fun f hf => by rw [List.eq_of_mem_replicate hf]; exact hzp) hes
 rw [List.length_replicate] at h2
 have hzl : zv.cells.size = z.length := by
  have := encL_length (encSs_encL (M := M) (w := w) hzz)
  simpa using this
 -- the cells at first
 have hinit : EncL M w (List.replicate k z).flatten ((Array.range (k * i.size)).map (fun j => zv.cells[j % zv.cells.size]!)).toList := by
  refine encL_of ?_ fun j c x hc hx => ?_
  ·rw [flatten_len (sz := z.length) (fun f hf => by rw [List.eq_of_mem_replicate hf])]
   simp [hsz]
  ·have hj : j < k * z.length := by
    have := (List.getElem?_eq_some_iff.1 hc).1
    rw [flatten_len (sz := z.length) (fun f hf => by rw [List.eq_of_mem_replicate hf]), List.length_replicate] at this
    exact this
   rw [flat_rep z k j hj] at hc
   obtain ⟨x', hx', he⟩ := encL_get (encSs_encL (M := M) (w := w) hzz) hc
   have hm : j % z.length < zv.cells.size := by rw [hzl]; exact Nat.mod_lt _ hz0
   have : x = x' := by
    simp only [Array.toList_map, Array.toList_range, List.getElem?_map, hsz] at hx
    rw [List.getElem?_range hj] at hx
    simp only [Option.map_some, Option.some.injEq] at hx
    rw [← hx, hzl]
    rw [getElem!_pos zv.cells _ hm]
    simp only [Array.getElem?_toList] at hx'
    rw [Array.getElem?_eq_getElem hm] at hx'
    simpa using hx'
   rw [this]
   exact he
 obtain ⟨ys, hf, hy, _⟩ := fill_ok (w := w) ht hp h1 hinit (fun c hc => by
  obtain ⟨f, hf, hc⟩ := List.mem_flatten.1 hc
  rw [List.eq_of_mem_replicate hf] at hc
  exact V.scal_of_pure (hzp c hc))
 have hrun : (execOp a.eval o).run P w = .ok (.value (.slice (some ⟨w.heap.size, 0, none⟩) k k)) (w.alloc (.cells ys el)) := by
  have hmap : (ps.map fun p => (p.1, a.eval p.2)).toList = ps.toList.map fun p => (p.1, a.eval p.2) := by simp
  have hb : (Instr.buildSlice t k (ps.map fun p => (p.1, a.eval p.2))).run P w = .ok (.slice (some ⟨w.heap.size, 0, none⟩) k k) (w.alloc (.cells ys el)) := by
   unfold Instr.buildSlice
   rw [← hmap] at hf
   simp only [Sem.run_bind, run_underlying hu, Result.andThen_ok, sizeOf, typeInfo, run_program, hi, Sem.run_pure]
   rw [if_neg (by rw [hsz]; omega)]
   have hfin : ∀ xs : Array Value, Instr.fill (fun i_1 => some (i_1 * i.size, i.size)) xs (ps.map fun p => (p.1, a.eval p.2)).toList = some ys →
     Sem.run P (match Instr.fill (fun i_1 => some (i_1 * i.size, i.size)) xs (ps.map fun p => (p.1, a.eval p.2)).toList with
      | some cells => (do pure (.slice (some (← newRow el cells)) k k) : Sem Value)
      | _ => stuck "buildSlice: a part of the wrong size") w = .ok (.slice (some ⟨w.heap.size, 0, none⟩) k k) (w.alloc (.cells ys el)) := by
    intro xs hx
    rw [hx]
    simp [newRow]
   by_cases hkz : k * i.size = 0
   ·rw [if_pos hkz]
    have hxs : (Array.range (k * i.size)).map (fun j => (#[] : Array Value)[j % (#[] : Array Value).size]!) = (Array.range (k * i.size)).map (fun j => zv.cells[j % zv.cells.size]!) := by
     apply Array.ext'
     rw [hkz]
     simp
    rw [Sem.run_bind, Sem.run_pure, Result.andThen_ok]
    refine hfin _ ?_
    rw [hxs]
    simpa [hsz] using hf
   ·rw [if_neg hkz]
    simp only [Sem.run_bind, zeroValue, typeInfo, run_program, hi, hz, Sem.run_pure, Result.andThen_ok]
    refine hfin _ ?_
    simpa [hsz] using hf
  simp only [execOp, ho, Sem.run_bind, Sem.run_pure]
  change (Result.andThen ((Instr.buildSlice t k (ps.map fun p => (p.1, a.eval p.2))).run P w) _) = _
  rw [hb]
  rfl
 exact ⟨ys, hrun, hy, h2, h3, h4⟩
theorem bslice_ok {t el : TypeId} {k base : Nat} {ps : Array (Nat × Operand)} {z : List V} {qs : List (Nat × X)} {i : TypeInfo} {zv : Value} (ho : o.op = .buildSlice t k ps)
  (hu0 : elemOf? P t = some el) (hi : P.info? el = some i) (hsz : i.size = z.length) (hz0 : 0 < z.length) (hk : k * z.length ≤ 16777216) (hz : i.zero = some zv) (hzz : encSs zv.cells.toList z = true)
  (hp : chkParts M.fm (fun j => some (j * z.length, z.length)) ps.toList (qs.map fun q => (q.1 * z.length, z.length, q.2)) = true)
  (ht : RelT M w e a n) (hr : HRel M w H) (hv : ev1 base e H (.bslice k z qs) = some (v, H1)) : OpOk P o a M H w v H1 := by
 simp only [ev1] at hv
 split at hv
 case h_2 => cases hv
 rename_i es hes
 cases hv
 obtain ⟨ys, hrun, hy, h2, h3, h4⟩ := bslice_run ho hu0 hi hsz hz0 hk hz hzz hp ht hes
 obtain ⟨st, ii, r⟩ := stp_same (M' := M.lims w.heap.size none) hr (Grew.alloc w (.cells ys el)) (Same.lims M _ _)
 refine ⟨_, _, _, hrun, ?_, st, ii, r⟩
 simp only [Enc]
 refine ⟨h4, some ⟨w.heap.size, 0, none⟩, k, by rw [h2], by omega, ⟨.inr rfl, ⟨z.length, h3⟩, ?_⟩, by simp only [TkOk]; exact h2.symm⟩
 refine encL_rows (EncL.step st hr ii hy) ?_ ?_
 ·intro j u hu
  rw [cell_of_row _ w.heap.size (0 + j) _ el (0, 0) (heap_alloc_new w _)]
  simpa using hu
 ·intro j _ l hl
  simp [Mm.lims] at hl
theorem bsliceG_ok {t el : TypeId} {k base s : Nat} {ps : Array (Nat × Operand)} {z : List V} {qs : List (Nat × X)} {i : TypeInfo} {zv : Value} (ho : o.op = .buildSlice t k ps)
  (hu0 : elemOf? P t = some el) (hi : P.info? el = some i) (hsz : i.size = z.length) (hz0 : 0 < z.length) (hk : k * z.length ≤ 16777216) (hz : i.zero = some zv) (hzz : encSs zv.cells.toList z = true)
  (hp : chkParts M.fm (fun j => some (j * z.length, z.length)) ps.toList (qs.map fun q => (q.1 * z.length, z.length, q.2)) = true)
  (ht : RelT M w e a n) (hr : HRel M w H) (hv : ev1 base e H (.bsliceG s k z qs) = some (v, H1)) : OpOk P o a M H w v H1 := by
 simp only [ev1] at hv
 split at hv
 case h_2 => cases hv
 rename_i es hes
 split at hv
 case isFalse => cases hv
 rename_i hf
 cases hv
 obtain ⟨ys, hrun, hy, h2, h3, h4⟩ := bslice_run ho hu0 hi hsz hz0 hk hz hzz hp ht hes
 have hyl : ys.size = k * z.length := by rw [← Array.length_toList, encL_length hy, flatten_len h3, h2]
 have hfl : es.flatten.length = k * z.length := by rw [flatten_len h3, h2]
 obtain ⟨s2, i2, r2⟩ := stp_setz hr ⟨0, none, k, z.length⟩ hf
 obtain ⟨s3, i3, r3⟩ := stp_alcG (ob := .cells ys el) (blk0 := .grow es.flatten z.length true) r2 hf rfl fun hst hid => by
  simp only [BRel]
  refine ⟨flat_pure h4, by simp [Mm.alc], by simp [Mm.alc, Mm.setz], by simp [Mm.alc, Mm.setz], ys, el, ?_, by simp [Mm.alc, Mm.setz, hyl], ?_, fun _ => by rw [hyl, hfl]⟩
  ·simp only [Mm.alc, if_true]; exact heap_alloc_new w _
  ·rw [encL_pre hy]; exact EncL.step hst r2 hid (EncL.step s2 hr i2 hy)
 refine ⟨_, _, _, hrun, ?_, s2.trans s3, i2.trans i3 (Nat.le_refl _), r3⟩
 simp only [Enc]
 exact ⟨by simp [Mm.alc], k, by simp [Mm.alc, Mm.setz], Nat.le_refl _, fun _ => by simp [Mm.alc, Mm.setz]⟩
theorem chunks_flat {sz : Nat} : ∀ {k : Nat} {cs : List V}, k * sz ≤ cs.length → (chunks sz k cs).flatten = cs.take (k * sz) ∧ (chunks sz k cs).length = k ∧ ∀ e ∈ chunks sz k cs, e.length = sz ∧ ∀ c ∈ e, c ∈ cs
 | 0, cs, _ => by simp [chunks]
 | k + 1, cs, h => by
  rw [Nat.add_mul, Nat.one_mul] at h
  obtain ⟨h1, h2, h3⟩ := chunks_flat (sz := sz) (k := k) (cs := cs.drop sz) (by rw [List.length_drop]; omega)
  refine ⟨?_, by simp [chunks, h2], ?_⟩
  ·simp only [chunks, List.flatten_cons, h1]
   rw [Nat.add_mul, Nat.one_mul, Nat.add_comm, List.take_add]
  ·intro e he
   simp only [chunks, List.mem_cons] at he
   rcases he with rfl | he
   ·exact ⟨by rw [List.length_take]; omega, fun c hc => List.mem_of_mem_take hc⟩
   ·exact ⟨(h3 e he).1, fun c hc => List.mem_of_mem_drop ((h3 e he).2 c hc)⟩
theorem mark_ok {t el : TypeId} {x : Operand} {sx : X} {base : Nat} (ho : o.op = .convert t t x) (hx : chkX M.fm x sx = true) (hs : P.underlying t = some (.slice el)) (hel : P.underlying el = some (.int .u8))
  (ht : RelT M w e a n) (hr : HRel M w H) (hv : ev1 base e H (.mark sx) = some (v, H1)) : OpOk P o a M H w v H1 := by
 have hx' := chkX_enc hx ht
 simp only [ev1] at hv
 split at hv
 case h_2 => cases hv
 rename_i id k hp
 split at hv
 case h_2 => cases hv
 rename_i cs sz hb
 split at hv
 case isFalse => cases hv
 rename_i hc
 obtain ⟨rfl, rfl, hpu⟩ := hc
 cases hv
 have hpu := List.all_eq_true.1 hpu
 rw [hp] at hx'
 simp only [Enc] at hx'
 obtain ⟨hal, cap, hxe, hle, hzc⟩ := hx'
 have hb' := hr.rel id _ hb
 simp only [BRel] at hb'
 obtain ⟨hsc, hl0, hz0, hzs, xs, te, hh, hxs, hE, hfu⟩ := hb'
 have hcap := hzc hz0
 have hfull := hfu trivial
 rw [Nat.mul_one, ← hcap] at hxs
 have hlt : id < H.length := (List.getElem?_eq_some_iff.1 hb).1
 have hxt : xs.toList.take cs.length = xs.toList := List.take_of_length_le (by rw [Array.length_toList, hfull]; exact Nat.le_refl _)
 rw [hxt] at hE
 obtain ⟨w', hw'⟩ : ∃ w', w' = w.freeze ⟨M.j id, xs.size, none⟩ 1 := ⟨_, rfl⟩
 have hoth : ∀ b, b ≠ M.j id → w'.heap[b]? = w.heap[b]? := fun b hne => by
  rw [hw']; simp only [World.freeze]; rw [if_neg (by decide)]
  simp only [Array.getElem?_modify]; rw [if_neg (fun h => hne h.symm)]
 have hnew : w'.heap[M.j id]? = some (.cells xs te (xs.size, xs.size + 1)) := by
  rw [hw']; simp only [World.freeze]; rw [if_neg (by decide)]
  simp only [Array.getElem?_modify, if_true, hh]; rfl
 have hsz : w'.heap.size = w.heap.size := by
  rw [hw']; simp only [World.freeze]; rw [if_neg (by decide)]
  simp only [Array.size_modify]
 have hrest : w'.os = w.os ∧ w'.tape = w.tape ∧ w'.output = w.output := by rw [hw']; simp only [World.freeze]; rw [if_neg (by decide)]; exact ⟨rfl, rfl, rfl⟩
 have hsh : w.shape? (M.j id) = some (te, xs.size) := by simp [World.shape?, hh]
 have hrun : (execOp a.eval o).run P w = .ok (.value (.slice (some ⟨M.j id, 0, none⟩) cs.length cap)) w' := by
  rw [hw']
  simp [execOp, ho, hxe, convert, run_underlying hs, run_underlying hel, markStringish, hsh]
 -- the number stands for nothing more
 obtain ⟨M2, hM2⟩ : ∃ M2, M2 = (M.kill id).limit (M.j id) cs.length := ⟨_, rfl⟩
 have hblo : blOf M H id = some (M.j id) := by simp [blOf, hb]
 have gid : (H.set id (some (Blk.zone 1)))[id]? = some (some (.zone 1)) := List.getElem?_set_self hlt
 have bid : blOf M2 (H.set id (some (.zone 1))) id = none := by rw [hM2]; unfold blOf; rw [gid]; simp [Mm.kill, Mm.limit]
 have bo : ∀ i, i ≠ id → blOf M2 (H.set id (some (.zone 1))) i = blOf M H i := by
  intro i h; rw [hM2]; unfold blOf; rw [getElem?_set_ne h]; simp only [Mm.kill, Mm.limit, h, if_false]
 have key : ∀ i b, blOf M2 (H.set id (some (.zone 1))) i = some b → i ≠ id ∧ blOf M H i = some b := by
  intro i b hi
  by_cases h : i = id
  ·subst h; rw [bid] at hi; cases hi
  ·rw [bo i h] at hi; exact ⟨h, hi⟩
 have hst : Stp M H w M2 (H.set id (some (.zone 1))) w' := {
  os := hrest.1
  tape := hrest.2.1
  output := hrest.2.2
  size := by rw [hsz]; exact Nat.le_refl _
  same := fun b _ ho => hoth b fun e => ho ⟨id, by rw [hblo, e]⟩
  cells := fun b l o _ hl ho => by
   by_cases e : b = M.j id
   ·subst e; rw [hl0] at hl; cases hl; omega
   ·exact World.cell?_of_block (w := w) (hoth b e)
  limn := fun b _ hl => by
   rw [hM2]; simp only [Mm.limit, Mm.kill]
   rw [if_neg]; · exact hl
   intro e; subst e; rw [hl0] at hl; cases hl
  lims := fun b l' _ hl => by
   rw [hM2]; simp only [Mm.limit, Mm.kill]
   by_cases e : b = M.j id
   ·subst e; rw [hl0] at hl; cases hl; exact ⟨cs.length, by simp, Nat.zero_le _⟩
   ·exact ⟨l', by rw [if_neg e]; exact hl, Nat.le_refl _⟩
  limo := fun b _ ho => by
   rw [hM2]; simp only [Mm.limit, Mm.kill]
   rw [if_neg]
   intro e; exact ho ⟨id, by rw [hblo, e]⟩
  own := fun b _ hob => by obtain ⟨i, hi⟩ := hob; exact ⟨i, (key i b hi).2⟩
  fm := by rw [hM2]; rfl }
 have hid : Ids M M2 H.length := fun i _ hi => by
  rw [hM2]
  refine ⟨hi, rfl, ?_⟩
  simp only [Mm.kill, Mm.limit]
  split
  ·rename_i h2
   subst h2
   exact ⟨by simp [hz0], fun h => by simp [hz0] at h⟩
  ·exact Zle.refl _
 have hR : HRel M2 w' (H.set id (some (.zone 1))) := by
  refine ⟨fun i => ?_, fun i b hi => ?_, fun i i' b h1 h2 => hr.inj i i' b (key i b h1).2 (key i' b h2).2, hr.glo.step hst hr hid⟩
  ·by_cases h2 : i = id
   ·subst h2; rw [hM2]; simp only [Mm.kill, Mm.limit, hal, true_iff]; exact ⟨_, gid⟩
   ·rw [getElem?_set_ne h2, hM2]; exact hr.dom i
  ·by_cases h2 : i = id
   ·subst h2; rw [gid] at hi; cases hi; rw [hM2]; simp [BRel, Mm.kill, Mm.limit]
   ·rw [getElem?_set_ne h2] at hi
    refine BRel.step hst hr hid hi (fun b hbl => ?_) (by rw [hM2]; simp only [Mm.kill, Mm.limit, h2, if_false])
    have hne : b ≠ M.j id := fun e => h2 (hr.inj i id b hbl (by rw [hblo, e]))
    exact ⟨hoth b hne, by rw [hM2]; simp only [Mm.limit, Mm.kill]; rw [if_neg hne]⟩
 refine ⟨_, _, M2, hrun, ?_, hst, hid, hR⟩
 obtain ⟨h1, h2, h3⟩ := chunks_flat (sz := 1) (k := cs.length) (cs := cs) (by omega)
 simp only [Enc]
 refine ⟨fun e he c hc => hpu c ((h3 e he).2 c hc), some ⟨M.j id, 0, none⟩, cap, by rw [h2], by rw [h2]; exact hle, ⟨.inr rfl, ⟨1, fun e he => (h3 e he).1⟩, ?_⟩, ?_⟩
 ·rw [encRows_iff, h1, List.take_of_length_le (by omega)]
  refine encRow_of fun i c hc => ?_
  obtain ⟨y, hy, hey⟩ := encL_get (EncL.step hst hr hid hE) hc
  refine ⟨y, ?_, fun l hl => ?_, hey⟩
  ·rw [cell_of_row w' (M.j id) (0 + i) xs te _ hnew]
   simpa using hy
  ·rw [hM2] at hl
   simp only [Mm.limit, if_true, Option.some.injEq] at hl
   have := (List.getElem?_eq_some_iff.1 hc).1
   show (0 : Nat) + i < l
   omega
 ·simp only [TkOk, h2]; omega
theorem bsliceR_ok {t el : TypeId} {k base sp : Nat} {ps : Array (Nat × Operand)} {z : List V} {qs : List (Nat × X)} {i : TypeInfo} {zv : Value} (ho : o.op = .buildSlice t k ps)
  (hu0 : elemOf? P t = some el) (hi : P.info? el = some i) (hsz : i.size = z.length) (hz0 : 0 < z.length) (hk : k * z.length ≤ 16777216) (hz : i.zero = some zv) (hzz : encSs zv.cells.toList z = true)
  (hp : chkParts M.fm (fun j => some (j * z.length, z.length)) ps.toList (qs.map fun q => (q.1 * z.length, z.length, q.2)) = true)
  (ht : RelT M w e a n) (hr : HRel M w H) (hv : ev1 base e H (.bsliceR sp k z qs) = some (v, H1)) : OpOk P o a M H w v H1 := by
 have hu := elemOf?_some hu0
 simp only [ev1] at hv
 split at hv
 case isFalse => cases hv
 rename_i hfree
 split at hv
 case h_2 => cases hv
 rename_i ds h1
 cases hv
 have hzp := encSs_pure hzz
 have hzl : zv.cells.size = z.length := by
  have := encL_length (encSs_encL (M := M) (w := w) hzz)
  simpa using this
 -- the cells at first
 have hinit : EncL M w (List.replicate k z).flatten ((Array.range (k * i.size)).map (fun j => zv.cells[j % zv.cells.size]!)).toList := by
  refine encL_of ?_ fun j c x hc hx => ?_
  ·rw [flatten_len (sz := z.length) (fun f hf => by rw [List.eq_of_mem_replicate hf])]
   simp [hsz]
  ·have hj : j < k * z.length := by
    have := (List.getElem?_eq_some_iff.1 hc).1
    rw [flatten_len (sz := z.length) (fun f hf => by rw [List.eq_of_mem_replicate hf]), List.length_replicate] at this
    exact this
   rw [flat_rep z k j hj] at hc
   obtain ⟨x', hx', he⟩ := encL_get (encSs_encL (M := M) (w := w) hzz) hc
   have hm : j % z.length < zv.cells.size := by rw [hzl]; exact Nat.mod_lt _ hz0
   have : x = x' := by
    simp only [Array.toList_map, Array.toList_range, List.getElem?_map, hsz] at hx
    rw [List.getElem?_range hj] at hx
    simp only [Option.map_some, Option.some.injEq] at hx
    rw [← hx, hzl]
    rw [getElem!_pos zv.cells _ hm]
    simp only [Array.getElem?_toList] at hx'
    rw [Array.getElem?_eq_getElem hm] at hx'
    simpa using hx'
   rw [this]
   exact he
 obtain ⟨ys, hf, hy, hsc⟩ := fill_ok (w := w) ht hp h1 hinit (fun c hc => by
  obtain ⟨f, hf, hc⟩ := List.mem_flatten.1 hc
  rw [List.eq_of_mem_replicate hf] at hc
  exact V.scal_of_pure (hzp c hc))
 have hrun : (execOp a.eval o).run P w = .ok (.value (.slice (some ⟨w.heap.size, 0, none⟩) k k)) (w.alloc (.cells ys el)) := by
  have hmap : (ps.map fun p => (p.1, a.eval p.2)).toList = ps.toList.map fun p => (p.1, a.eval p.2) := by simp
  have hb : (Instr.buildSlice t k (ps.map fun p => (p.1, a.eval p.2))).run P w = .ok (.slice (some ⟨w.heap.size, 0, none⟩) k k) (w.alloc (.cells ys el)) := by
   unfold Instr.buildSlice
   rw [← hmap] at hf
   simp only [Sem.run_bind, run_underlying hu, Result.andThen_ok, sizeOf, typeInfo, run_program, hi, Sem.run_pure]
   rw [if_neg (by rw [hsz]; omega)]
   have hfin : ∀ xs : Array Value, Instr.fill (fun i_1 => some (i_1 * i.size, i.size)) xs (ps.map fun p => (p.1, a.eval p.2)).toList = some ys →
     Sem.run P (match Instr.fill (fun i_1 => some (i_1 * i.size, i.size)) xs (ps.map fun p => (p.1, a.eval p.2)).toList with
      | some cells => (do pure (.slice (some (← newRow el cells)) k k) : Sem Value)
      | _ => stuck "buildSlice: a part of the wrong size") w = .ok (.slice (some ⟨w.heap.size, 0, none⟩) k k) (w.alloc (.cells ys el)) := by
    intro xs hx
    rw [hx]
    simp [newRow]
   by_cases hkz : k * i.size = 0
   ·rw [if_pos hkz]
    have hxs : (Array.range (k * i.size)).map (fun j => (#[] : Array Value)[j % (#[] : Array Value).size]!) = (Array.range (k * i.size)).map (fun j => zv.cells[j % zv.cells.size]!) := by
     apply Array.ext'
     rw [hkz]
     simp
    rw [Sem.run_bind, Sem.run_pure, Result.andThen_ok]
    refine hfin _ ?_
    rw [hxs]
    simpa [hsz] using hf
   ·rw [if_neg hkz]
    simp only [Sem.run_bind, zeroValue, typeInfo, run_program, hi, hz, Sem.run_pure, Result.andThen_ok]
    refine hfin _ ?_
    simpa [hsz] using hf
  simp only [execOp, ho, Sem.run_bind, Sem.run_pure]
  change (Result.andThen ((Instr.buildSlice t k (ps.map fun p => (p.1, a.eval p.2))).run P w) _) = _
  rw [hb]
  rfl
 obtain ⟨st, ii, r⟩ := stp_alc (t := el) hr hfree hy hsc
 refine ⟨_, _, _, hrun, ?_, st, ii, r⟩
 simp only [Enc, Mm.alc, decide_true, Bool.true_or, if_true, true_and]
 exact ⟨k, rfl, Nat.le_refl _⟩
theorem cpy_src {c : V} {ds : List V} {x : Value} {sz : Nat} (hr : HRel M w H) (hz : 0 < sz) (h : Enc M w c x) (hc : rowOf H sz c = some ds) (k : Nat) (hk : k ≤ ds.length / sz) :
  (Builtin.lenOf x).run P w = .ok (ds.length / sz) w ∧ (∀ d ∈ ds, d.scal = true) ∧ ∃ xs : List Value, (Builtin.firstCells sz k x).run P w = .ok xs.toArray w ∧ EncL M w (ds.take (k * sz)) xs ∧ xs.length = k * sz := by
 have hle : k * sz ≤ ds.length := Nat.le_trans (Nat.mul_le_mul_right _ hk) (Nat.div_mul_le_self _ _)
 cases c <;> simp only [rowOf, reduceCtorEq] at hc
 case vs es tk =>
  split at hc
  case isFalse => cases hc
  rename_i hes
  cases hc
  have hes : ∀ e ∈ es, e.length = sz := fun e he => by have := List.all_eq_true.1 hes e he; simpa using this
  have hfl := flatten_len hes
  have hdiv : es.flatten.length / sz = es.length := by rw [hfl]; exact Nat.mul_div_cancel _ hz
  rw [hdiv] at hk ⊢
  simp only [Enc] at h
  obtain ⟨hp, ad, cap, rfl, hcap, hrows, _⟩ := h
  refine ⟨by simp [Builtin.lenOf], fun d hd => by
   obtain ⟨f, hf, hd⟩ := List.mem_flatten.1 hd
   exact V.scal_of_pure (hp f hf d hd), ?_⟩
  cases ad with
  | none =>
   obtain ⟨rfl, rfl⟩ := hrows
   have : k = 0 := by simpa using hk
   subst this
   exact ⟨[], by simp [Builtin.firstCells], by simp [EncL], by simp⟩
  | some ad =>
   obtain ⟨b, off, sp⟩ := ad
   obtain ⟨hsp, _, hrows⟩ := hrows
   by_cases hk0 : k = 0
   ·subst hk0
    exact ⟨[], run_firstCells_some w sz 0 ⟨b, off, sp⟩ es.length cap [] (by simp) (fun j u hu => by simp at hu), by simp [EncL], by simp⟩
   have hne : es ≠ [] := by rintro rfl; simp at hk; omega
   have hsp := hsp.resolve_left hne
   simp only at hsp hrows
   subst hsp
   obtain ⟨xs, h1, h2⟩ := encRows_vals hrows
   have hl := encL_length h1
   have e1 := encL_take h1 (k * sz)
   refine ⟨xs.take (k * sz), run_firstCells_some w sz k ⟨b, off, none⟩ es.length cap (xs.take (k * sz)) (by rw [List.length_take]; omega) (fun j u hu => by
    rw [Addr.add_mid]
    rw [List.getElem?_take] at hu
    split at hu
    ·exact h2 j u hu
    ·cases hu), e1, by rw [List.length_take]; omega⟩
 case rs id off m sz' =>
  split at hc
  case h_2 => cases hc
  rename_i cs hb
  split at hc
  case isFalse => cases hc
  rename_i hcl
  cases hc
  have hlen : ((cs.drop off).take (m * sz)).length = m * sz := by rw [List.length_take, List.length_drop]; omega
  have hdiv : ((cs.drop off).take (m * sz)).length / sz = m := by rw [hlen]; exact Nat.mul_div_cancel _ hz
  rw [hdiv] at hk ⊢
  simp only [Enc] at h
  obtain ⟨_, cap, rfl, hcap⟩ := h
  have hb' := hr.rel id _ hb
  simp only [BRel] at hb'
  obtain ⟨hs, _, xs, te, hh, he⟩ := hb'
  have hl := encL_length he
  have e1 := encL_take (encL_take (encL_drop he off) (m * sz)) (k * sz)
  have hkm : k * sz ≤ m * sz := Nat.mul_le_mul_right _ hk
  refine ⟨by simp [Builtin.lenOf], fun d hd => hs d (List.mem_of_mem_drop (List.mem_of_mem_take hd)), _, run_firstCells_some w sz k ⟨M.j id, off, none⟩ m cap ((((xs.toList.take cs.length).drop off).take (m * sz)).take (k * sz)) (by
   rw [List.length_take, List.length_take, List.length_drop, hl]; omega) (fun j u hu => by
    rw [Addr.add_mid, cell_of_row w (M.j id) (off + j) xs te (0, 0) hh]
    rw [List.getElem?_take] at hu
    split at hu
    ·rw [List.getElem?_take] at hu
     split at hu
     ·rw [List.getElem?_drop] at hu; exact pfx_get hu
     ·cases hu
    ·cases hu), e1, by rw [List.length_take, List.length_take, List.length_drop, hl]; omega⟩
theorem cpy_ok {t t' el : TypeId} {x y : Operand} {sx sy : X} {base sz : Nat} {i : TypeInfo} (ho : o.op = .call { callee := .builtin .copy, args := #[x, y], argTypes := #[t, t'] })
  (hx : chkX M.fm x sx = true) (hy : chkX M.fm y sy = true) (hu0 : elemOf? P t = some el) (hi : P.info? el = some i) (hsz : i.size = sz) (ht : RelT M w e a n) (hr : HRel M w H)
  (hv : ev1 base e H (.cpy sz sx sy) = some (v, H1)) : OpOk P o a M H w v H1 := by
 have hx' := chkX_enc hx ht
 have hy' := chkX_enc hy ht
 have hu := elemOf?_some hu0
 simp only [ev1] at hv
 split at hv
 case h_2 => cases hv
 rename_i id off m sz' hp
 split at hv
 case h_2 => cases hv
 rename_i cs ds hb hrow
 split at hv
 case isFalse => cases hv
 rename_i hc
 obtain ⟨hle, hz⟩ := hc
 cases hv
 rw [hp] at hx'
 simp only [Enc] at hx'
 obtain ⟨_, cap, hxe, hcap⟩ := hx'
 obtain ⟨k, hk⟩ : ∃ k, k = min (ds.length / sz) m := ⟨_, rfl⟩
 rw [← hk]
 have hkm : k ≤ m := by rw [hk]; exact Nat.min_le_right _ _
 obtain ⟨hlen, hsd, xs, hfc, hxs, hxl⟩ := cpy_src (P := P) hr hz hy' hrow k (by rw [hk]; exact Nat.min_le_left _ _)
 have hb' := hr.rel id _ hb
 simp only [BRel] at hb'
 obtain ⟨hs, _, cur, te, hh, he⟩ := hb'
 have hcl := encL_length he
 have hkk : k * sz ≤ m * sz := Nat.mul_le_mul_right _ hkm
 have hdsl := encL_length hxs
 have hone := encL_one hxs (fun c hc => hsd c (List.mem_of_mem_take hc))
 have hcl1 : cs.length ≤ cur.toList.length := by rw [List.length_take] at hcl; omega
 have hcl2 : cs.length ≤ cur.size := by simpa using hcl1
 have hst := run_storeCells_at P (M.j id) off te xs 0 cur w hh (by rw [hxl]; omega) hone
 simp only [Nat.add_zero] at hst
 obtain ⟨s, ii, r⟩ := stp_set (ds := cs.take off ++ ds.take (k * sz) ++ cs.drop (off + k * sz)) hr hb hh (ys := (cur.toList.take off ++ xs ++ cur.toList.drop (off + xs.length)).toArray)
  (by
   rw [show (cs.take off ++ ds.take (k * sz) ++ cs.drop (off + k * sz)).length = cs.length by simp only [List.length_append, List.length_take, List.length_drop] at hdsl ⊢; omega]
   simp only []
   rw [pre_splice hcl1 (by rw [hxl]; omega)]
   refine encL_append (encL_append (encL_take he off) hxs) ?_
   rw [hxl]
   exact encL_drop he _)
  (fun c hc => by
   simp only [List.mem_append] at hc
   rcases hc with (hc | hc) | hc
   ·exact hs c (List.mem_of_mem_take hc)
   ·exact hsd c (List.mem_of_mem_take hc)
   ·exact hs c (List.mem_of_mem_drop hc))
 refine ⟨.value (.int .i64 k), _, _, ?_, by simp only [Enc], s, ii, r⟩
 have hmin : Nat.min (ds.length / sz) m = k := hk.symm
 simp [execOp, ho, resolve, invoke, builtin, hxe, Builtin.copy_, run_underlying hu, hlen, hmin, sizeOf, typeInfo, hi, hsz, hfc, hst, goInt]
end Go.Ev
