/- The checker of one operation, and its soundness. -/
import Derived.Test.YtdomogpjchpbnaaEvC
import Derived.Deep.MidRow
import Derived.Deep.AppendSrc
import Derived.Deep.Upon
namespace Go.Ev
open Go Go.RowKit

variable {P : Program} {M M' : Mm} {H H1 : Heap} {w w' : World}

/-- A constant, and its canonical value. -/
def encS : Value → V → Bool
  | .int k n, .int k' n' => k == k' && n == n'
  | .bool b, .bool b' => b == b'
  | .string s, .str s' => decide (s.data.toList = s')
  | .pointer none, .nilp => true
  | .slice none 0 0, .vs [] .full => true
  | .nilFunc, .nilf => true
  | .map none, .nilm => true
  | _, _ => false
def encSs : List Value → List V → Bool
  | [], [] => true
  | x :: xs, c :: cs => encS x c && encSs xs cs
  | _, _ => false
def encK : Value → V → Bool
  | .agg xs, .agg cs => encSs xs.toList cs
  | x, c => encS x c

theorem encS_enc {x : Value} {c : V} (h : encS x c = true) : Enc M w c x := by
  unfold encS at h
  split at h <;> (try simp only [Bool.false_eq_true, Bool.and_eq_true, beq_iff_eq, decide_eq_true_eq] at h)
  · obtain ⟨rfl, rfl⟩ := h; simp only [Enc]
  · subst h; simp only [Enc]
  · subst h; simp only [Enc]
  · simp only [Enc]
  · simp only [Enc]; exact ⟨by simp, none, 0, rfl, Nat.le_refl _, by simp, by simp [TkOk]⟩
  · simp only [Enc]
  · simp only [Enc]
theorem encS_pure {x : Value} {c : V} (h : encS x c = true) : c.pure = true := by
  unfold encS at h
  split at h <;> first | rfl | simp at h
theorem encSs_encL : ∀ {xs : List Value} {cs : List V}, encSs xs cs = true → EncL M w cs xs
  | [], [], _ => by simp only [EncL]
  | [], _ :: _, h => by simp [encSs] at h
  | _ :: _, [], h => by simp [encSs] at h
  | x :: xs, c :: cs, h => by
    simp only [encSs, Bool.and_eq_true] at h
    simp only [EncL]
    exact ⟨x, xs, rfl, encS_enc h.1, encSs_encL h.2⟩
theorem encSs_pure : ∀ {xs : List Value} {cs : List V}, encSs xs cs = true → ∀ c ∈ cs, c.pure = true
  | [], [], _ => by simp
  | [], _ :: _, h => by simp [encSs] at h
  | _ :: _, [], h => by simp [encSs] at h
  | x :: xs, c :: cs, h => by
    simp only [encSs, Bool.and_eq_true] at h
    intro d hd
    simp only [List.mem_cons] at hd
    rcases hd with rfl | hd
    · exact encS_pure h.1
    · exact encSs_pure h.2 d hd
theorem encK_enc {x : Value} {c : V} (h : encK x c = true) : Enc M w c x := by
  unfold encK at h
  split at h
  · rename_i xs cs
    simp only [Enc]
    exact ⟨fun c hc => V.scal_of_pure (encSs_pure h c hc), xs.toList, by simp, encSs_encL h⟩
  · exact encS_enc h

theorem eqc_true {a b : V} (h : a.eqc b = some true) : a = b := by
  cases a <;> cases b <;> simp only [V.eqc, reduceCtorEq, Option.some.injEq] at h
  · split at h
    · rename_i hk; subst hk; simp at h; subst h; rfl
    · cases h
  · simp at h; subst h; rfl
  · simp at h; subst h; rfl
theorem eqcs_true : ∀ {as bs : List V}, eqcs as bs = some true → as = bs
  | [], [], _ => rfl
  | [], _ :: _, h => by simp [eqcs] at h
  | _ :: _, [], h => by simp [eqcs] at h
  | a :: as, b :: bs, h => by
    simp only [eqcs] at h
    split at h
    · rename_i x y hx hy
      simp only [Option.some.injEq, Bool.and_eq_true] at h
      obtain ⟨rfl, rfl⟩ := h
      rw [eqc_true hx, eqcs_true hy]
    · cases h

def chkX (fm : Fm) : Operand → X → Bool
  | .tmp t, .t i => t == i
  | .const v, .c c => encK v c
  | .func f, .c (.fn f' []) => f == fm f'
  | .global g, .c (.cptr cs) => match fm.gl g with | some ds => eqcs ds cs == some true | none => false
  | _, _ => false

/-- Temporaries. -/
structure RelT (M : Mm) (w : World) (e : Env) (a : Act) (n : Nat) : Prop where
  size : a.tmps.size = n
  defers : a.defers = []
  rel : ∀ i, Enc M w (e i) (a.tmps.getD i undef)
  glo : GOk M w

theorem chkX_enc {e : Env} {a : Act} {n : Nat} {o : Operand} {x : X} (h : chkX M.fm o x = true) (ht : RelT M w e a n) : Enc M w (x.ev e) (a.eval o) := by
  unfold chkX at h
  split at h <;> (try simp only [beq_iff_eq, Bool.false_eq_true] at h)
  · subst h; exact ht.rel _
  · exact encK_enc h
  · subst h; simp only [X.ev, Enc, Act.eval]; exact ⟨[], rfl, by simp only [EncL]⟩
  · split at h
    · rename_i ds hd
      have := eqcs_true (by simpa using h)
      subst this
      exact ht.glo _ _ hd
    · cases h

def chkXs (fm : Fm) : List Operand → List X → Bool
  | [], [] => true
  | o :: os, x :: xs => chkX fm o x && chkXs fm os xs
  | _, _ => false
theorem chkXs_encL {e : Env} {a : Act} {n : Nat} : ∀ {os : List Operand} {xs : List X}, chkXs M.fm os xs = true → RelT M w e a n → EncL M w (xs.map (X.ev e)) (os.map a.eval)
  | [], [], _, _ => by simp only [List.map_nil, EncL]
  | [], _ :: _, h, _ => by simp [chkXs] at h
  | _ :: _, [], h, _ => by simp [chkXs] at h
  | o :: os, x :: xs, h, ht => by
    simp only [chkXs, Bool.and_eq_true] at h
    simp only [List.map_cons, EncL]
    exact ⟨_, _, rfl, chkX_enc h.1 ht, chkXs_encL h.2 ht⟩
def chkXo (fm : Fm) : Option Operand → Option X → Bool
  | none, none => true
  | some o, some x => chkX fm o x
  | _, _ => false

/-- A type's cells; whether its values are aggregates. -/
def tyOk (P : Program) (t : TypeId) (sz : Nat) (ag : Bool) : Bool :=
  match P.underlying t, P.info? t with
  | some d, some i => i.size == sz && (if d.isRow then ag else !ag && sz == 1)
  | _, _ => false

theorem enc_cells {c : V} {x : Value} {cs : List V} (h : Enc M w c x) (hc : c.cells? = some cs) : EncL M w cs x.cells.toList ∧ ∀ d ∈ cs, d.scal = true := by
  cases c <;> simp only [V.cells?, Option.some.injEq, reduceCtorEq] at hc <;> subst hc
  case agg cs => simp only [Enc] at h; obtain ⟨p, xs, rfl, h⟩ := h; exact ⟨by simpa [Value.cells] using h, p⟩
  all_goals
    have h1 := enc_one h rfl
    refine ⟨?_, by simp [V.scal]⟩
    have : x.cells = #[x] := by cases x <;> simp_all [Value.cells, Value.oneCell']
    rw [this]
    simp only [EncL]
    exact ⟨x, [], rfl, h, rfl⟩

/-- What an operation that is no call leaves. -/
def OpOk (P : Program) (o : Oper) (a : Act) (M : Mm) (H : Heap) (w : World) (v : V) (H1 : Heap) : Prop :=
  ∃ n w' M', (execOp a.eval o).run P w = .ok n w' ∧ (match n with | .value rv => Enc M' w' v rv | .skip => v = .undef | _ => False) ∧
    Stp M H w M' H1 w' ∧ Ids M M' H.length ∧ HRel M' w' H1

theorem OpOk.plain {o : Oper} {a : Act} {v : V} {rv : Value} (hr : HRel M w H) (h : (execOp a.eval o).run P w = .ok (.value rv) w) (he : Enc M w v rv) : OpOk P o a M H w v H :=
  ⟨_, w, M, h, he, Stp.refl M H w, Ids.refl _ _, hr⟩

section
variable {e : Env} {a : Act} {n : Nat} {o : Oper} {v : V}

theorem mv_ok {x : Operand} {sx : X} (ho : o.op = .move x ∨ o.op = .assign x) (hx : chkX M.fm x sx = true) (ht : RelT M w e a n) (hr : HRel M w H) : OpOk P o a M H w (sx.ev e) H := by
  refine .plain (rv := a.eval x) hr ?_ (chkX_enc hx ht)
  rcases ho with ho | ho <;> simp [execOp, ho]

theorem pick_ok {c x y : Operand} {sc sx sy : X} (ho : o.op = .pick c x y) (hc : chkX M.fm c sc = true) (hx : chkX M.fm x sx = true) (hy : chkX M.fm y sy = true) (ht : RelT M w e a n) (hr : HRel M w H)
    {b : Bool} (hb : sc.ev e = .bool b) : OpOk P o a M H w (if b then sx.ev e else sy.ev e) H := by
  have h := chkX_enc hc ht
  rw [hb] at h
  simp only [Enc] at h
  refine .plain (rv := if b then a.eval x else a.eval y) hr ?_ (by cases b <;> simp [chkX_enc hx ht, chkX_enc hy ht])
  cases b <;> simp [execOp, ho, h, asBool]

theorem box_ok {t : TypeId} {x : Operand} {sx : X} {id : Nat} {cs : List V} (ho : o.op = .box t x) (hx : chkX M.fm x sx = true) (ht : RelT M w e a n) (hr : HRel M w H)
    (hc : (sx.ev e).cells? = some cs) (hf : isFree H id = true) : OpOk P o a M H w (.ptr id 0) (H.set id (some (.cells cs))) := by
  obtain ⟨h1, h2⟩ := enc_cells (chkX_enc hx ht) hc
  obtain ⟨s, i, r⟩ := stp_alc (t := t) hr hf h1 h2
  refine ⟨.value (.pointer (some ⟨w.heap.size, 0, none⟩)), _, _, ?_, ?_, s, i, r⟩
  · simp [execOp, ho, Instr.box, newVar, newRow]
  · simp only [Enc, Mm.alc, decide_true, Bool.true_or, if_true, true_and]

theorem alloc_ok {t : TypeId} {id : Nat} {z : List V} {i : TypeInfo} {zv : Value} (ho : o.op = .alloc t) (hi : P.info? t = some i) (hz : i.zero = some zv) (hzz : encSs zv.cells.toList z = true)
    (hr : HRel M w H) (hf : isFree H id = true) : OpOk P o a M H w (.ptr id 0) (H.set id (some (.cells z))) := by
  obtain ⟨s, ii, r⟩ := stp_alc (t := t) (xs := zv.cells) hr hf (encSs_encL (M := M) (w := w) hzz) (fun c hc => V.scal_of_pure (encSs_pure hzz c hc))
  refine ⟨.value (.pointer (some ⟨w.heap.size, 0, none⟩)), _, _, ?_, ?_, s, ii, r⟩
  · simp [execOp, ho, Instr.alloc, zeroValue, typeInfo, hi, hz, newVar, newRow]
  · simp only [Enc, Mm.alc, decide_true, Bool.true_or, if_true, true_and]

/-- What a load makes of cells. -/
def mkR (ag : Bool) (xs : List Value) : Value := if ag then .agg xs.toArray else xs.headD undef

theorem mk_enc {ag : Bool} {cs : List V} {xs : List Value} (hm : mk ag cs = some v) (he : EncL M w cs xs) (hs : ∀ c ∈ cs, c.scal = true) : Enc M w v (mkR ag xs) := by
  unfold mk at hm
  cases ag with
  | true => simp only [if_true, Option.some.injEq] at hm; subst hm; simp only [Enc, mkR, if_true]; exact ⟨hs, xs, rfl, he⟩
  | false =>
    simp only [Bool.false_eq_true, if_false] at hm
    split at hm
    · simp only [Option.some.injEq] at hm
      subst hm
      simp only [EncL] at he
      obtain ⟨x, xs', rfl, h, rfl⟩ := he
      simpa [mkR] using h
    · cases hm

theorem run_load_mk {t : TypeId} {sz : Nat} {ag : Bool} {b off : Nat} {xs : List Value} (hty : tyOk P t sz ag = true) (hl : xs.length = sz) (hc : w.rangeAt b off xs) :
    (Instr.loadAt t (.pointer (some ⟨b, off, none⟩))).run P w = .ok (mkR ag xs) w := by
  unfold tyOk at hty
  split at hty
  · rename_i d i hu hi
    simp only [Bool.and_eq_true, beq_iff_eq] at hty
    obtain ⟨hsz, hty⟩ := hty
    by_cases hd : d.isRow = true
    · rw [if_pos hd] at hty
      subst hty
      simp only [mkR, if_true]
      exact run_loadAt_mid w b off t xs d hc hu hd (by rw [hi]; simp [hsz, hl])
    · rw [if_neg hd] at hty
      simp only [Bool.and_eq_true, Bool.not_eq_true', beq_iff_eq] at hty
      obtain ⟨rfl, rfl⟩ := hty
      match xs, hl, hc with
      | [x], _, hc =>
        have hx := hc 0 x rfl
        simp only [Nat.add_zero] at hx
        have hagg : (isAgg t).run P w = .ok false w := by
          unfold isAgg
          rw [Sem.run_bind, run_underlying hu w]
          cases d <;> simp_all [TypeDesc.isRow]
        simp [Instr.loadAt, Instr.sureAddr, loadVar, hagg, mkR, load, Sem.run, hx]
  · cases hty

theorem encRow_range {b off : Nat} {cs : List V} (h : EncRow M w b cs off) : ∃ xs : List Value, EncL M w cs xs ∧ w.rangeAt b off xs := by
  induction cs generalizing off with
  | nil => exact ⟨[], by simp only [EncL], fun j v hv => by simp at hv⟩
  | cons c cs ih =>
    simp only [EncRow] at h
    obtain ⟨⟨x, hx, _, he⟩, h⟩ := h
    obtain ⟨xs, h1, h2⟩ := ih h
    refine ⟨x :: xs, by simp only [EncL]; exact ⟨x, xs, rfl, he, h1⟩, fun j v hv => ?_⟩
    cases j with
    | zero => simp at hv; subst hv; simpa using hx
    | succ j => simp at hv; have := h2 j v hv; rw [show off + 1 + j = off + (j + 1) by omega] at this; exact this

theorem encRow_take {b off k : Nat} {cs : List V} (h : EncRow M w b cs off) : EncRow M w b (cs.take k) off := by
  refine encRow_of fun i c hc => ?_
  rw [List.getElem?_take] at hc
  split at hc
  · exact encRow_get h hc
  · cases hc
theorem encRow_drop {b off k : Nat} {cs : List V} (h : EncRow M w b cs off) : EncRow M w b (cs.drop k) (off + k) := by
  refine encRow_of fun i c hc => ?_
  rw [List.getElem?_drop] at hc
  have := encRow_get h hc
  rw [show off + (k + i) = off + k + i by omega] at this
  exact this

theorem load_ok {t : TypeId} {x : Operand} {sx : X} {base sz : Nat} {ag old : Bool} (ho : o.op = .load t x) (hx : chkX M.fm x sx = true) (hty : tyOk P t sz ag = true) (ht : RelT M w e a n) (hr : HRel M w H)
    (hv : ev1 base e H (.load sz ag old sx) = some (v, H1)) : OpOk P o a M H w v H1 := by
  have hx' := chkX_enc hx ht
  simp only [ev1] at hv
  split at hv
  · rename_i id off hp
    split at hv
    · cases hv
    · split at hv
      · rename_i cs hb
        split at hv
        · rename_i hle
          rw [Option.map_eq_some_iff] at hv
          obtain ⟨v', hm, hv⟩ := hv
          cases hv
          rw [hp] at hx'
          simp only [Enc] at hx'
          have hb' := hr.rel id _ hb
          simp only [BRel] at hb'
          obtain ⟨hs, _, xs, te, hh, he⟩ := hb'
          have hlen := encL_length he
          refine .plain (rv := mkR ag ((xs.toList.drop off).take sz)) hr ?_ (mk_enc hm (encL_take (encL_drop he off) sz) (fun c hc => hs c (List.mem_of_mem_drop (List.mem_of_mem_take hc))))
          have := run_load_mk (P := P) (w := w) (b := M.j id) (off := off) (xs := (xs.toList.drop off).take sz) hty (by simp at hlen ⊢; omega) (fun j u hu => by
            rw [List.getElem?_take] at hu
            split at hu
            · rw [List.getElem?_drop] at hu
              rw [cell_of_row w (M.j id) (off + j) xs te (0, 0) hh]
              simpa using hu
            · cases hu)
          simp [execOp, ho, hx'.2, this]
        · cases hv
      · cases hv
  · rename_i cs hp
    split at hv
    · rename_i hle
      rw [Option.map_eq_some_iff] at hv
      obtain ⟨v', hm, hv⟩ := hv
      cases hv
      rw [hp] at hx'
      simp only [Enc] at hx'
      obtain ⟨hpu, b, off, hxe, hrow⟩ := hx'
      obtain ⟨xs, h1, h2⟩ := encRow_range (encRow_take (k := sz) hrow)
      refine .plain (rv := mkR ag xs) hr ?_ (mk_enc hm h1 (fun c hc => V.scal_of_pure (hpu c (List.mem_of_mem_take hc))))
      have := run_load_mk (P := P) (w := w) hty (by rw [encL_length h1]; simp; omega) h2
      simp [execOp, ho, hxe, this]
    · cases hv
  · cases hv

theorem store_ok {t : TypeId} {x y : Operand} {sx sy : X} {base sz : Nat} (ho : o.op = .store t x y) (hx : chkX M.fm x sx = true) (hy : chkX M.fm y sy = true) (hi : (P.info? t).map (·.size) = some sz)
    (ht : RelT M w e a n) (hr : HRel M w H) (hv : ev1 base e H (.store sz sx sy) = some (v, H1)) : OpOk P o a M H w v H1 := by
  have hx' := chkX_enc hx ht
  simp only [ev1] at hv
  split at hv
  · rename_i id off ds hp hds
    split at hv
    · rename_i cs hb
      split at hv
      · rename_i hle
        cases hv
        rw [hp] at hx'
        simp only [Enc] at hx'
        have hb' := hr.rel id _ hb
        simp only [BRel] at hb'
        obtain ⟨hs, _, xs, te, hh, he⟩ := hb'
        have hlen := encL_length he
        obtain ⟨hd, hds'⟩ := enc_cells (chkX_enc hy ht) hds
        have hdl := encL_length hd
        have hone : ∀ u ∈ (a.eval y).cells.toList, u.oneCell' = true := by
          intro u hu
          obtain ⟨i, hi⟩ := List.getElem?_of_mem hu
          have hil : i < ds.length := by rw [← hdl]; exact (List.getElem?_eq_some_iff.1 hi).1
          obtain ⟨x', hx1, hx2⟩ := encL_get hd (List.getElem?_eq_getElem hil)
          rw [hi] at hx1; cases hx1
          exact enc_one hx2 (hds' _ (List.getElem_mem hil))
        have hst := run_storeCells_at P (M.j id) off te (a.eval y).cells.toList 0 xs w hh (by rw [hdl]; simp at hlen; omega) hone
        simp only [Nat.add_zero] at hst
        obtain ⟨s, ii, r⟩ := stp_set (ds := cs.take off ++ ds ++ cs.drop (off + sz)) hr hb hh (ys := (xs.toList.take off ++ (a.eval y).cells.toList ++ xs.toList.drop (off + (a.eval y).cells.toList.length)).toArray)
          (by
            simp only []
            refine encL_append (encL_append (encL_take he off) hd) ?_
            rw [hdl, hle.1]
            exact encL_drop he _)
          (fun c hc => by
            simp only [List.mem_append] at hc
            rcases hc with (hc | hc) | hc
            · exact hs c (List.mem_of_mem_take hc)
            · exact hds' c hc
            · exact hs c (List.mem_of_mem_drop hc))
        refine ⟨.skip, _, _, ?_, rfl, s, ii, r⟩
        have hsz : (a.eval y).cells.size = sz := by rw [← Array.length_toList, hdl, hle.1]
        cases hq : P.info? t with
        | none => simp [hq] at hi
        | some i =>
          have hs' : i.size = sz := by simpa [hq] using hi
          have hvar : (storeVar t ⟨M.j id, off, none⟩ (a.eval y)).run P w = (storeCells ⟨M.j id, off, none⟩ (a.eval y).cells.toList 0).run P w := by
            simp [storeVar, sizeOf, typeInfo, hq, hs', hsz]
          simp only [execOp, ho, Instr.storeAt, hx'.2, Instr.sureAddr, Sem.run_bind, Sem.run_pure, Result.andThen_ok, hvar, hst]
      · cases hv
    · cases hv
  · cases hv

end
end Go.Ev
