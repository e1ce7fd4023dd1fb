/- One checked operation is sound; regions in the text's order. -/
import Derived.Test.YtdomogpjchpbnaaEvI
namespace Go.Ev
open Go Go.RowKit

variable {P : Program} {M M' : Mm} {H H1 : Heap} {w w' : World} {fm : Fm}

mutual
/-- Where no number is in use, only the limits and the functions' numbers matter. -/
theorem Enc.free {M1 M2 : Mm} (ha : ∀ id, M1.al id = false) (hl : ∀ b o, Rd M1 b o → Rd M2 b o) (hf : M2.fm = M1.fm) : ∀ {c : V} {x : Value}, Enc M1 w c x → Enc M2 w c x
  | .undef, _, _ => by simp only [Enc]
  | .skp, _, e => by simpa only [Enc] using e
  | .any, _, e => by simpa only [Enc] using e
  | .int _ _, _, e => by simpa only [Enc] using e
  | .bool _, _, e => by simpa only [Enc] using e
  | .str _, _, e => by simpa only [Enc] using e
  | .nilp, _, e => by simpa only [Enc] using e
  | .nilf, _, e => by simpa only [Enc] using e
  | .nilm, _, e => by simpa only [Enc] using e
  | .mp id, _, e => by simp only [Enc, ha] at e; exact absurd e.1 (by simp)
  | .ptr id off, _, e => by simp only [Enc, ha] at e; exact absurd e.1 (by simp)
  | .rs id off k _, _, e => by simp only [Enc, ha] at e; exact absurd e.1 (by simp)
  | .cptr cs, _, e => by
    simp only [Enc] at e ⊢
    obtain ⟨p, b, o, hv, e⟩ := e
    exact ⟨p, b, o, hv, EncRow.free ha hl hf e⟩
  | .vs es tk, _, e => by
    simp only [Enc] at e ⊢
    obtain ⟨p, a, cap, hv, hc, hs, ht⟩ := e
    refine ⟨p, a, cap, hv, hc, ?_, ?_⟩
    · cases a with
      | none => exact hs
      | some ad => exact ⟨hs.1, hs.2.1, EncRows.free ha hl hf hs.2.2⟩
    · cases tk with
      | no => trivial
      | full => exact ht
      | own q => simp only [TkOk, ha] at ht; exact absurd ht.1 (by simp)
  | .fn f cap, _, e => by
    simp only [Enc] at e ⊢
    obtain ⟨xs, hv, e⟩ := e
    exact ⟨xs, by rw [hf]; exact hv, EncL.free ha hl hf e⟩
  | .agg cs, _, e => by
    simp only [Enc] at e ⊢
    obtain ⟨p, xs, hv, e⟩ := e
    exact ⟨p, xs, hv, EncL.free ha hl hf e⟩
  | .tup cs, _, e => by
    simp only [Enc] at e ⊢
    obtain ⟨xs, hv, e⟩ := e
    exact ⟨xs, hv, EncL.free ha hl hf e⟩
theorem EncL.free {M1 M2 : Mm} (ha : ∀ id, M1.al id = false) (hl : ∀ b o, Rd M1 b o → Rd M2 b o) (hf : M2.fm = M1.fm) : ∀ {cs : List V} {xs : List Value}, EncL M1 w cs xs → EncL M2 w cs xs
  | [], _, e => by simpa only [EncL] using e
  | c :: cs, _, e => by
    simp only [EncL] at e ⊢
    obtain ⟨x, xs', hv, e1, e2⟩ := e
    exact ⟨x, xs', hv, Enc.free ha hl hf e1, EncL.free ha hl hf e2⟩
theorem EncRow.free {M1 M2 : Mm} (ha : ∀ id, M1.al id = false) (hl : ∀ b o, Rd M1 b o → Rd M2 b o) (hf : M2.fm = M1.fm) {b : Nat} : ∀ {cs : List V} {o : Nat}, EncRow M1 w b cs o → EncRow M2 w b cs o
  | [], _, _ => by simp only [EncRow]
  | c :: cs, o, e => by
    simp only [EncRow] at e ⊢
    obtain ⟨⟨x, hx, rd, e1⟩, e2⟩ := e
    exact ⟨⟨x, hx, hl _ _ rd, Enc.free ha hl hf e1⟩, EncRow.free ha hl hf e2⟩
theorem EncRows.free {M1 M2 : Mm} (ha : ∀ id, M1.al id = false) (hl : ∀ b o, Rd M1 b o → Rd M2 b o) (hf : M2.fm = M1.fm) {b : Nat} : ∀ {es : List (List V)} {o : Nat}, EncRows M1 w b es o → EncRows M2 w b es o
  | [], _, _ => by simp only [EncRows]
  | e :: es, o, k => by
    simp only [EncRows] at k ⊢
    exact ⟨EncRow.free ha hl hf k.1, EncRows.free ha hl hf k.2⟩
end

theorem upto_zero (M : Mm) (id : Nat) : (M.upto 0).al id = false := by simp [Mm.upto]
theorem trunc_zero (H : Heap) : trunc 0 H = [] := by simp [trunc]

theorem run_call {o : Oper} {a : Act} {f : FuncId} {args : Array Operand} {ts : Array TypeId} {fo : Operand} {caps : Array Value} (ho : o.op = .call { callee := .value fo, args := args, argTypes := ts })
    (hf : a.eval fo = .func (.func f) #[] caps) (hF : ∃ F, P.funcs[f]? = some F ∧ F.body.isSome = true ∧ F.name ≠ "runtime.NumGoroutine") :
    (execOp a.eval o).run P w = .ok (.enter f (args.map a.eval ++ caps)) w := by
  obtain ⟨F, h1, h2, h3⟩ := hF
  cases hb : F.body with
  | none => rw [hb] at h2; cases h2
  | some c => simp [execOp, ho, resolve, hf, Deferred.ofValue, invoke, callFunc, h1, h3, hb]

/-- Plain values mean the same whatever numbers are in use. -/
theorem Enc.pure' {M1 M2 : Mm} (hl : ∀ b o, Rd M1 b o → Rd M2 b o) (hf : M2.fm = M1.fm) {c : V} {x : Value} (hp : c.pure = true) (h : Enc M1 w c x) : Enc M2 w c x := by
  have := Enc.free (M1 := M1.upto 0) (M2 := M2) (fun id => upto_zero M1 id) hl hf (Enc.upto 0 h)
  rwa [V.cl_pure 0 c hp] at this

theorem chunks_flat {sz : Nat} : ∀ {k : Nat} {cs : List V}, k * sz ≤ cs.length → (chunks sz k cs).flatten = cs.take (k * sz) ∧ (chunks sz k cs).length = k ∧ ∀ e ∈ chunks sz k cs, e.length = sz ∧ ∀ c ∈ e, c ∈ cs
  | 0, cs, _ => by simp [chunks]
  | k + 1, cs, h => by
    rw [Nat.add_mul, Nat.one_mul] at h
    obtain ⟨h1, h2, h3⟩ := chunks_flat (sz := sz) (k := k) (cs := cs.drop sz) (by rw [List.length_drop]; omega)
    refine ⟨?_, by simp [chunks, h2], ?_⟩
    · simp only [chunks, List.flatten_cons, h1]
      rw [Nat.add_mul, Nat.one_mul, Nat.add_comm, List.take_add]
    · intro e he
      simp only [chunks, List.mem_cons] at he
      rcases he with rfl | he
      · exact ⟨by rw [List.length_take]; omega, fun c hc => List.mem_of_mem_take hc⟩
      · exact ⟨(h3 e he).1, fun c hc => List.mem_of_mem_drop ((h3 e he).2 c hc)⟩

/-- A slice of a block, seen as one that stays. -/
theorem Enc.nf1 {c : V} {x : Value} (h : Enc M w c x) : Enc M w c.nf1 x := by
  cases c <;> first | exact h | skip
  simp only [V.nf1, Enc] at h ⊢
  obtain ⟨p, a, cap, hv, hc, hs, _⟩ := h
  exact ⟨p, a, cap, hv, hc, hs, trivial⟩
theorem EncL.map_of {g : V → V} (hg : ∀ {c : V} {x : Value}, Enc M w c x → Enc M w (g c) x) : ∀ {cs : List V} {xs : List Value}, EncL M w cs xs → EncL M w (cs.map g) xs
  | [], _, h => by simpa only [EncL, List.map_nil] using h
  | c :: cs, _, h => by
    simp only [EncL, List.map_cons] at h ⊢
    obtain ⟨x, xs', rfl, h1, h2⟩ := h
    exact ⟨x, xs', rfl, hg h1, EncL.map_of hg h2⟩
theorem V.nf1_scal (c : V) : c.nf1.scal = c.scal := by cases c <;> rfl
theorem Enc.nf2 {c : V} {x : Value} (h : Enc M w c x) : Enc M w c.nf2 x := by
  cases c <;> first | exact h | exact Enc.nf1 h | skip
  simp only [V.nf2, Enc] at h ⊢
  obtain ⟨p, xs, hv, he⟩ := h
  refine ⟨?_, xs, hv, EncL.map_of Enc.nf1 he⟩
  intro c hc
  obtain ⟨d, hd, rfl⟩ := List.mem_map.1 hc
  rw [V.nf1_scal]; exact p d hd
theorem Enc.nf {c : V} {x : Value} (h : Enc M w c x) : Enc M w c.nf x := by
  cases c <;> first | exact Enc.nf2 h | skip
  simp only [V.nf, Enc] at h ⊢
  obtain ⟨xs, hv, he⟩ := h
  exact ⟨xs, hv, EncL.map_of Enc.nf2 he⟩
theorem encL_out {cs : List V} {xs : List Value} (h : EncL M w (clL 0 cs) xs) : EncL M w (outL cs) xs := by
  rw [clL_eq_map] at h
  have := EncL.map_of Enc.nf h
  rw [List.map_map] at this
  exact this

theorem frz1_enc {H' : Heap} {M2 : Mm} {r : V} {rv : Value} (he : Enc M' w' r rv) (hr : HRel M' w' H') (hl : ∀ b o, Rd M' b o → Rd M2 b o) (hn : ∀ b, Owned M' H' b → ∀ o, Rd M2 b o) (hf : M2.fm = M'.fm) : Enc M2 w' ((frz1 H' r).cl 0) rv := by
  have plain : Enc M2 w' (r.cl 0) rv := Enc.free (M1 := M'.upto 0) (fun id => upto_zero M' id) hl hf (Enc.upto 0 he)
  cases r <;> simp only [frz1] <;> try exact plain
  rename_i id off n sz
  cases hb : H'[id]? with
  | none => exact plain
  | some ob => cases ob with
    | none => exact plain
    | some blk => cases blk with
      | zone k => exact plain
      | froz k => exact plain
      | map k => exact plain
      | siter k q => exact plain
      | cells cs =>
        simp only
        by_cases hc : off + n * sz ≤ cs.length ∧ cs.all V.pure = true
        · rw [if_pos hc]
          obtain ⟨hle, hpu⟩ := hc
          have hpu := List.all_eq_true.1 hpu
          simp only [Enc] at he
          obtain ⟨ha, cap, rfl, hcap⟩ := he
          have hb' := hr.rel id _ hb
          simp only [BRel] at hb'
          obtain ⟨_, _, xs, te, hh, hE⟩ := hb'
          obtain ⟨h1, h2, h3⟩ := chunks_flat (sz := sz) (k := n) (cs := cs.drop off) (by rw [List.length_drop]; omega)
          have hown : Owned M' H' (M'.j id) := ⟨id, by simp [blOf, hb]⟩
          simp only [V.cl, Tk.cl, Enc]
          refine ⟨fun e he c hc => hpu c (List.mem_of_mem_drop ((h3 e he).2 c hc)), some ⟨M'.j id, off, none⟩, cap, by rw [h2], by rw [h2]; exact hcap, ⟨.inr rfl, ⟨sz, fun e he => (h3 e he).1⟩, ?_⟩, trivial⟩
          rw [encRows_iff, h1]
          refine encRow_of fun i c hc => ?_
          rw [List.getElem?_take] at hc
          split at hc
          · rw [List.getElem?_drop] at hc
            obtain ⟨x, hx, hex⟩ := encL_get hE hc
            refine ⟨x, ?_, hn _ hown _, Enc.pure' hl hf (hpu c (List.mem_of_getElem? hc)) hex⟩
            rw [cell_of_row w' (M'.j id) (off + i) xs te (0, 0) hh]
            simpa using hx
          · cases hc
        · rw [if_neg hc]; exact plain

theorem frz_enc {H' : Heap} {M2 : Mm} {r : V} {rv : Value} (he : Enc M' w' r rv) (hr : HRel M' w' H') (hl : ∀ b o, Rd M' b o → Rd M2 b o) (hn : ∀ b, Owned M' H' b → ∀ o, Rd M2 b o) (hf : M2.fm = M'.fm) : Enc M2 w' ((frz H' r).cl 0) rv := by
  cases r <;> simp only [frz] <;> try exact frz1_enc he hr hl hn hf
  rename_i vs
  simp only [Enc] at he
  obtain ⟨xs, rfl, he⟩ := he
  simp only [V.cl, Enc]
  refine ⟨xs, rfl, ?_⟩
  rw [clL_eq_map, List.map_map]
  refine encL_of (by have := encL_length he; simpa using this) fun i c x hc hx => ?_
  rw [List.getElem?_map, Option.map_eq_some_iff] at hc
  obtain ⟨u, hu, rfl⟩ := hc
  obtain ⟨x', hx', he'⟩ := encL_get he hu
  rw [hx] at hx'; cases hx'
  exact frz1_enc he' hr hl hn hf

/-- A call of nothing but plain values leaves what the caller has as it was. -/
theorem pure_back (hr : HRel M w H) {H' : Heap} {r : V} {rv : Value} (he : Enc M' w' r rv) (hs : Stp (M.upto 0) [] w M' H' w') (hr' : HRel M' w' H') :
    ∃ M'', Stp M H w M'' H w' ∧ Ids M M'' H.length ∧ HRel M'' w' H ∧ Enc M'' w' (frz H' r).out rv := by
  have hno : ∀ b, ¬ Owned (M.upto 0) [] b := by
    rintro b ⟨id, hid⟩
    simp [blOf] at hid
  have g : Grew w w' := ⟨hs.os, hs.tape, hs.output, hs.size, fun b hb => hs.same b hb (hno b)⟩
  obtain ⟨s, i, r'⟩ := stp_same (M' := { M with lim := fun b => if b < w.heap.size then M.lim b else none }) hr g ⟨rfl, rfl, rfl, rfl, fun b hb => by simp [hb]⟩
  refine ⟨_, s, i, r', ?_⟩
  refine Enc.nf (frz_enc (M2 := { M with lim := fun b => if b < w.heap.size then M.lim b else none }) he hr' (fun b o rd l hl => ?_) (fun b ho o l hl => ?_) hs.fm.symm)
  · simp only at hl
    split at hl
    · rename_i hb
      exact rd l (by rw [hs.limo b hb (hno b)]; exact hl)
    · cases hl
  · simp only at hl
    split at hl
    · rename_i hb
      exact absurd (hs.own b hb ho) (hno b)
    · cases hl

theorem SS.sound {base n : Nat} {s : SOper} {o : Oper} {ops : Array Oper} {e e1 : Env} {a : Act} (h : SS P fm base s e H e1 H1) (hc : chkOper P fm n ops o s = true) (ht : RelT M w e a n) (hr : HRel M w H) (hm : M.fm = fm)
    {K : Act → World → Prop} {Q : Exit → Act → World → Prop}
    (hk : ∀ a' w' M', RelT M' w' e1 a' n → HRel M' w' H1 → Stp M H w M' H1 w' → Ids M M' H.length → K a' w') :
    if Region.wanted o (yielded ops a.tmps) = true then o.wp P a w K Q else K (a.put o.dst undef) w := by
  subst hm
  unfold chkOper at hc
  simp only [Bool.and_eq_true, Bool.or_eq_true] at hc
  obtain ⟨⟨hd, hg⟩, hc⟩ := hc
  have hdst : o.dst = s.dst ∧ ∀ k, s.dst = some k → k < n := by
    split at hd
    · rename_i h1 h2; exact ⟨by rw [h1, h2], fun k hk => by rw [h2] at hk; cases hk⟩
    · rename_i d d' h1 h2
      simp only [Bool.and_eq_true, beq_iff_eq, decide_eq_true_eq] at hd
      obtain ⟨rfl, hd⟩ := hd
      exact ⟨by rw [h1, h2], fun k hk => by rw [h2] at hk; cases hk; exact hd⟩
    · cases hd
  obtain ⟨hde, hdn⟩ := hdst
  -- what is done when the operation has left a value
  have fin : ∀ w' M' rv v, Stp M H w M' H1 w' → Ids M M' H.length → HRel M' w' H1 → Enc M' w' v rv → e1 = e.put s.dst v → K (a.put o.dst rv) w' := by
    intro w' M' rv v h1 h2 h3 h4 h5
    subst h5
    rw [hde]
    exact hk _ _ _ (relT_put (RelT.step h1 hr h2 ht) hdn (fun _ => h4)) h3 h1 h2
  cases h with
  | ev hw hv =>
    rw [wanted_ok hg ht hw, if_pos rfl]
    have hc1 : chk1 P M.fm o.op s.op = true := by
      rcases hc with hc | hc
      · exact hc
      · exfalso
        unfold chkCall at hc
        split at hc
        · rename_i hs; rw [hs] at hv; simp [ev1] at hv
        · rename_i hs; rw [hs] at hv; simp [ev1] at hv
        · rename_i hs; rw [hs] at hv; simp [ev1] at hv
        · rename_i hs; rw [hs] at hv; simp [ev1] at hv
        · rename_i hs; rw [hs] at hv; simp [ev1] at hv
        · cases hc
    obtain ⟨nx, w', M', hrun, hnx, h1, h2, h3⟩ := ev1_sound hc1 ht hr hv
    unfold Oper.wp
    rw [hrun]
    cases nx with
    | value rv => exact fin _ _ _ _ h1 h2 h3 hnx rfl
    | skip =>
      simp only at hnx
      exact fin w' M' undef _ h1 h2 h3 (by rw [hnx]; simp only [Enc]) rfl
    | _ => exact hnx.elim
  | skip hw =>
    rw [wanted_ok hg ht hw]
    simp only [Bool.false_eq_true, if_false]
    exact fin w M undef .skp (Stp.refl M H w) (Ids.refl _ _) hr (by simp only [Enc]) rfl
  | pcall hw hop hf =>
    rename_i f xs r H2
    rw [wanted_ok hg ht hw, if_pos rfl]
    have hcc : chkCall M.fm o.op s.op = true := by
      rcases hc with hc | hc
      · rw [hop] at hc; simp [chk1] at hc
      · exact hc
    rw [hop] at hcc
    simp only [chkCall] at hcc
    split at hcc
    case h_2 => cases hcc
    rename_i f' args ts ho
    simp only [Bool.and_eq_true, beq_iff_eq] at hcc
    obtain ⟨rfl, hxs⟩ := hcc
    have h0 : HRel (M.upto 0) w [] := by have := (stp_upto hr 0).2.2; rwa [trunc_zero] at this
    obtain ⟨hF, hcall⟩ := hf.2 (M.upto 0) w (args.toList.map a.eval) rfl h0 (encL_out (EncL.upto 0 (chkXs_encL hxs ht)))
    have hrun := run_call (P := P) (w := w) (a := a) (caps := #[]) ho rfl hF
    unfold Oper.wp
    rw [hrun]
    have hargs : args.map a.eval ++ #[] = (args.toList.map a.eval).toArray := by apply Array.ext'; simp
    rw [hargs]
    refine hcall.mono ?_
    rintro en w' ⟨rv, M', rfl, he, hs, _, hr'⟩
    obtain ⟨M'', h1, h2, h3, h4⟩ := pure_back hr he hs hr'
    exact fin _ _ _ _ h1 h2 h3 h4 rfl
  | scall hw hop hf =>
    rename_i f xs r H2
    rw [wanted_ok hg ht hw, if_pos rfl]
    have hcc : chkCall M.fm o.op s.op = true := by
      rcases hc with hc | hc
      · rw [hop] at hc; simp [chk1] at hc
      · exact hc
    rw [hop] at hcc
    simp only [chkCall] at hcc
    split at hcc
    case h_2 => cases hcc
    rename_i f' args ts ho
    simp only [Bool.and_eq_true, beq_iff_eq] at hcc
    obtain ⟨rfl, hxs⟩ := hcc
    obtain ⟨hF, hcall⟩ := hf.2 M w (args.toList.map a.eval) rfl hr (chkXs_encL hxs ht)
    have hrun := run_call (P := P) (w := w) (a := a) (caps := #[]) ho rfl hF
    unfold Oper.wp
    rw [hrun]
    have hargs : args.map a.eval ++ #[] = (args.toList.map a.eval).toArray := by apply Array.ext'; simp
    rw [hargs]
    refine hcall.mono ?_
    rintro en w' ⟨rv, M', rfl, he, hs, hi, hr'⟩
    obtain ⟨s1, s2, s3⟩ := stp_upto hr' H.length
    exact fin _ _ _ _ (hs.trans s1) (hi.trans s2 (Nat.le_refl _)) s3 (Enc.upto _ he) rfl
  | scallA hw hop hf _ =>
    rename_i rs f xs r H2
    rw [wanted_ok hg ht hw, if_pos rfl]
    have hcc : chkCall M.fm o.op s.op = true := by
      rcases hc with hc | hc
      · rw [hop] at hc; simp [chk1] at hc
      · exact hc
    rw [hop] at hcc
    simp only [chkCall] at hcc
    split at hcc
    case h_2 => cases hcc
    rename_i f' args ts ho
    simp only [Bool.and_eq_true, beq_iff_eq] at hcc
    obtain ⟨rfl, hxs⟩ := hcc
    obtain ⟨hF, hcall⟩ := hf.2 M w (args.toList.map a.eval) rfl hr (chkXs_encL hxs ht)
    have hrun := run_call (P := P) (w := w) (a := a) (caps := #[]) ho rfl hF
    unfold Oper.wp
    rw [hrun]
    have hargs : args.map a.eval ++ #[] = (args.toList.map a.eval).toArray := by apply Array.ext'; simp
    rw [hargs]
    refine hcall.mono ?_
    rintro en w' ⟨rv, M', rfl, he, hs, hi, hr'⟩
    obtain ⟨s1, s2, s3⟩ := stp_upto hr' H.length
    exact fin _ _ _ _ (hs.trans s1) (hi.trans s2 (Nat.le_refl _)) s3 (Enc.upto _ he) rfl
  | kcall hw hop hf _ =>
    rename_i ro f xs r
    rw [wanted_ok hg ht hw, if_pos rfl]
    have hcc : chkCall M.fm o.op s.op = true := by
      rcases hc with hc | hc
      · rw [hop] at hc; simp [chk1] at hc
      · exact hc
    rw [hop] at hcc
    simp only [chkCall] at hcc
    split at hcc
    case h_2 => cases hcc
    rename_i f' args ts ho
    simp only [Bool.and_eq_true, beq_iff_eq] at hcc
    obtain ⟨rfl, hxs⟩ := hcc
    obtain ⟨hF, hcall⟩ := hf.2 M w (args.toList.map a.eval) rfl hr (chkXs_encL hxs ht)
    have hrun := run_call (P := P) (w := w) (a := a) (caps := #[]) ho rfl hF
    unfold Oper.wp
    rw [hrun]
    have hargs : args.map a.eval ++ #[] = (args.toList.map a.eval).toArray := by apply Array.ext'; simp
    rw [hargs]
    refine hcall.mono ?_
    rintro en w' ⟨rv, M', rfl, he, hs, hi, hr'⟩
    exact fin _ _ _ _ hs hi hr' he rfl
  | vcall hw hop hfx hf _ =>
    rename_i ro fx xs f cap r H2
    rw [wanted_ok hg ht hw, if_pos rfl]
    have hcc : chkCall M.fm o.op s.op = true := by
      rcases hc with hc | hc
      · rw [hop] at hc; simp [chk1] at hc
      · exact hc
    rw [hop] at hcc
    simp only [chkCall] at hcc
    split at hcc
    case h_2 => cases hcc
    rename_i fo args ts ho
    simp only [Bool.and_eq_true] at hcc
    obtain ⟨hfo, hxs⟩ := hcc
    have hfe := chkX_enc hfo ht
    rw [hfx] at hfe
    simp only [Enc] at hfe
    obtain ⟨caps, hfv, hcaps⟩ := hfe
    obtain ⟨hF, hcall⟩ := hf.2 M w (args.toList.map a.eval ++ caps) rfl hr (encL_append (chkXs_encL hxs ht) hcaps)
    have hrun := run_call (P := P) (w := w) (a := a) (caps := caps.toArray) ho hfv hF
    unfold Oper.wp
    rw [hrun]
    have hargs : args.map a.eval ++ caps.toArray = (args.toList.map a.eval ++ caps).toArray := by apply Array.ext'; simp
    rw [hargs]
    refine hcall.mono ?_
    rintro en w' ⟨rv, M', rfl, he, hs, hi, hr'⟩
    obtain ⟨s1, s2, s3⟩ := stp_upto hr' H.length
    exact fin _ _ _ _ (hs.trans s1) (hi.trans s2 (Nat.le_refl _)) s3 (Enc.upto _ he) rfl

theorem loadAt_same {sz id off : Nat} {ag : Bool} {v : V} (h : loadAt H sz ag id off = some (v, H1)) : H1 = H := by
  unfold loadAt at h
  repeat' split at h
  all_goals first
    | (cases h; done)
    | (rw [Option.map_eq_some_iff] at h; obtain ⟨_, _, h⟩ := h; cases h; rfl)
theorem storeAt_set {sz id off : Nat} {u v : V} (h : storeAt H sz id off u = some (v, H1)) : ∃ cs, H1 = H.set id (some (.cells cs)) := by
  unfold storeAt at h
  repeat' split at h
  all_goals first
    | (cases h; done)
    | (cases h; exact ⟨_, rfl⟩)
theorem ev1_len {base : Nat} {e : Env} {s : SOp} {v : V} (h : ev1 base e H s = some (v, H1)) : H1.length = H.length := by
  cases s <;> simp only [ev1] at h
  case loadR =>
    repeat' split at h
    all_goals first
      | (cases h; done)
      | rw [loadAt_same h]
  case storeA | storeN =>
    repeat' split at h
    all_goals first
      | (cases h; done)
      | (obtain ⟨cs, h⟩ := storeAt_set h; rw [h]; simp)
  all_goals first
    | (cases h; rfl)
    | (repeat' split at h) <;> first
      | (cases h; done)
      | (cases h; rfl)
      | (cases h; simp; done)
      | (rw [Option.map_eq_some_iff] at h; obtain ⟨_, _, h⟩ := h; cases h; rfl)
  all_goals first
    | (rw [Option.map_eq_some_iff] at h; obtain ⟨_, _, h⟩ := h; cases h; rfl)

theorem SS.len {base : Nat} {s : SOper} {e e1 : Env} (h : SS P fm base s e H e1 H1) : H.length ≤ H1.length := by
  cases h with
  | ev _ hv => exact Nat.le_of_eq (ev1_len hv).symm
  | skip => exact Nat.le_refl _
  | pcall => exact Nat.le_refl _
  | scallA _ _ hf _ => simp only [trunc, List.length_map, List.length_take]; exact Nat.le_of_eq (Nat.min_eq_left hf.1).symm
  | scall _ _ hf => simp only [trunc, List.length_map, List.length_take]; exact Nat.le_of_eq (Nat.min_eq_left hf.1).symm
  | kcall _ _ hf _ => exact hf.1
  | vcall _ _ _ hf => simp only [trunc, List.length_map, List.length_take]; exact Nat.le_of_eq (Nat.min_eq_left hf.1).symm

end Go.Ev
