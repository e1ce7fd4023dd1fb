/- One checked operation is sound; regions in the text's order. -/
import Derived.Test.YtablmcdlcpphjaaGreatDoorEvJW
set_option linter.unusedVariables false
set_option linter.unusedSimpArgs false
namespace Go.Ev
open Go Go.RowKit
variable {P : Program} {M M' : Mm} {H H1 : Heap} {w w' : World} {fm : Fm}
mutual
/-- Where no number is in use, only the limits and the functions' numbers matter. -/
theorem Enc.free {M1 M2 : Mm} (ha : ∀ id, M1.al id = false) (hl : ∀ b o, Rd M1 b o → Rd M2 b o) (hf : ∀ f, M2.fm f = M1.fm f) : ∀ {c : V} {x : Value}, Enc M1 w c x → Enc M2 w c x
 | .undef, _, _ => by simp only [Enc]
 | .skp, _, e => by simpa only [Enc] using e
 | .any, _, e => by simpa only [Enc] using e
 | .int _ _, _, e => by simpa only [Enc] using e
 | .bool _, _, e => by simpa only [Enc] using e
 | .str _, _, e => by simpa only [Enc] using e
 | .nilp, _, e => by simpa only [Enc] using e
 | .nilf, _, e => by simpa only [Enc] using e
 | .nilm, _, e => by simpa only [Enc] using e
 | .mp id, _, e => by simp only [Enc, ha] at e; exact absurd e.1 (by simp)
 | .yld id, _, e => by simp only [Enc, ha] at e; exact absurd e.1 (by simp)
 | .gs id k, _, e => by simp only [Enc, ha] at e; exact absurd e.1 (by simp)
 | .ptr id off, _, e => by simp only [Enc, ha] at e; exact absurd e.1 (by simp)
 | .rs id off k _, _, e => by simp only [Enc, ha] at e; exact absurd e.1 (by simp)
 | .cptr cs, _, e => by
  simp only [Enc] at e ⊢
  obtain ⟨p, b, o, hv, e⟩ := e
  exact ⟨p, b, o, hv, EncRow.free ha hl hf e⟩
 | .vs es tk, _, e => by
  simp only [Enc] at e ⊢
  obtain ⟨p, a, cap, hv, hc, hs, ht⟩ := e
  refine ⟨p, a, cap, hv, hc, ?_, ?_⟩
  ·cases a with
   | none => exact hs
   | some ad => exact ⟨hs.1, hs.2.1, EncRows.free ha hl hf hs.2.2⟩
  ·cases tk with
   | no => trivial
   | full => exact ht
   | own q => simp only [TkOk, ha] at ht; exact absurd ht.1 (by simp)
 | .fn f cap, _, e => by
  simp only [Enc] at e ⊢
  obtain ⟨xs, hv, e⟩ := e
  exact ⟨xs, by rw [hf]; exact hv, EncL.free ha hl hf e⟩
 | .agg cs, _, e => by
  simp only [Enc] at e ⊢
  obtain ⟨p, xs, hv, e⟩ := e
  exact ⟨p, xs, hv, EncL.free ha hl hf e⟩
 | .tup cs, _, e => by
  simp only [Enc] at e ⊢
  obtain ⟨xs, hv, e⟩ := e
  exact ⟨xs, hv, EncL.free ha hl hf e⟩
theorem EncL.free {M1 M2 : Mm} (ha : ∀ id, M1.al id = false) (hl : ∀ b o, Rd M1 b o → Rd M2 b o) (hf : ∀ f, M2.fm f = M1.fm f) : ∀ {cs : List V} {xs : List Value}, EncL M1 w cs xs → EncL M2 w cs xs
 | [], _, e => by simpa only [EncL] using e
 | c :: cs, _, e => by
  simp only [EncL] at e ⊢
  obtain ⟨x, xs', hv, e1, e2⟩ := e
  exact ⟨x, xs', hv, Enc.free ha hl hf e1, EncL.free ha hl hf e2⟩
theorem EncRow.free {M1 M2 : Mm} (ha : ∀ id, M1.al id = false) (hl : ∀ b o, Rd M1 b o → Rd M2 b o) (hf : ∀ f, M2.fm f = M1.fm f) {b : Nat} : ∀ {cs : List V} {o : Nat}, EncRow M1 w b cs o → EncRow M2 w b cs o
 | [], _, _ => by simp only [EncRow]
 | c :: cs, o, e => by
  simp only [EncRow] at e ⊢
  obtain ⟨⟨x, hx, rd, e1⟩, e2⟩ := e
  exact ⟨⟨x, hx, hl _ _ rd, Enc.free ha hl hf e1⟩, EncRow.free ha hl hf e2⟩
theorem EncRows.free {M1 M2 : Mm} (ha : ∀ id, M1.al id = false) (hl : ∀ b o, Rd M1 b o → Rd M2 b o) (hf : ∀ f, M2.fm f = M1.fm f) {b : Nat} : ∀ {es : List (List V)} {o : Nat}, EncRows M1 w b es o → EncRows M2 w b es o
 | [], _, _ => by simp only [EncRows]
 | e :: es, o, k => by
  simp only [EncRows] at k ⊢
  exact ⟨EncRow.free ha hl hf k.1, EncRows.free ha hl hf k.2⟩
end
theorem upto_zero (M : Mm) (id : Nat) : (M.upto 0).al id = false := by simp [Mm.upto]
theorem trunc_zero (H : Heap) : trunc 0 H = [] := by simp [trunc]
theorem run_call {o : Oper} {a : Act} {f : FuncId} {args : Array Operand} {ts : Array TypeId} {fo : Operand} {caps : Array Value} (ho : o.op = .call { callee := .value fo, args := args, argTypes := ts })
  (hf : a.eval fo = .func (.func f) #[] caps) (hF : ∃ F, P.funcs[f]? = some F ∧ F.body.isSome = true ∧ F.name ≠ "runtime.NumGoroutine") :
  (execOp a.eval o).run P w = .ok (.enter f (args.map a.eval ++ caps)) w := by
 obtain ⟨F, h1, h2, h3⟩ := hF
 cases hb : F.body with
 | none => rw [hb] at h2; cases h2
 | some c => simp [execOp, ho, resolve, hf, Deferred.ofValue, invoke, callFunc, h1, h3, hb]
theorem Enc.pure' {M1 M2 : Mm} (hl : ∀ b o, Rd M1 b o → Rd M2 b o) (hf : ∀ f, M2.fm f = M1.fm f) {c : V} {x : Value} (hp : c.pure = true) (h : Enc M1 w c x) : Enc M2 w c x := by
 have := Enc.free (M1 := M1.upto 0) (M2 := M2) (fun id => upto_zero M1 id) hl hf (Enc.upto 0 h)
 rwa [V.cl_pure 0 c hp] at this
theorem Enc.nf {c : V} {x : Value} (h : Enc M w c x) : Enc M w c.nf x := by
 cases c <;> first | exact Enc.nf2 h | skip
 simp only [V.nf, Enc] at h ⊢
 obtain ⟨xs, hv, he⟩ := h
 exact ⟨xs, hv, EncL.map_of Enc.nf2 he⟩
theorem encL_out {cs : List V} {xs : List Value} (h : EncL M w (clL 0 cs) xs) : EncL M w (outL cs) xs := by
 rw [clL_eq_map] at h
 have := EncL.map_of Enc.nf h
 rw [List.map_map] at this
 exact this
theorem frz1_enc {H' : Heap} {M2 : Mm} {r : V} {rv : Value} (he : Enc M' w' r rv) (hr : HRel M' w' H') (hl : ∀ b o, Rd M' b o → Rd M2 b o) (hn : ∀ b, Owned M' H' b → ∀ o, Rd M2 b o) (hf : ∀ f, M2.fm f = M'.fm f) : Enc M2 w' ((frz1 H' r).cl 0) rv := by
 have plain : Enc M2 w' (r.cl 0) rv := Enc.free (M1 := M'.upto 0) (fun id => upto_zero M' id) hl hf (Enc.upto 0 he)
 cases r <;> simp only [frz1] <;> try exact plain
 rename_i id off n sz
 cases hb : H'[id]? with
 | none => exact plain
 | some ob => cases ob with
  | none => exact plain
  | some blk => cases blk with
   | zone k => exact plain
   | froz k => exact plain
   | map k => exact plain
   | siter k q => exact plain
   | loop e0 ps as bo st => exact plain
   | grow k q fu => exact plain
   | cells cs =>
    simp only
    by_cases hc : off + n * sz ≤ cs.length ∧ cs.all V.pure = true
    ·rw [if_pos hc]
     obtain ⟨hle, hpu⟩ := hc
     have hpu := List.all_eq_true.1 hpu
     simp only [Enc] at he
     obtain ⟨ha, cap, rfl, hcap⟩ := he
     have hb' := hr.rel id _ hb
     simp only [BRel] at hb'
     obtain ⟨_, _, xs, te, hh, hE⟩ := hb'
     obtain ⟨h1, h2, h3⟩ := chunks_flat (sz := sz) (k := n) (cs := cs.drop off) (by rw [List.length_drop]; omega)
     have hown : Owned M' H' (M'.j id) := ⟨id, by simp [blOf, hb]⟩
     simp only [V.cl, Tk.cl, Enc]
     refine ⟨fun e he c hc => hpu c (List.mem_of_mem_drop ((h3 e he).2 c hc)), some ⟨M'.j id, off, none⟩, cap, by rw [h2], by rw [h2]; exact hcap, ⟨.inr rfl, ⟨sz, fun e he => (h3 e he).1⟩, ?_⟩, trivial⟩
     rw [encRows_iff, h1]
     refine encRow_of fun i c hc => ?_
     rw [List.getElem?_take] at hc
     split at hc
     ·rw [List.getElem?_drop] at hc
      obtain ⟨x, hx, hex⟩ := encL_get hE hc
      refine ⟨x, ?_, hn _ hown _, Enc.pure' hl hf (hpu c (List.mem_of_getElem? hc)) hex⟩
      rw [cell_of_row w' (M'.j id) (off + i) xs te (0, 0) hh]
      exact pfx_get hx
     ·cases hc
    ·rw [if_neg hc]; exact plain
theorem frz_enc {H' : Heap} {M2 : Mm} {r : V} {rv : Value} (he : Enc M' w' r rv) (hr : HRel M' w' H') (hl : ∀ b o, Rd M' b o → Rd M2 b o) (hn : ∀ b, Owned M' H' b → ∀ o, Rd M2 b o) (hf : ∀ f, M2.fm f = M'.fm f) : Enc M2 w' ((frz H' r).cl 0) rv := by
 cases r <;> simp only [frz] <;> try exact frz1_enc he hr hl hn hf
 rename_i vs
 simp only [Enc] at he
 obtain ⟨xs, rfl, he⟩ := he
 simp only [V.cl, Enc]
 refine ⟨xs, rfl, ?_⟩
 rw [clL_eq_map, List.map_map]
 refine encL_of (by have := encL_length he; simpa using this) fun i c x hc hx => ?_
 rw [List.getElem?_map, Option.map_eq_some_iff] at hc
 obtain ⟨u, hu, rfl⟩ := hc
 obtain ⟨x', hx', he'⟩ := encL_get he hu
 rw [hx] at hx'; cases hx'
 exact frz1_enc he' hr hl hn hf
theorem pure_back (hr : HRel M w H) {H' : Heap} {r : V} {rv : Value} (he : Enc M' w' r rv) (hs : Stp (M.upto 0) [] w M' H' w') (hr' : HRel M' w' H') :
  ∃ M'', Stp M H w M'' H w' ∧ Ids M M'' H.length ∧ HRel M'' w' H ∧ Enc M'' w' (frz H' r).out rv := by
 have hno : ∀ b, ¬ Owned (M.upto 0) [] b := by
  rintro b ⟨id, hid⟩
  simp [blOf] at hid
 have g : Grew w w' := ⟨hs.os, hs.tape, hs.output, hs.size, fun b hb => hs.same b hb (hno b)⟩
 obtain ⟨s, i, r'⟩ := stp_same (M' := { M with lim := fun b => if b < w.heap.size then M.lim b else none }) hr g ⟨rfl, rfl, rfl, rfl, fun b hb => by simp [hb]⟩
 refine ⟨_, s, i, r', ?_⟩
 refine Enc.nf (frz_enc (M2 := { M with lim := fun b => if b < w.heap.size then M.lim b else none }) he hr' (fun b o rd l hl => ?_) (fun b ho o l hl => ?_) (fun f => by rw [hs.fm]; rfl))
 ·simp only at hl
  split at hl
  ·rename_i hb
   exact rd l (by rw [hs.limo b hb (hno b)]; exact hl)
  ·cases hl
 ·simp only at hl
  split at hl
  ·rename_i hb
   exact absurd (hs.own b hb ho) (hno b)
  ·cases hl
theorem semAt_ro {ro : Option Nat} {ρ : Operand → Value} {o : Oper} (h : ∀ c, o.op ≠ .defer c) : Oper.semAt ro ρ o = execOp ρ o := by
 cases ro with
 | none => rfl
 | some l => exact Oper.semAt_some l ρ o h
theorem callsFR {ro : Option Nat} {n : Nat} {f : FuncId} {args : Array Value} {R : Ending → World → Prop} (h : Calls P f args w R) : CallsIn (FR ro) n P f args w R := (callsIn_wide (n := n)).2 h
theorem chk1_defer {o : Op} {s : SOp} (h : chk1 P fm o s = true) : ∀ c, o ≠ .defer c := by
 rintro c rfl
 cases s <;> simp [chk1] at h
theorem loop_put (hr : HRel M w H) {id : Nat} {e0 : List (Nat × V)} {ps : List Nat} {as bo : SCode} {st st' : LSt} {r r' : Loop} (hb : H[id]? = some (some (.loop e0 ps as bo st))) (hw : w.heap[M.j id]? = some (.loop r)) (ht : r'.tmps = r.tmps) (hp : r'.params = r.params) (ha : r'.assign = r.assign) (hbo : r'.body = r.body)
  (hs : LStOk st' r') : ∃ M', Stp M H w M' (H.set id (some (.loop e0 ps as bo st'))) (w.putObj (M.j id) (.loop r')) ∧ Ids M M' H.length ∧ HRel M' (w.putObj (M.j id) (.loop r')) (H.set id (some (.loop e0 ps as bo st'))) ∧ M'.j = M.j := by
 have h0 := hr.rel id _ hb
 simp only [BRel] at h0
 obtain ⟨hl0, r0, hc, h1, h2, h3, h4, h5⟩ := h0
 rw [hw] at hc
 cases hc
 have hlt := (Array.getElem?_eq_some_iff.1 hw).1
 obtain ⟨s, i, q⟩ := stp_put (blk1 := .loop e0 ps as bo st') (w' := w.putObj (M.j id) (.loop r')) hr hb rfl rfl hl0 0 rfl rfl rfl World.putObj_size (fun b hb => World.putObj_heap_other hb) fun hst hid => by
  simp only [BRel]
  refine ⟨by simp [Mm.limit], r', World.putObj_heap_same hlt, hs, ?_, by rw [ht, ha]; exact h3, by rw [ht, hbo]; exact h4, fun p hp => by rw [ht]; exact Enc.step hst hr hid (h5 p hp)⟩
  rw [LPs, hp, ht]; exact h2
 exact ⟨_, s, i, q, rfl⟩
theorem putP_rel : ∀ {ps : List Nat} {vs : List V} {xs : List Value} {tmps : Array Value} {e : Env}, EncL M w vs xs → (∀ p ∈ ps, p < tmps.size) → ps.length = vs.length → (∀ i, Enc M w (e i) (tmps.getD i undef)) →
  (∀ i, Enc M w (putP ps vs e i) (((ps.zip xs).foldl (fun (t : Array Value) (q : Nat × Value) => t.setIfInBounds q.1 q.2) tmps).getD i undef)) ∧ ((ps.zip xs).foldl (fun (t : Array Value) (q : Nat × Value) => t.setIfInBounds q.1 q.2) tmps).size = tmps.size
 | [], [], xs, tmps, e, h, _, _, he => by
  simp only [EncL] at h; subst h
  exact ⟨he, rfl⟩
 | [], _ :: _, _, _, _, _, _, hl, _ => by simp at hl
 | _ :: _, [], _, _, _, _, _, hl, _ => by simp at hl
 | p :: ps, v :: vs, xs, tmps, e, h, hp, hl, he => by
  simp only [EncL] at h
  obtain ⟨x, xs', rfl, h1, h2⟩ := h
  have hpt := hp p (by simp)
  have := putP_rel (ps := ps) (vs := vs) (xs := xs') (tmps := tmps.setIfInBounds p x) (e := e.put (some p) v) h2 (fun q hq => by simpa using hp q (by simp [hq])) (by simpa using hl) (fun i => by
   simp only [Env.put_some]
   by_cases hi : i = p
   ·subst hi
    rw [if_pos rfl, Array.getD_eq_getD_getElem?, Array.getElem?_setIfInBounds_self_of_lt hpt]
    exact h1
   ·rw [if_neg hi, Array.getD_eq_getD_getElem?, Array.getElem?_setIfInBounds_ne (by omega), ← Array.getD_eq_getD_getElem?]
    exact he i)
  exact ⟨this.1, by rw [List.zip_cons_cons, List.foldl_cons, this.2]; simp⟩
theorem mkE_rel {tmps : Array Value} : ∀ {e0 : List (Nat × V)}, (∀ p ∈ e0, Enc M w p.2 (tmps.getD p.1 undef)) → ∀ i, Enc M w (mkE e0 i) (tmps.getD i undef)
 | [], _, i => by simp only [mkE, Enc]
 | (d, v) :: e0, h, i => by
  simp only [mkE]
  split
  ·rename_i hi; subst hi; exact h (i, v) (by simp)
  ·exact mkE_rel (fun p hp => h p (by simp [hp])) i
theorem SS.sound {ro : Option Nat} {base n : Nat} {s : SOper} {o : Oper} {ops : Array Oper} {e e1 : Env} {a : Act} (h : SS P fm base s e H e1 H1) (hc : chkOper P fm n ops o s = true) (ht : RelT M w e a n) (hr : HRel M w H) (hm : M.fm = fm)
  {K : Act → World → Prop} {Q : Exit → Act → World → Prop}
  (hk : ∀ a' w' M', RelT M' w' e1 a' n → HRel M' w' H1 → Stp M H w M' H1 w' → Ids M M' H.length → a'.defers = a.defers → K a' w') :
  if Region.wanted o (yielded ops a.tmps) = true then o.wpIn (FR ro) 0 P a w K Q else (∀ f, o.about P w a.eval = some f → (FR ro).fn f) ∧ K (a.put o.dst undef) w := by
 subst hm
 unfold chkOper at hc
 simp only [Bool.and_eq_true, Bool.or_eq_true] at hc
 obtain ⟨⟨hd, hg⟩, hc⟩ := hc
 have hdst : o.dst = s.dst ∧ ∀ k, s.dst = some k → k < n := by
  split at hd
  ·rename_i h1 h2; exact ⟨by rw [h1, h2], fun k hk => by rw [h2] at hk; cases hk⟩
  ·rename_i d d' h1 h2
   simp only [Bool.and_eq_true, beq_iff_eq, decide_eq_true_eq] at hd
   obtain ⟨rfl, hd⟩ := hd
   exact ⟨by rw [h1, h2], fun k hk => by rw [h2] at hk; cases hk; exact hd⟩
  ·cases hd
 obtain ⟨hde, hdn⟩ := hdst
 -- what is done when the operation has left a value
 have fin : ∀ w' M' rv v, Stp M H w M' H1 w' → Ids M M' H.length → HRel M' w' H1 → Enc M' w' v rv → e1 = e.put s.dst v → K (a.put o.dst rv) w' := by
  intro w' M' rv v h1 h2 h3 h4 h5
  subst h5
  rw [hde]
  exact hk _ _ _ (relT_put (RelT.step h1 hr h2 ht) hdn (fun _ => h4)) h3 h1 h2 (by cases s.dst <;> rfl)
 cases h with
 | ev hw hv =>
  rw [wanted_ok hg ht hw, if_pos rfl]
  have hc1 : chk1 P M.fm o.op s.op = true := by
   rcases hc with hc | hc
   ·exact hc
   ·exfalso
    unfold chkCall at hc
    split at hc
    ·rename_i hs; rw [hs] at hv; simp [ev1] at hv
    ·rename_i hs; rw [hs] at hv; simp [ev1] at hv
    ·rename_i hs; rw [hs] at hv; simp [ev1] at hv
    ·rename_i hs; rw [hs] at hv; simp [ev1] at hv
    ·rename_i hs; rw [hs] at hv; simp [ev1] at hv
    ·rename_i hs; rw [hs] at hv; simp [ev1] at hv
    ·cases hc
  obtain ⟨nx, w', M', hrun, hnx, h1, h2, h3⟩ := ev1_sound hc1 ht hr hv
  unfold Oper.wpIn
  refine ⟨fun _ _ => trivial, ?_⟩
  rw [semAt_ro (chk1_defer hc1), hrun]
  cases nx with
  | value rv => exact fin _ _ _ _ h1 h2 h3 hnx rfl
  | skip =>
   simp only at hnx
   exact fin w' M' undef _ h1 h2 h3 (by rw [hnx]; simp only [Enc]) rfl
  | _ => exact hnx.elim
 | skip hw =>
  rw [wanted_ok hg ht hw]
  simp only [Bool.false_eq_true, if_false]
  refine ⟨fun _ _ => trivial, ?_⟩
  exact fin w M undef .skp (Stp.refl M H w) (Ids.refl _ _) hr (by simp only [Enc]) rfl
 | pcall hw hop hf =>
  rename_i f xs r H2
  rw [wanted_ok hg ht hw, if_pos rfl]
  have hcc : chkCall M.fm o.op s.op = true := by
   rcases hc with hc | hc
   ·rw [hop] at hc; simp [chk1] at hc
   ·exact hc
  rw [hop] at hcc
  simp only [chkCall] at hcc
  split at hcc
  case h_2 => cases hcc
  rename_i f' args ts ho
  simp only [Bool.and_eq_true, beq_iff_eq] at hcc
  obtain ⟨rfl, hxs⟩ := hcc
  have h0 : HRel (M.upto 0) w [] := by have := (stp_upto hr 0).2.2; rwa [trunc_zero] at this
  obtain ⟨hF, hcall⟩ := hf.2 (M.upto 0) w (args.toList.map a.eval) rfl h0 (encL_out (EncL.upto 0 (chkXs_encL hxs ht)))
  have hrun := run_call (P := P) (w := w) (a := a) (caps := #[]) ho rfl hF
  unfold Oper.wpIn
  refine ⟨fun _ _ => trivial, ?_⟩
  rw [semAt_ro (by rw [ho]; simp), hrun]
  have hargs : args.map a.eval ++ #[] = (args.toList.map a.eval).toArray := by apply Array.ext'; simp
  rw [hargs]
  refine ⟨fun h => by (cases h), callsFR (hcall.mono ?_)⟩
  rintro en w' ⟨rv, M', rfl, he, hs, _, hr'⟩
  obtain ⟨M'', h1, h2, h3, h4⟩ := pure_back hr he hs hr'
  exact fin _ _ _ _ h1 h2 h3 h4 rfl
 | scall hw hop hf =>
  rename_i f xs r H2
  rw [wanted_ok hg ht hw, if_pos rfl]
  have hcc : chkCall M.fm o.op s.op = true := by
   rcases hc with hc | hc
   ·rw [hop] at hc; simp [chk1] at hc
   ·exact hc
  rw [hop] at hcc
  simp only [chkCall] at hcc
  split at hcc
  case h_2 => cases hcc
  rename_i f' args ts ho
  simp only [Bool.and_eq_true, beq_iff_eq] at hcc
  obtain ⟨rfl, hxs⟩ := hcc
  obtain ⟨hF, hcall⟩ := hf.2 M w (args.toList.map a.eval) rfl hr (chkXs_encL hxs ht)
  have hrun := run_call (P := P) (w := w) (a := a) (caps := #[]) ho rfl hF
  unfold Oper.wpIn
  refine ⟨fun _ _ => trivial, ?_⟩
  rw [semAt_ro (by rw [ho]; simp), hrun]
  have hargs : args.map a.eval ++ #[] = (args.toList.map a.eval).toArray := by apply Array.ext'; simp
  rw [hargs]
  refine ⟨fun h => by (cases h), callsFR (hcall.mono ?_)⟩
  rintro en w' ⟨rv, M', rfl, he, hs, hi, hr'⟩
  obtain ⟨s1, s2, s3⟩ := stp_upto hr' H.length
  exact fin _ _ _ _ (hs.trans s1) (hi.trans s2 (Nat.le_refl _)) s3 (Enc.upto _ he) rfl
 | scallA hw hop hf _ =>
  rename_i rs f xs r H2
  rw [wanted_ok hg ht hw, if_pos rfl]
  have hcc : chkCall M.fm o.op s.op = true := by
   rcases hc with hc | hc
   ·rw [hop] at hc; simp [chk1] at hc
   ·exact hc
  rw [hop] at hcc
  simp only [chkCall] at hcc
  split at hcc
  case h_2 => cases hcc
  rename_i f' args ts ho
  simp only [Bool.and_eq_true, beq_iff_eq] at hcc
  obtain ⟨rfl, hxs⟩ := hcc
  obtain ⟨hF, hcall⟩ := hf.2 M w (args.toList.map a.eval) rfl hr (chkXs_encL hxs ht)
  have hrun := run_call (P := P) (w := w) (a := a) (caps := #[]) ho rfl hF
  unfold Oper.wpIn
  refine ⟨fun _ _ => trivial, ?_⟩
  rw [semAt_ro (by rw [ho]; simp), hrun]
  have hargs : args.map a.eval ++ #[] = (args.toList.map a.eval).toArray := by apply Array.ext'; simp
  rw [hargs]
  refine ⟨fun h => by (cases h), callsFR (hcall.mono ?_)⟩
  rintro en w' ⟨rv, M', rfl, he, hs, hi, hr'⟩
  obtain ⟨s1, s2, s3⟩ := stp_upto hr' H.length
  exact fin _ _ _ _ (hs.trans s1) (hi.trans s2 (Nat.le_refl _)) s3 (Enc.upto _ he) rfl
 | scallE hw hop hf _ =>
  rename_i f xs r H2
  rw [wanted_ok hg ht hw, if_pos rfl]
  have hcc : chkCall M.fm o.op s.op = true := by
   rcases hc with hc | hc
   ·rw [hop] at hc; simp [chk1] at hc
   ·exact hc
  rw [hop] at hcc
  simp only [chkCall] at hcc
  split at hcc
  case h_2 => cases hcc
  rename_i f' args ts ho
  simp only [Bool.and_eq_true, beq_iff_eq] at hcc
  obtain ⟨rfl, hxs⟩ := hcc
  obtain ⟨hF, hcall⟩ := hf.2 M w (args.toList.map a.eval) rfl hr (chkXs_encL hxs ht)
  have hrun := run_call (P := P) (w := w) (a := a) (caps := #[]) ho rfl hF
  unfold Oper.wpIn
  refine ⟨fun _ _ => trivial, ?_⟩
  rw [semAt_ro (by rw [ho]; simp), hrun]
  have hargs : args.map a.eval ++ #[] = (args.toList.map a.eval).toArray := by apply Array.ext'; simp
  rw [hargs]
  refine ⟨fun h => by (cases h), callsFR (hcall.mono ?_)⟩
  rintro en w' ⟨rv, M', rfl, he, hs, hi, hr'⟩
  obtain ⟨s1, s2, s3⟩ := stp_upto hr' H.length
  exact fin _ _ _ _ (hs.trans s1) (hi.trans s2 (Nat.le_refl _)) s3 (Enc.upto _ he) rfl
 | kcall hw hop hf _ =>
  rename_i ro f xs r
  rw [wanted_ok hg ht hw, if_pos rfl]
  have hcc : chkCall M.fm o.op s.op = true := by
   rcases hc with hc | hc
   ·rw [hop] at hc; simp [chk1] at hc
   ·exact hc
  rw [hop] at hcc
  simp only [chkCall] at hcc
  split at hcc
  case h_2 => cases hcc
  rename_i f' args ts ho
  simp only [Bool.and_eq_true, beq_iff_eq] at hcc
  obtain ⟨rfl, hxs⟩ := hcc
  obtain ⟨hF, hcall⟩ := hf.2 M w (args.toList.map a.eval) rfl hr (chkXs_encL hxs ht)
  have hrun := run_call (P := P) (w := w) (a := a) (caps := #[]) ho rfl hF
  unfold Oper.wpIn
  refine ⟨fun _ _ => trivial, ?_⟩
  rw [semAt_ro (by rw [ho]; simp), hrun]
  have hargs : args.map a.eval ++ #[] = (args.toList.map a.eval).toArray := by apply Array.ext'; simp
  rw [hargs]
  refine ⟨fun h => by (cases h), callsFR (hcall.mono ?_)⟩
  rintro en w' ⟨rv, M', rfl, he, hs, hi, hr'⟩
  exact fin _ _ _ _ hs hi hr' he rfl
 | vcall hw hop hfx hf _ =>
  rename_i ro fx xs f cap r H2
  rw [wanted_ok hg ht hw, if_pos rfl]
  have hcc : chkCall M.fm o.op s.op = true := by
   rcases hc with hc | hc
   ·rw [hop] at hc; simp [chk1] at hc
   ·exact hc
  rw [hop] at hcc
  simp only [chkCall] at hcc
  split at hcc
  case h_2 => cases hcc
  rename_i fo args ts ho
  simp only [Bool.and_eq_true] at hcc
  obtain ⟨hfo, hxs⟩ := hcc
  have hfe := chkX_enc hfo ht
  rw [hfx] at hfe
  simp only [Enc] at hfe
  obtain ⟨caps, hfv, hcaps⟩ := hfe
  obtain ⟨hF, hcall⟩ := hf.2 M w (args.toList.map a.eval ++ caps) rfl hr (encL_append (chkXs_encL hxs ht) hcaps)
  have hrun := run_call (P := P) (w := w) (a := a) (caps := caps.toArray) ho hfv hF
  unfold Oper.wpIn
  refine ⟨fun _ _ => trivial, ?_⟩
  rw [semAt_ro (by rw [ho]; simp), hrun]
  have hargs : args.map a.eval ++ caps.toArray = (args.toList.map a.eval ++ caps).toArray := by apply Array.ext'; simp
  rw [hargs]
  refine ⟨fun h => by (cases h), callsFR (hcall.mono ?_)⟩
  rintro en w' ⟨rv, M', rfl, he, hs, hi, hr'⟩
  obtain ⟨s1, s2, s3⟩ := stp_upto hr' H.length
  exact fin _ _ _ _ (hs.trans s1) (hi.trans s2 (Nat.le_refl _)) s3 (Enc.upto _ he) rfl

 | ycall hw hop hfx hb hxl ha hb1 hbo hb2 =>
  rename_i fx xs id e0 ps as bo e1 H1' f0 fps fas fbo x e2 H2 g0 gps gas gbo
  rw [wanted_ok hg ht hw, if_pos rfl]
  have hcc : chkCall M.fm o.op s.op = true := by
   rcases hc with hc | hc
   ·rw [hop] at hc; simp [chk1] at hc
   ·exact hc
  rw [hop] at hcc
  simp only [chkCall] at hcc
  split at hcc
  case h_2 => cases hcc
  rename_i fo args ts ho
  simp only [Bool.and_eq_true] at hcc
  obtain ⟨hfo, hxs⟩ := hcc
  have hfe := chkX_enc hfo ht
  rw [hfx] at hfe
  simp only [Enc] at hfe
  obtain ⟨hal, hfv⟩ := hfe
  have hargs := chkXs_encL hxs ht
  have hlen := encL_length hargs
  simp only [List.length_map] at hlen
  obtain ⟨l, hl⟩ : ∃ l, l = M.j id := ⟨_, rfl⟩
  have h0 := hr.rel id _ hb
  simp only [BRel] at h0
  obtain ⟨hl0, r, hrec, hst, hps, hca, hcb, he0⟩ := h0
  have hlt : id < H.length := (List.getElem?_eq_some_iff.1 hb).1
  have hsz : (args.map a.eval).size = r.params.size := by
   have h1 := congrArg List.length hps.1
   have h2 : args.size = xs.length := by simpa using hlen
   simp at h1 ⊢
   omega
  have hrun : (execOp a.eval o).run P w = .ok (.round l r.fn ((r.params.zip (args.map a.eval)).foldl (fun tmps (t, a) => tmps.setIfInBounds t a) r.tmps) r.assign r.body) w := by
   have := run_yield (P := P) (l := M.j id) (args := args.map a.eval) hrec hsz
   rw [hl]
   simp [execOp, ho, resolve, hfv, Deferred.ofValue, invoke, this]
  obtain ⟨tm, htm⟩ : ∃ tm, tm = (r.params.zip (args.map a.eval)).foldl (fun tmps (t, a) => tmps.setIfInBounds t a) r.tmps := ⟨_, rfl⟩
  have htm2 : tm = (ps.zip (args.toList.map a.eval)).foldl (fun (t : Array Value) (q : Nat × Value) => t.setIfInBounds q.1 q.2) r.tmps := by
   rw [htm, ← Array.foldl_toList, Array.toList_zip, hps.1]; simp
  rw [← htm] at hrun
  obtain ⟨hrel, hsize⟩ := putP_rel (ps := ps) (tmps := r.tmps) hargs hps.2 (by simp [hxl]) (mkE_rel he0)
  rw [← htm2] at hrel hsize
  unfold Oper.wpIn
  refine ⟨fun _ _ => trivial, ?_⟩
  rw [semAt_ro (by rw [ho]; simp), hrun]
  refine ⟨fun h => by (cases h), ?_⟩
  refine roundIn_of_wpIn (F := FR ro) (n := 0) (l := l) trivial ?_
  refine ha.2 l r.tmps.size r.assign M w _ _ hca ⟨hsize, ⟨by simp, fun d hd => by cases hd⟩, hrel, ht.glo⟩ hr rfl ?_
  intro a1 w1 M1 t1 r1 s1 i1 m1
  -- the round begins
  have hj1 : M1.j id = l := by rw [hl]; exact (i1 id hlt hal).2.1
  have h1 := r1.rel id _ hb1
  simp only [BRel] at h1
  obtain ⟨_, rc1, hrec1, hst1, _⟩ := h1
  obtain ⟨M2, s2, i2, r2, hj2⟩ := loop_put (st' := .busy) (r' := { rc1 with state := .busy }) r1 hb1 hrec1 rfl rfl rfl rfl rfl
  rw [hj1] at hrec1 s2 r2
  refine ⟨_, run_beginRound hrec1 hst1.1, ?_⟩
  refine hbo.2 l r.tmps.size r.body M2 _ a1 _ hcb (RelT.step s2 r1 i2 t1) r2 (s2.fm.trans s1.fm) ?_
  intro a3 w3 M3 t3 r3 s3 i3 m3
  -- the round ends
  have hlt1 : id < H1'.length := (List.getElem?_eq_some_iff.1 hb1).1
  have hal1 : M1.al id = true := (i1 id hlt hal).1
  have hal2 := (i2 id hlt1 hal1)
  have hj3 : M3.j id = l := by rw [(i3 id (by simpa using hlt1) hal2.1).2.1, hj2]; exact hj1
  have h3 := r3.rel id _ hb2
  simp only [BRel] at h3
  obtain ⟨_, rc3, hrec3, _⟩ := h3
  have hlen3 : H.length ≤ H2.length := by have := ha.1; have := hbo.1; simp at this; omega
  have fin2 : ∀ (jump : Option Code) (st' : LSt) (b : Bool), LStOk st' { rc3 with state := if jump.isNone then .ready else .done, pending := jump } → jump.isNone = b → decide (x = .nx) = b → (if x = .nx then LSt.ready else .done x) = st' →
    ∃ v w', (Instr.endRound l jump).run P w3 = .ok v w' ∧ K (a.put o.dst v) w' := by
   intro jump st' b hok hb' hxb hst'
   obtain ⟨M4, s4, i4, r4, _⟩ := loop_put (st' := st') (r' := { rc3 with state := if jump.isNone then .ready else .done, pending := jump }) r3 hb2 hrec3 rfl rfl rfl rfl hok
   rw [hj3] at s4 r4
   have hrec3' := hrec3
   rw [hj3] at hrec3'
   refine ⟨_, _, run_endRound jump hrec3', ?_⟩
   obtain ⟨u1, u2, u3⟩ := stp_upto r4 H.length
   rw [← hst'] at s4 r4 u1 u3
   refine fin _ (M4.upto H.length) (.bool jump.isNone) (.bool (decide (x = .nx))) ((((s1.trans s2).trans s3).trans s4).trans u1) ?_ u3 (by simp only [Enc]; rw [hb', hxb]) rfl
   have e2 := ha.1
   have e3 := hbo.1
   simp only [List.length_set] at e3
   exact (((i1.trans i2 e2).trans i3 (by simp only [List.length_set]; exact e2)).trans i4 hlen3).trans u2 (Nat.le_refl _)
  cases x with
  | nx => exact fin2 none .ready true ⟨rfl, rfl⟩ rfl rfl rfl
  | ret => exact fin2 (some .ret) (.done .ret) false ⟨rfl, rfl⟩ rfl rfl rfl
  | exit k => exact fin2 (some (.exit k)) (.done (.exit k)) false ⟨rfl, rfl⟩ rfl rfl rfl
theorem loadAt_same {sz id off : Nat} {ag : Bool} {v : V} (h : loadAt H sz ag id off = some (v, H1)) : H1 = H := by
 unfold loadAt at h
 repeat' split at h
 all_goals first
  | (cases h; done)
  | (rw [Option.map_eq_some_iff] at h; obtain ⟨_, _, h⟩ := h; cases h; rfl)
theorem storeAt_set {sz id off : Nat} {u v : V} (h : storeAt H sz id off u = some (v, H1)) : ∃ cs, H1 = H.set id (some (.cells cs)) := by
 unfold storeAt at h
 repeat' split at h
 all_goals first
  | (cases h; done)
  | (cases h; exact ⟨_, rfl⟩)
theorem ev1_len {base : Nat} {e : Env} {s : SOp} {v : V} (h : ev1 base e H s = some (v, H1)) : H1.length = H.length := by
 cases s <;> simp only [ev1] at h
 case appG =>
  unfold appGV at h
  repeat' split at h
  all_goals first
   | (cases h; done)
   | (cases h; rfl)
   | (cases h; simp; done)
 case loadR | loadA =>
  repeat' split at h
  all_goals first
   | (cases h; done)
   | rw [loadAt_same h]
 case storeA | storeN | storeT =>
  repeat' split at h
  all_goals first
   | (cases h; done)
   | (obtain ⟨cs, h⟩ := storeAt_set h; rw [h]; simp)
 all_goals first
  | (cases h; rfl)
  | (repeat' split at h) <;> first
   | (cases h; done)
   | (cases h; rfl)
   | (cases h; simp; done)
   | (rw [Option.map_eq_some_iff] at h; obtain ⟨_, _, h⟩ := h; cases h; rfl)
 all_goals first
  | (rw [Option.map_eq_some_iff] at h; obtain ⟨_, _, h⟩ := h; cases h; rfl)
theorem SS.len {base : Nat} {s : SOper} {e e1 : Env} (h : SS P fm base s e H e1 H1) : H.length ≤ H1.length := by
 cases h with
 | ev _ hv => exact Nat.le_of_eq (ev1_len hv).symm
 | skip => exact Nat.le_refl _
 | pcall => exact Nat.le_refl _
 | scallE _ _ hf _ => simp only [trunc, List.length_map, List.length_take]; exact Nat.le_of_eq (Nat.min_eq_left hf.1).symm
 | scallA _ _ hf _ => simp only [trunc, List.length_map, List.length_take]; exact Nat.le_of_eq (Nat.min_eq_left hf.1).symm
 | scall _ _ hf => simp only [trunc, List.length_map, List.length_take]; exact Nat.le_of_eq (Nat.min_eq_left hf.1).symm
 | kcall _ _ hf _ => exact hf.1
 | vcall _ _ _ hf => simp only [trunc, List.length_map, List.length_take]; exact Nat.le_of_eq (Nat.min_eq_left hf.1).symm
 | ycall _ _ _ _ _ ha _ hb _ =>
  have e2 := ha.1
  have e3 := hb.1
  simp only [List.length_set] at e3
  simp only [trunc, List.length_map, List.length_take, List.length_set]; exact Nat.le_of_eq (Nat.min_eq_left (Nat.le_trans e2 e3)).symm
end Go.Ev
/- Operations that may be done in either order. -/
namespace Go.Ev
set_option linter.unusedSimpArgs false
set_option linter.unusedVariables false
open Go Go.RowKit
variable {P : Program} {M M' : Mm} {H H1 H2 : Heap} {w w' : World} {fm : Fm}
def X.uses : X → List Nat
 | .t i => [i]
 | .c _ => []
def usesXs : List X → List Nat
 | [] => []
 | x :: xs => x.uses ++ usesXs xs
def usesO : Option X → List Nat
 | none => []
 | some x => x.uses
def SOp.uses : SOp → List Nat
 | .loadC _ _ x => x.uses
 | .loadN _ x => x.uses
 | .storeN _ _ a x => a.uses ++ x.uses
 | .mv x | .box _ x | .load _ _ _ x | .faddr _ x | .fld _ _ _ x | .un _ x | .conv _ x | .ext _ x | .len _ x | .nilck x | .mksl _ _ _ x => x.uses
 | .pick c a b => c.uses ++ a.uses ++ b.uses
 | .alloc _ _ => []
 | .build _ ps => usesXs (ps.map (·.2.2))
 | .bslice _ _ ps => usesXs (ps.map (·.2))
 | .bsliceR _ _ _ ps => usesXs (ps.map (·.2))
 | .bsliceG _ _ _ ps => usesXs (ps.map (·.2))
 | .mark x => x.uses
 | .store _ a x => a.uses ++ x.uses
 | .iaddr _ x i | .iaddrA _ _ x i | .idx _ _ _ x i | .bin _ x i | .beq _ x i | .app _ _ _ x i | .appG _ _ _ _ x i => x.uses ++ i.uses
 | .mkfn _ cap => usesXs cap
 | .slc _ x lo hi mx => x.uses ++ usesO lo ++ usesO hi ++ usesO mx
 | .nileq _ _ x | .b2s x | .i2s x | .s2b _ x | .rng _ x | .nxt x => x.uses
 | .mm _ xs => usesXs xs
 | .aeq _ _ x y | .sidx x y | .cpy _ x y | .mget _ _ _ x y | .ment _ _ x y => x.uses ++ y.uses
 | .sslc x lo hi | .slcA _ _ x lo hi => x.uses ++ usesO lo ++ usesO hi
 | .mkmap _ => []
 | .loadR _ _ r x => r :: x.uses
 | .storeA _ rs a x => rs ++ a.uses ++ x.uses
 | .loadA _ _ rs x => rs ++ x.uses
 | .storeT _ r a x => r :: (a.uses ++ x.uses)
 | .mput _ x k v | .mst x k v => x.uses ++ k.uses ++ v.uses
 | .pcall _ xs | .scall _ xs | .scallE _ xs | .kcall _ _ xs => usesXs xs
 | .scallA rs _ xs => rs ++ usesXs xs
 | .vcall _ f xs => f.uses ++ usesXs xs
def SOper.uses (o : SOper) : List Nat := o.op.uses ++ (match o.guard with | some (g, _) => [g] | none => [])
theorem X.ev_congr {e f : Env} {x : X} (h : ∀ i ∈ x.uses, f i = e i) : x.ev f = x.ev e := by
 cases x with
 | t i => exact h i (by simp [X.uses])
 | c v => rfl
theorem map_ev_congr {e f : Env} : ∀ {xs : List X}, (∀ i ∈ usesXs xs, f i = e i) → xs.map (X.ev f) = xs.map (X.ev e)
 | [], _ => rfl
 | x :: xs, h => by
  simp only [usesXs, List.mem_append] at h
  simp only [List.map_cons, X.ev_congr (fun i hi => h i (.inl hi)), map_ev_congr (fun i hi => h i (.inr hi))]
theorem fillC_congr {e f : Env} : ∀ {ps : List (Nat × Nat × X)} {cs : List V}, (∀ i ∈ usesXs (ps.map (·.2.2)), f i = e i) → fillC f cs ps = fillC e cs ps
 | [], _, _ => rfl
 | (off, sz, x) :: ps, cs, h => by
  simp only [List.map_cons, usesXs, List.mem_append] at h
  simp only [fillC, X.ev_congr (fun i hi => h i (.inl hi))]
  split
  ·split
   ·exact fillC_congr (fun i hi => h i (.inr hi))
   ·rfl
  ·rfl
theorem fillE_congr {e f : Env} {sz : Nat} : ∀ {ps : List (Nat × X)} {es : List (List V)}, (∀ i ∈ usesXs (ps.map (·.2)), f i = e i) → fillE f sz es ps = fillE e sz es ps
 | [], _, _ => rfl
 | (j, x) :: ps, es, h => by
  simp only [List.map_cons, usesXs, List.mem_append] at h
  simp only [fillE, X.ev_congr (fun i hi => h i (.inl hi))]
  split
  ·split
   ·exact fillE_congr (fun i hi => h i (.inr hi))
   ·rfl
  ·rfl
theorem bounds_congr {e f : Env} {len : Nat} {lo hi mx : Option X} (h1 : ∀ i ∈ usesO lo, f i = e i) (h2 : ∀ i ∈ usesO hi, f i = e i) (h3 : ∀ i ∈ usesO mx, f i = e i) : bounds f len lo hi mx = bounds e len lo hi mx := by
 unfold bounds
 cases lo <;> cases hi <;> cases mx <;> simp only [usesO] at h1 h2 h3 <;> (try simp only [X.ev_congr h1]) <;> (try simp only [X.ev_congr h2]) <;> (try simp only [X.ev_congr h3]) <;> (try rfl)
theorem mmGo_congr {e f : Env} {mx : Bool} {k : IntKind} : ∀ {xs : List X} {p : Int}, (∀ i ∈ usesXs xs, f i = e i) → mmGo f mx k p xs = mmGo e mx k p xs
 | [], _, _ => rfl
 | x :: xs, p, h => by
  simp only [usesXs, List.mem_append] at h
  simp only [mmGo, X.ev_congr (fun i hi => h i (.inl hi))]
  split
  ·split
   ·exact mmGo_congr (fun i hi => h i (.inr hi))
   ·rfl
  ·rfl
theorem ev1_congr {base : Nat} {e f : Env} {s : SOp} (h : ∀ i ∈ s.uses, f i = e i) : ev1 base f H s = ev1 base e H s := by
 cases s <;> simp only [SOp.uses, List.mem_append] at h <;> simp only [ev1]
 case mv | box | load | loadC | loadN | faddr | fld | un | conv | ext | len | nilck | mksl | nileq | b2s | i2s | s2b | rng | nxt | mark => rw [X.ev_congr h]
 case mm mx xs =>
  cases xs with
  | nil => rfl
  | cons x xs =>
   simp only [usesXs, List.mem_append] at h
   simp only [X.ev_congr (fun i hi => h i (.inl hi)), mmGo_congr (fun i hi => h i (.inr hi))]
 case loadR =>
  simp only [List.mem_cons] at h
  rw [X.ev_congr (fun i hi => h i (.inr hi)), h _ (.inl rfl)]
 case storeA sz rs a x =>
  have hr : rs.map f = rs.map e := List.map_congr_left fun r hr => h r (.inl (.inl hr))
  have hall : ∀ id, rs.all (fun r => (f r).ptrId? != some id) = rs.all (fun r => (e r).ptrId? != some id) := by
   intro id
   have h1 : ∀ g : Env, rs.all (fun r => (g r).ptrId? != some id) = (rs.map g).all (fun v => v.ptrId? != some id) := fun g => by rw [List.all_map]; rfl
   rw [h1, h1, hr]
  rw [X.ev_congr (fun i hi => h i (.inl (.inr hi))), X.ev_congr (fun i hi => h i (.inr hi))]
  simp only [hall]
 case loadA sz ag rs x =>
  have hr : rs.map f = rs.map e := List.map_congr_left fun r hr => h r (.inl hr)
  have hall : ∀ id, rs.all (fun r => (f r).ptrId? != some id) = rs.all (fun r => (e r).ptrId? != some id) := by
   intro id
   have h1 : ∀ g : Env, rs.all (fun r => (g r).ptrId? != some id) = (rs.map g).all (fun v => v.ptrId? != some id) := fun g => by rw [List.all_map]; rfl
   rw [h1, h1, hr]
  rw [X.ev_congr (fun i hi => h i (.inr hi))]
  simp only [hall]
 case storeT =>
  simp only [List.mem_cons, List.mem_append] at h
  rw [X.ev_congr (fun i hi => h i (.inr (.inl hi))), X.ev_congr (fun i hi => h i (.inr (.inr hi))), h _ (.inl rfl)]
 case mput | mst => rw [X.ev_congr (fun i hi => h i (.inl (.inl hi))), X.ev_congr (fun i hi => h i (.inl (.inr hi))), X.ev_congr (fun i hi => h i (.inr hi))]
 case sslc | slcA =>
  rw [X.ev_congr (fun i hi => h i (.inl (.inl hi)))]
  simp only [bounds_congr (fun i hi => h i (.inl (.inr hi))) (fun i hi => h i (.inr hi)) (fun i hi => by simp [usesO] at hi : ∀ i ∈ usesO none, f i = e i)]
 case pick => rw [X.ev_congr (fun i hi => h i (.inl (.inl hi))), X.ev_congr (fun i hi => h i (.inl (.inr hi))), X.ev_congr (fun i hi => h i (.inr hi))]
 case build => rw [fillC_congr h]
 case bslice | bsliceG => rw [fillE_congr h]
 case bsliceR s n z ps => rw [fillC_congr (ps := ps.map fun q => (q.1 * z.length, z.length, q.2)) (by rw [List.map_map]; exact h)]
 case store | storeN | iaddr | iaddrA | idx | bin | beq | app | appG | aeq | sidx | cpy | mget | ment => rw [X.ev_congr (fun i hi => h i (.inl hi)), X.ev_congr (fun i hi => h i (.inr hi))]
 case mkfn => rw [map_ev_congr h]
 case slc =>
  rw [X.ev_congr (fun i hi => h i (.inl (.inl (.inl hi))))]
  split
  ·rw [bounds_congr (fun i hi => h i (.inl (.inl (.inr hi)))) (fun i hi => h i (.inl (.inr hi))) (fun i hi => h i (.inr hi))]
  ·rw [bounds_congr (fun i hi => h i (.inl (.inl (.inr hi)))) (fun i hi => h i (.inl (.inr hi))) (fun i hi => h i (.inr hi))]
  ·rfl
theorem wanted_congr {e f : Env} {o : SOper} (h : ∀ i ∈ o.uses, f i = e i) : wanted f o = wanted e o := by
 unfold wanted
 split
 ·rfl
 ·rename_i g want hg
  rw [h g (by simp [SOper.uses, hg])]
def SOp.root : SOp → Option Nat
 | .loadR _ _ r _ => some r
 | _ => none
def SOp.slot : SOp → Option Nat
 | .box s _ | .alloc s _ | .mksl s _ _ _ | .bsliceR s _ _ _ | .storeN s _ _ _ => some s
 | _ => none
def SOp.avoid : SOp → List Nat
 | .storeA _ rs _ _ => rs
 | .scallA rs _ _ => rs
 | _ => []
def SOp.cls : SOp → Nat
 | .load _ _ true _ => 1
 | .load _ _ false _ => 3
 | .box _ _ | .alloc _ _ | .mksl _ _ _ _ | .bsliceR _ _ _ _ => 2
 | .app _ _ _ _ _ => 5
 | .vcall true _ _ => 3
 | .kcall true _ _ => 8
 | .loadR _ _ _ _ => 6
 | .storeA _ _ _ _ => 7
 | .storeN _ _ _ _ => 9
 | .scallA _ _ _ => 10
 | .scallE _ _ => 4
 | .mget _ _ _ _ _ => 3
 | .store _ _ _ | .scall _ _ | .vcall false _ _ | .s2b _ _ | .mkmap _ | .mput _ _ _ _ | .ment _ _ _ _ | .mst _ _ _ | .rng _ _ | .nxt _ | .cpy _ _ _ | .kcall false _ _ | .appG _ _ _ _ _ _ | .bsliceG _ _ _ _ | .mark _ | .loadN _ _ | .loadA _ _ _ _ | .storeT _ _ _ _ => 4
 | _ => 0
def CellsAs (base : Nat) (H Hb : Heap) : Prop := ∀ (id : Nat) (cs : List V), id < base → H[id]? = some (some (.cells cs)) → Hb[id]? = some (some (.cells cs))
def ZoneLike (base : Nat) (H : Heap) (id : Nat) : Prop := (base ≤ id ∧ isFree H id = true) ∨ ∃ k, H[id]? = some (some (.zone k))
structure Chr (P : Program) (fm : Fm) (base : Nat) (o : SOper) (e : Env) (H : Heap) (e1 : Env) (H1 : Heap) (v : V) : Prop where
 env : e1 = e.put o.dst v
 same : ∀ f, (∀ i ∈ o.uses, f i = e i) → SS P fm base o f H (f.put o.dst v) H1
 c0 : o.op.cls = 0 → H1 = H ∧ ∀ f Hb, (∀ i ∈ o.uses, f i = e i) → SS P fm base o f Hb (f.put o.dst v) Hb
 c1 : o.op.cls = 1 → H1 = H ∧ ∀ f Hb, (∀ i ∈ o.uses, f i = e i) → CellsAs base H Hb → SS P fm base o f Hb (f.put o.dst v) Hb
 c2 : o.op.cls = 2 → (H1 = H ∧ ∀ f Hb, (∀ i ∈ o.uses, f i = e i) → SS P fm base o f Hb (f.put o.dst v) Hb) ∨
  ∃ s blk, o.op.slot = some s ∧ (∃ cs, blk = Blk.cells cs) ∧ isFree H (base + s) = true ∧ H1 = H.set (base + s) (some blk) ∧ ∀ f Hb, (∀ i ∈ o.uses, f i = e i) → isFree Hb (base + s) = true → SS P fm base o f Hb (f.put o.dst v) (Hb.set (base + s) (some blk))
 c3 : o.op.cls = 3 → H1 = H
 c6 : o.op.cls = 6 → H1 = H ∧ ∀ f Hb, (∀ i ∈ o.uses, f i = e i) → (∀ r id, o.op.root = some r → (e r).ptrId? = some id → Hb[id]? = H[id]?) → SS P fm base o f Hb (f.put o.dst v) Hb
 c7 : o.op.cls = 7 → (H1 = H ∧ ∀ f Hb, (∀ i ∈ o.uses, f i = e i) → SS P fm base o f Hb (f.put o.dst v) Hb) ∨
  ∃ id blk, H1 = H.set id (some blk) ∧ ∀ r ∈ o.op.avoid, (e r).ptrId? ≠ some id
 c8 : o.op.cls = 8 → CellsAs base H H1 ∧ CellsAs base H1 H
 c5 : o.op.cls = 5 → (H1 = H ∧ ∀ f Hb, (∀ i ∈ o.uses, f i = e i) → SS P fm base o f Hb (f.put o.dst v) Hb) ∨
  ∃ id k, ZoneLike base H id ∧ H1 = H.set id (some (.zone k)) ∧ ∀ f Hb, (∀ i ∈ o.uses, f i = e i) → Hb[id]? = H[id]? → SS P fm base o f Hb (f.put o.dst v) (Hb.set id (some (.zone k)))
 c9 : o.op.cls = 9 → (H1 = H ∧ ∀ f Hb, (∀ i ∈ o.uses, f i = e i) → SS P fm base o f Hb (f.put o.dst v) Hb) ∨
  ∃ s cs blk, o.op.slot = some s ∧ H[base + s]? = some (some (.cells cs)) ∧ H1 = H.set (base + s) (some blk) ∧ ∀ f Hb, (∀ i ∈ o.uses, f i = e i) → Hb[base + s]? = H[base + s]? → SS P fm base o f Hb (f.put o.dst v) (Hb.set (base + s) (some blk))
 c10 : o.op.cls = 10 → Leaves e o.op.avoid H H1
theorem ev1_c0 {base : Nat} {e : Env} {s : SOp} {v : V} (h : ev1 base e H s = some (v, H1)) (hc : s.cls = 0) : H1 = H ∧ ∀ Hb, ev1 base e Hb s = some (v, Hb) := by
 cases s <;> simp only [SOp.cls, reduceCtorEq, Nat.succ_ne_self] at hc <;> simp only [ev1] at h ⊢
 case mv | mkfn => simp only [Option.some.injEq, Prod.mk.injEq] at h; obtain ⟨rfl, rfl⟩ := h; simp
 case bin | un =>
  rw [Option.map_eq_some_iff] at h
  obtain ⟨u, hu, h⟩ := h
  cases h
  exact ⟨rfl, fun Hb => by rw [hu]; rfl⟩
 case load sz ag old x => cases old <;> simp [SOp.cls] at hc
 case vcall ro f xs => cases h
 case kcall ro f xs => cases h
 all_goals
  revert h
  repeat' split
  all_goals intro h
  all_goals first
   | (cases h; done)
   | (simp only [Option.some.injEq, Prod.mk.injEq] at h; obtain ⟨rfl, rfl⟩ := h; exact ⟨rfl, fun _ => rfl⟩)
   | (rw [Option.map_eq_some_iff] at h; obtain ⟨u, hu, h⟩ := h; cases h; exact ⟨rfl, fun Hb => by rw [hu]; rfl⟩)
theorem ev1_c1 {base : Nat} {e : Env} {s : SOp} {v : V} (h : ev1 base e H s = some (v, H1)) (hc : s.cls = 1) : H1 = H ∧ ∀ Hb : Heap, CellsAs base H Hb → ev1 base e Hb s = some (v, Hb) := by
 cases s with
 | load sz ag old x =>
  cases old
  ·simp [SOp.cls] at hc
  ·simp only [ev1] at h ⊢
   split at h
   ·rename_i id off hp
    split at h
    ·cases h
    ·rename_i hlt
     split at h
     ·rename_i cs hb
      split at h
      ·rename_i hle
       rw [Option.map_eq_some_iff] at h
       obtain ⟨u, hu, h⟩ := h
       cases h
       refine ⟨rfl, fun Hb hag => ?_⟩
       rw [if_neg hlt, hag id cs (by simp at hlt; omega) hb]
       simp only
       rw [if_pos hle, hu]
       rfl
      ·cases h
     ·cases h
   ·split at h
    ·rename_i hle
     rw [Option.map_eq_some_iff] at h
     obtain ⟨u, hu, h⟩ := h
     cases h
     refine ⟨rfl, fun Hb _ => ?_⟩
     rw [if_pos hle, hu]
     rfl
    ·cases h
   ·cases h
 | vcall ro f xs => cases ro <;> simp [SOp.cls] at hc
 | kcall ro f xs => cases ro <;> simp [SOp.cls] at hc
 | _ => simp [SOp.cls] at hc
theorem SS.chr {base : Nat} {o : SOper} {e e1 : Env} (h : SS P fm base o e H e1 H1) : ∃ v, Chr P fm base o e H e1 H1 v := by
 have sub : ∀ {f : Env}, (∀ i ∈ o.uses, f i = e i) → ∀ i ∈ o.op.uses, f i = e i := fun h i hi => h i (by simp [SOper.uses, hi])
 cases h with
 | ev hw hv =>
  rename_i v
  have all : ∀ f Hb H2, (∀ i ∈ o.uses, f i = e i) → ev1 base e Hb o.op = some (v, H2) → SS P fm base o f Hb (f.put o.dst v) H2 :=
   fun f Hb H2 hf h => SS.ev (by rw [wanted_congr hf]; exact hw) (by rw [ev1_congr (sub hf)]; exact h)
  have hno : o.op.cls ≠ 8 := by
   intro hc
   unfold SOp.cls at hc
   split at hc <;> first | (cases hc; done) | skip
   rename_i hop
   rw [hop] at hv; simp [ev1] at hv
  refine ⟨v, rfl, fun f hf => all f H H1 hf hv, ?_, ?_, ?_, ?_, ?_, ?_, fun hc => absurd hc hno, ?_, ?_, ?_⟩
  ·intro hc
   obtain ⟨h1, h2⟩ := ev1_c0 hv hc
   exact ⟨h1, fun f Hb hf => all f Hb Hb hf (h2 Hb)⟩
  ·intro hc
   obtain ⟨h1, h2⟩ := ev1_c1 hv hc
   exact ⟨h1, fun f Hb hf hag => all f Hb Hb hf (h2 Hb hag)⟩
  ·intro hc
   right
   cases hs : o.op with
   | box s x =>
    rw [hs] at hv
    simp only [ev1] at hv
    split at hv
    case h_2 => cases hv
    rename_i cs hcs
    split at hv
    case isFalse => cases hv
    rename_i hf
    cases hv
    refine ⟨s, .cells cs, rfl, ⟨_, rfl⟩, hf, rfl, fun f Hb hfe hfree => all f Hb _ hfe ?_⟩
    rw [hs]
    simp only [ev1, hcs]
    rw [if_pos hfree]
   | alloc s z =>
    rw [hs] at hv
    simp only [ev1] at hv
    split at hv
    case isFalse => cases hv
    rename_i hf
    cases hv
    refine ⟨s, .cells z, rfl, ⟨_, rfl⟩, hf, rfl, fun f Hb hfe hfree => all f Hb _ hfe ?_⟩
    rw [hs]
    simp only [ev1]
    rw [if_pos hfree]
   | mksl s bytes z x =>
    rw [hs] at hv
    simp only [ev1] at hv
    split at hv
    case h_2 => cases hv
    rename_i kd k hk
    split at hv
    case isFalse => cases hv
    rename_i hf
    cases hv
    refine ⟨s, .cells (List.replicate k.toNat z).flatten, rfl, ⟨_, rfl⟩, hf.1, rfl, fun f Hb hfe hfree => all f Hb _ hfe ?_⟩
    rw [hs]
    simp only [ev1, hk]
    rw [if_pos ⟨hfree, hf.2⟩]
   | bsliceR s k z ps =>
    rw [hs] at hv
    simp only [ev1] at hv
    split at hv
    case isFalse => cases hv
    rename_i hf
    split at hv
    case h_2 => cases hv
    rename_i cs hcs
    cases hv
    refine ⟨s, .cells cs, rfl, ⟨_, rfl⟩, hf, rfl, fun f Hb hfe hfree => all f Hb _ hfe ?_⟩
    rw [hs]
    simp only [ev1, hcs]
    rw [if_pos hfree]
   | load sz ag old x => rw [hs] at hc; cases old <;> simp [SOp.cls] at hc
   | vcall ro f xs => rw [hs] at hc; cases ro <;> simp [SOp.cls] at hc
   | kcall ro f xs => rw [hs] at hc; cases ro <;> simp [SOp.cls] at hc
   | _ => rw [hs] at hc; simp [SOp.cls] at hc
  ·intro hc
   cases hs : o.op with
   | load sz ag old x =>
    rw [hs] at hv
    simp only [ev1] at hv
    revert hv
    repeat' split
    all_goals intro hv
    all_goals first
     | (cases hv; done)
     | (rw [Option.map_eq_some_iff] at hv; obtain ⟨u, hu, hv⟩ := hv; cases hv; rfl)
   | vcall ro f xs => rw [hs] at hv; simp [ev1] at hv
   | kcall ro f xs => rw [hs] at hv; simp [ev1] at hv
   | mget ks ok z x k =>
    rw [hs] at hv
    simp only [ev1] at hv
    revert hv
    repeat' split
    all_goals intro hv
    all_goals first
     | (cases hv; done)
     | (cases hv; rfl)
   | _ => rw [hs] at hc; simp [SOp.cls] at hc
  ·intro hc
   cases hs : o.op with
   | loadR sz ag r x =>
    rw [hs] at hv
    have hv0 := hv
    simp only [ev1] at hv
    split at hv
    case h_2 => cases hv
    rename_i id off hp
    split at hv
    case isFalse => cases hv
    rename_i hid
    have hsame := loadAt_same hv
    subst hsame
    refine ⟨rfl, fun f Hb hf hag => all f Hb Hb hf ?_⟩
    have hg := hag r id (by simp [SOp.root]) hid
    rw [hs]
    simp only [ev1, hp]
    rw [if_pos hid]
    unfold loadAt at hv ⊢
    rw [hg]
    revert hv
    repeat' split
    all_goals intro hv
    all_goals first
     | (cases hv; done)
     | (rw [Option.map_eq_some_iff] at hv ⊢; obtain ⟨u, hu, hv⟩ := hv; cases hv; exact ⟨_, hu, rfl⟩)
   | load sz ag old x => rw [hs] at hc; cases old <;> simp [SOp.cls] at hc
   | vcall ro f xs => rw [hs] at hc; cases ro <;> simp [SOp.cls] at hc
   | kcall ro f xs => rw [hs] at hc; cases ro <;> simp [SOp.cls] at hc
   | _ => rw [hs] at hc; simp [SOp.cls] at hc
  ·intro hc
   cases hs : o.op with
   | storeA sz rs x y =>
    rw [hs] at hv
    simp only [ev1] at hv
    split at hv
    case h_2 => cases hv
    rename_i id off hp
    split at hv
    case isFalse => cases hv
    rename_i hav
    obtain ⟨cs, hh⟩ := storeAt_set hv
    refine .inr ⟨id, _, hh, fun r hr => ?_⟩
    rw [List.all_eq_true] at hav
    simpa using hav r hr
   | load sz ag old x => rw [hs] at hc; cases old <;> simp [SOp.cls] at hc
   | vcall ro f xs => rw [hs] at hc; cases ro <;> simp [SOp.cls] at hc
   | kcall ro f xs => rw [hs] at hc; cases ro <;> simp [SOp.cls] at hc
   | _ => rw [hs] at hc; simp [SOp.cls] at hc
  ·intro hc
   cases hs : o.op with
   | app s sz bytes x y =>
    rw [hs] at hv
    simp only [ev1] at hv
    split at hv
    case h_2 => cases hv
    rename_i es tk fs hx hy
    split at hv
    ·rename_i hfs
     cases hv
     refine .inl ⟨rfl, fun f Hb hf => all f Hb Hb hf ?_⟩
     rw [hs]
     simp only [ev1, hx, hy]
     rw [if_pos hfs]
    ·rename_i hfs
     split at hv
     case isFalse => cases hv
     rename_i hg
     right
     cases tk with
     | no => cases hv
     | full =>
      simp only at hv
      split at hv
      case isFalse => cases hv
      rename_i hfree
      cases hv
      refine ⟨base + s, _, .inl ⟨Nat.le_add_right _ _, hfree⟩, rfl, fun f Hb hf hid => all f Hb _ hf ?_⟩
      rw [hs]
      simp only [ev1, hx, hy]
      rw [if_neg hfs, if_pos hg, if_pos (by rw [isFree_iff] at hfree ⊢; rw [hid]; exact hfree)]
     | own q =>
      simp only at hv
      split at hv
      case h_2 => cases hv
      rename_i k hq
      split at hv
      case isFalse => cases hv
      rename_i hk
      cases hv
      refine ⟨q, _, .inr ⟨k, hq⟩, rfl, fun f Hb hf hid => all f Hb _ hf ?_⟩
      rw [hs]
      simp only [ev1, hx, hy]
      rw [if_neg hfs, if_pos hg, hid, hq]
      simp only
      rw [if_pos hk]
   | load sz ag old x => rw [hs] at hc; cases old <;> simp [SOp.cls] at hc
   | vcall ro f xs => rw [hs] at hc; cases ro <;> simp [SOp.cls] at hc
   | kcall ro f xs => rw [hs] at hc; cases ro <;> simp [SOp.cls] at hc
   | _ => rw [hs] at hc; simp [SOp.cls] at hc
  ·intro hc
   cases hs : o.op with
   | storeN s sz x y =>
    rw [hs] at hv
    simp only [ev1] at hv
    split at hv
    case h_2 => cases hv
    rename_i id off hp
    split at hv
    case isFalse => cases hv
    rename_i hid
    subst hid
    right
    unfold storeAt at hv
    split at hv
    case h_2 => cases hv
    rename_i ds cs hds hcs
    split at hv
    case isFalse => cases hv
    rename_i hle
    cases hv
    refine ⟨s, cs, _, rfl, hcs, rfl, fun f Hb hfe hag => all f Hb _ hfe ?_⟩
    rw [hs]
    simp only [ev1, hp]
    rw [if_pos trivial]
    unfold storeAt
    rw [hds, hag, hcs]
    simp only
    rw [if_pos hle]
   | load sz ag old x => rw [hs] at hc; cases old <;> simp [SOp.cls] at hc
   | vcall ro f xs => rw [hs] at hc; cases ro <;> simp [SOp.cls] at hc
   | kcall ro f xs => rw [hs] at hc; cases ro <;> simp [SOp.cls] at hc
   | _ => rw [hs] at hc; simp [SOp.cls] at hc
  ·intro hc
   exfalso
   unfold SOp.cls at hc
   split at hc <;> first | (cases hc; done) | skip
   rename_i hop
   rw [hop] at hv; simp [ev1] at hv
 | skip hw =>
  have all : ∀ f Hb, (∀ i ∈ o.uses, f i = e i) → SS P fm base o f Hb (f.put o.dst .skp) Hb := fun f Hb hf => SS.skip (by rw [wanted_congr hf]; exact hw)
  exact ⟨.skp, rfl, fun f hf => all f H hf, fun _ => ⟨rfl, fun f Hb hf => all f Hb hf⟩, fun _ => ⟨rfl, fun f Hb hf _ => all f Hb hf⟩, fun _ => .inl ⟨rfl, fun f Hb hf => all f Hb hf⟩, fun _ => rfl, fun _ => ⟨rfl, fun f Hb hf _ => all f Hb hf⟩, fun _ => .inl ⟨rfl, fun f Hb hf => all f Hb hf⟩, fun _ => ⟨fun _ _ _ h => h, fun _ _ _ h => h⟩, fun _ => .inl ⟨rfl, fun f Hb hf => all f Hb hf⟩, fun _ => .inl ⟨rfl, fun f Hb hf => all f Hb hf⟩, fun _ _ _ _ _ => rfl⟩
 | pcall hw hop hf =>
  rename_i g xs r H2
  have all : ∀ f Hb, (∀ i ∈ o.uses, f i = e i) → SS P fm base o f Hb (f.put o.dst (frz H2 r).out) Hb := fun f Hb hfe =>
   SS.pcall (by rw [wanted_congr hfe]; exact hw) hop (by rw [map_ev_congr (fun i hi => sub hfe i (by rw [hop]; exact hi))]; exact hf)
  refine ⟨(frz H2 r).out, rfl, fun f hfe => all f H hfe, fun _ => ⟨rfl, all⟩, ?_, ?_, ?_, ?_, ?_, ?_, ?_, ?_, ?_⟩ <;> (intro hc; exfalso; rw [hop] at hc; cases hc)
 | scall hw hop hf =>
  rename_i g xs r H2
  refine ⟨r.cl H.length, rfl, fun f hfe => SS.scall (by rw [wanted_congr hfe]; exact hw) hop (by rw [map_ev_congr (fun i hi => sub hfe i (by rw [hop]; exact hi))]; exact hf), ?_, ?_, ?_, ?_, ?_, ?_, ?_, ?_, ?_, ?_⟩ <;>
   (intro hc; exfalso; rw [hop] at hc; cases hc)
 | scallE hw hop hf hlv =>
  rename_i g xs r H2
  refine ⟨r.cl H.length, rfl, fun f hfe => ?_, ?_, ?_, ?_, ?_, ?_, ?_, ?_, ?_, ?_, ?_⟩
  ·have hxs := map_ev_congr (xs := xs) (e := e) (f := f) (fun i hi => sub hfe i (by rw [hop]; exact hi))
   exact SS.scallE (by rw [wanted_congr hfe]; exact hw) hop (by rw [hxs]; exact hf) (by rw [hxs]; exact hlv)
  all_goals (intro hc; exfalso; rw [hop] at hc; cases hc)
 | scallA hw hop hf hlv =>
  rename_i rs g xs r H2
  have hrs : ∀ f : Env, (∀ i ∈ o.uses, f i = e i) → ∀ i ∈ rs, f i = e i := fun f hfe i hi => sub hfe i (by rw [hop]; simp only [SOp.uses, List.mem_append]; exact .inl hi)
  have hxs : ∀ f : Env, (∀ i ∈ o.uses, f i = e i) → ∀ i ∈ usesXs xs, f i = e i := fun f hfe i hi => sub hfe i (by rw [hop]; simp only [SOp.uses, List.mem_append]; exact .inr hi)
  refine ⟨r.cl H.length, rfl, fun f hfe => SS.scallA (by rw [wanted_congr hfe]; exact hw) hop (by rw [map_ev_congr (hxs f hfe)]; exact hf) (fun q hq id hid => hlv q hq id (by rw [← hrs f hfe q hq]; exact hid)), ?_, ?_, ?_, ?_, ?_, ?_, ?_, ?_, ?_, ?_⟩
  case refine_10 => intro _; rw [hop]; exact hlv
  all_goals (intro hc; exfalso; rw [hop] at hc; cases hc)
 | kcall hw hop hf hro =>
  rename_i ro g xs r
  refine ⟨r, rfl, fun f hfe => SS.kcall (by rw [wanted_congr hfe]; exact hw) hop (by rw [map_ev_congr (fun i hi => sub hfe i (by rw [hop]; exact hi))]; exact hf) hro, ?_, ?_, ?_, ?_, ?_, ?_, ?_, ?_, ?_, ?_⟩
  case refine_7 =>
   intro hc
   rw [hop] at hc
   cases ro with
   | false => simp [SOp.cls] at hc
   | true =>
    obtain ⟨hb, ht⟩ := hro rfl
    have same : ∀ id, id < base → H1[id]? = H[id]? := fun id hid => by
     have h1 : (H1.take H.length)[id]? = H[id]? := by rw [ht]
     rw [List.getElem?_take, if_pos (by omega)] at h1
     exact h1
    exact ⟨fun id cs hid h => by rw [same id hid]; exact h, fun id cs hid h => by rw [same id hid] at h; exact h⟩
  all_goals (intro hc; exfalso; rw [hop] at hc; cases ro <;> simp [SOp.cls] at hc)
 | vcall hw hop hfx hf hro =>
  rename_i ro fx xs g cap r H2
  refine ⟨r.cl H.length, rfl, fun f hfe => ?_, ?_, ?_, ?_, ?_, ?_, ?_, ?_, ?_, ?_, ?_⟩
  ·have hu := sub hfe
   rw [hop] at hu
   simp only [SOp.uses, List.mem_append] at hu
   exact SS.vcall (by rw [wanted_congr hfe]; exact hw) hop (by rw [X.ev_congr (fun i hi => hu i (.inl hi))]; exact hfx) (by rw [map_ev_congr (fun i hi => hu i (.inr hi))]; exact hf) hro
  ·intro hc; rw [hop] at hc; cases ro <;> simp [SOp.cls] at hc
  ·intro hc; rw [hop] at hc; cases ro <;> simp [SOp.cls] at hc
  ·intro hc; rw [hop] at hc; cases ro <;> simp [SOp.cls] at hc
  ·intro hc
   rw [hop] at hc
   cases ro with
   | true => exact hro rfl
   | false => simp [SOp.cls] at hc
  ·intro hc; rw [hop] at hc; cases ro <;> simp [SOp.cls] at hc
  ·intro hc; rw [hop] at hc; cases ro <;> simp [SOp.cls] at hc
  ·intro hc; rw [hop] at hc; cases ro <;> simp [SOp.cls] at hc
  ·intro hc; rw [hop] at hc; cases ro <;> simp [SOp.cls] at hc
  ·intro hc; rw [hop] at hc; cases ro <;> simp [SOp.cls] at hc
  ·intro hc; rw [hop] at hc; cases ro <;> simp [SOp.cls] at hc
 | ycall hw hop hfx hb hl ha hb1 hbo hb2 =>
  rename_i fx xs id e0 ps as bo e1 H1' f0 fps fas fbo x e2 H2 g0 gps gas gbo
  refine ⟨.bool (decide (x = .nx)), rfl, fun f hfe => ?_, ?_, ?_, ?_, ?_, ?_, ?_, ?_, ?_, ?_, ?_⟩
  ·have hu := sub hfe
   rw [hop] at hu
   simp only [SOp.uses, List.mem_append] at hu
   exact SS.ycall (by rw [wanted_congr hfe]; exact hw) hop (by rw [X.ev_congr (fun i hi => hu i (.inl hi))]; exact hfx) hb hl (by rw [map_ev_congr (fun i hi => hu i (.inr hi))]; exact ha) hb1 hbo hb2
  all_goals (intro hc; exfalso; rw [hop] at hc; simp [SOp.cls] at hc)
def V.lit : V → Bool
 | .int _ _ | .bool _ | .str _ | .nilp | .nilf | .nilm => true
 | .vs [] .full => true
 | _ => false
theorem enc_lit {c : V} {x : Value} (h : c.lit = true) (he : Enc M w c x) : Enc M' w' c x := by
 cases c with
 | vs es tk =>
  cases es with
  | cons e es => simp [V.lit] at h
  | nil =>
   cases tk <;> simp [V.lit] at h
   simp only [Enc] at he ⊢
   obtain ⟨p, a, cap, hv, hl, hs, ht⟩ := he
   refine ⟨p, a, cap, hv, hl, ?_, ht⟩
   cases a with
   | none => exact hs
   | some ad => exact ⟨hs.1, hs.2.1, by simp only [EncRows]⟩
 | _ => first | (simp [V.lit] at h; done) | (simpa only [Enc] using he)
theorem encL_lit : ∀ {cs : List V} {xs : List Value}, cs.all V.lit = true → EncL M w cs xs → EncL M' w' cs xs
 | [], _, _, e => by simpa only [EncL] using e
 | c :: cs, _, h, e => by
  simp only [List.all_cons, Bool.and_eq_true] at h
  simp only [EncL] at e ⊢
  obtain ⟨x, xs', hv, e1, e2⟩ := e
  exact ⟨x, xs', hv, enc_lit h.1 e1, encL_lit h.2 e2⟩
structure More (M1 M2 : Mm) : Prop where
 al : ∀ i, M1.al i = true → M2.al i = true ∧ M2.j i = M1.j i ∧ M2.z i = M1.z i
 lim : M2.lim = M1.lim
 fm : M2.fm = M1.fm
mutual
theorem Enc.more {M1 M2 : Mm} (hm : More M1 M2) : ∀ {c : V} {x : Value}, Enc M1 w c x → Enc M2 w c x
 | .undef, _, _ => by simp only [Enc]
 | .skp, _, e => by simpa only [Enc] using e
 | .any, _, e => by simpa only [Enc] using e
 | .int _ _, _, e => by simpa only [Enc] using e
 | .bool _, _, e => by simpa only [Enc] using e
 | .str _, _, e => by simpa only [Enc] using e
 | .nilp, _, e => by simpa only [Enc] using e
 | .nilf, _, e => by simpa only [Enc] using e
 | .nilm, _, e => by simpa only [Enc] using e
 | .mp id, _, e => by simp only [Enc] at e ⊢; obtain ⟨a, b, _⟩ := hm.al id e.1; exact ⟨a, by rw [b]; exact e.2⟩
 | .yld id, _, e => by simp only [Enc] at e ⊢; obtain ⟨a, b, _⟩ := hm.al id e.1; exact ⟨a, by rw [b]; exact e.2⟩
 | .gs id k, _, e => by simp only [Enc] at e ⊢; obtain ⟨a, b, z⟩ := hm.al id e.1; exact ⟨a, by rw [b, z]; exact e.2⟩
 | .ptr id off, _, e => by simp only [Enc] at e ⊢; obtain ⟨a, b, _⟩ := hm.al id e.1; exact ⟨a, by rw [b]; exact e.2⟩
 | .rs id off k _, _, e => by simp only [Enc] at e ⊢; obtain ⟨a, b, _⟩ := hm.al id e.1; exact ⟨a, by rw [b]; exact e.2⟩
 | .cptr cs, _, e => by
  simp only [Enc] at e ⊢
  obtain ⟨p, b, o, hv, e⟩ := e
  exact ⟨p, b, o, hv, EncRow.more hm e⟩
 | .vs es tk, _, e => by
  simp only [Enc] at e ⊢
  obtain ⟨p, a, cap, hv, hc, hs, ht⟩ := e
  refine ⟨p, a, cap, hv, hc, ?_, ?_⟩
  ·cases a with
   | none => exact hs
   | some ad => exact ⟨hs.1, hs.2.1, EncRows.more hm hs.2.2⟩
  ·cases tk with
   | no => trivial
   | full => exact ht
   | own q => simp only [TkOk] at ht ⊢; obtain ⟨a, _, z⟩ := hm.al q ht.1; rw [z]; exact ⟨a, ht.2⟩
 | .fn f cap, _, e => by
  simp only [Enc] at e ⊢
  obtain ⟨xs, hv, e⟩ := e
  exact ⟨xs, by rw [hm.fm]; exact hv, EncL.more hm e⟩
 | .agg cs, _, e => by
  simp only [Enc] at e ⊢
  obtain ⟨p, xs, hv, e⟩ := e
  exact ⟨p, xs, hv, EncL.more hm e⟩
 | .tup cs, _, e => by
  simp only [Enc] at e ⊢
  obtain ⟨xs, hv, e⟩ := e
  exact ⟨xs, hv, EncL.more hm e⟩
theorem EncL.more {M1 M2 : Mm} (hm : More M1 M2) : ∀ {cs : List V} {xs : List Value}, EncL M1 w cs xs → EncL M2 w cs xs
 | [], _, e => by simpa only [EncL] using e
 | c :: cs, _, e => by
  simp only [EncL] at e ⊢
  obtain ⟨x, xs', hv, e1, e2⟩ := e
  exact ⟨x, xs', hv, Enc.more hm e1, EncL.more hm e2⟩
theorem EncRow.more {M1 M2 : Mm} (hm : More M1 M2) {b : Nat} : ∀ {cs : List V} {o : Nat}, EncRow M1 w b cs o → EncRow M2 w b cs o
 | [], _, _ => by simp only [EncRow]
 | c :: cs, o, e => by
  simp only [EncRow] at e ⊢
  obtain ⟨⟨x, hx, rd, e1⟩, e2⟩ := e
  exact ⟨⟨x, hx, fun l hl => rd l (by rw [← hm.lim]; exact hl), Enc.more hm e1⟩, EncRow.more hm e2⟩
theorem EncRows.more {M1 M2 : Mm} (hm : More M1 M2) {b : Nat} : ∀ {es : List (List V)} {o : Nat}, EncRows M1 w b es o → EncRows M2 w b es o
 | [], _, _ => by simp only [EncRows]
 | e :: es, o, k => by
  simp only [EncRows] at k ⊢
  exact ⟨EncRow.more hm k.1, EncRows.more hm k.2⟩
end
theorem BRel.more {M1 M2 : Mm} (hm : More M1 M2) {id : Nat} {blk : Blk} (hj : M2.j id = M1.j id) (hz : M2.z id = M1.z id) (h : BRel M1 w id blk) : BRel M2 w id blk := by
 cases blk with
 | cells cs =>
  simp only [BRel, hj, hm.lim] at h ⊢
  obtain ⟨a, b, xs, e, c, d⟩ := h
  exact ⟨a, b, xs, e, c, EncL.more hm d⟩
 | zone k => simpa only [BRel, hz, hm.lim] using h
 | froz cs =>
  simp only [BRel, hj, hm.lim] at h ⊢
  obtain ⟨a, b, xs, e, c, d⟩ := h
  exact ⟨a, b, xs, e, c, EncL.more hm d⟩
 | map es =>
  simp only [BRel, hj, hm.lim] at h ⊢
  obtain ⟨b, ents, c, d, d', f⟩ := h
  exact ⟨b, ents, c, EncL.more hm d, EncL.more hm d', f⟩
 | siter t pos => simpa only [BRel, hj, hm.lim] using h
 | grow cs sz fu =>
  simp only [BRel, hj, hz, hm.lim] at h ⊢
  obtain ⟨a, b, z1, z2, xs, e, c, s, d, fl⟩ := h
  exact ⟨a, b, z1, z2, xs, e, c, s, EncL.more hm d, fl⟩
 | loop e0 ps as bo st =>
  simp only [BRel, hj, hm.lim, hm.fm] at h ⊢
  obtain ⟨a, r, hc, h1, h2, h3, h4, h5⟩ := h
  exact ⟨a, r, hc, h1, h2, h3, h4, fun p hp => Enc.more hm (h5 p hp)⟩
theorem BRel.upto (n : Nat) {id : Nat} {blk : Blk} (h : BRel M w id blk) : BRel (M.upto n) w id (blk.cl n) := by
 cases blk with
 | cells cs =>
  simp only [BRel, Blk.cl] at h ⊢
  obtain ⟨a, b, xs, e, c, d⟩ := h
  refine ⟨fun v hv => ?_, b, xs, e, c, by rw [clL_eq_map, List.length_map, ← clL_eq_map]; exact EncL.upto n d⟩
  rw [clL_eq_map, List.mem_map] at hv
  obtain ⟨c', hc', rfl⟩ := hv
  exact V.cl_scal n c' (a c' hc')
 | grow cs sz fu =>
  simp only [BRel, Blk.cl] at h ⊢
  obtain ⟨a, b, z1, z2, xs, e, c, s, d, fl⟩ := h
  refine ⟨fun v hv => ?_, b, z1, z2, xs, e, c, s, by rw [clL_eq_map, List.length_map, ← clL_eq_map]; exact EncL.upto n d, by rw [clL_eq_map, List.length_map]; exact fl⟩
  rw [clL_eq_map, List.mem_map] at hv
  obtain ⟨c', hc', rfl⟩ := hv
  exact V.cl_scal n c' (a c' hc')
 | zone k => simpa only [BRel, Blk.cl, Mm.upto] using h
 | froz cs =>
  simp only [BRel, Blk.cl] at h ⊢
  obtain ⟨a, b, xs, e, c, d⟩ := h
  refine ⟨fun v hv => ?_, by rw [clL_eq_map, List.length_map]; exact b, xs, e, c, by rw [clL_eq_map, List.length_map, ← clL_eq_map]; exact EncL.upto n d⟩
  rw [clL_eq_map, List.mem_map] at hv
  obtain ⟨c', hc', rfl⟩ := hv
  rw [V.cl_pure n c' (a c' hc')]; exact a c' hc'
 | map es =>
  simp only [BRel, Blk.cl] at h ⊢
  obtain ⟨b, ents, c, d, d', f⟩ := h
  refine ⟨b, ents, by rw [List.length_map]; exact c, ?_, ?_, f⟩
  ·have := EncL.upto n d
   rw [clL_eq_map, List.map_map] at this
   rw [List.map_map]; exact this
  ·have := EncL.upto n d'
   rw [clL_eq_map, List.map_map] at this
   rw [List.map_map]; exact this
 | siter t pos => simpa only [BRel, Blk.cl, Mm.upto] using h
 | loop e0 ps as bo st =>
  simp only [BRel, Blk.cl] at h ⊢
  obtain ⟨a, r, hc, h1, h2, h3, h4, h5⟩ := h
  refine ⟨a, r, hc, h1, h2, h3, h4, fun p hp => ?_⟩
  obtain ⟨q, hq, rfl⟩ := List.mem_map.1 hp
  exact Enc.upto n (h5 q hq)
theorem FOK.frame {base k f : Nat} {args : List V} {r : V} {z : List V} (hf : FOK P fm f args H r H1) (hk : H[k]? = some none) (hbk : base ≤ k) (ha : ∀ v ∈ args, v.cl base = v) (hH : H.map (Option.map (Blk.cl base)) = H) (hk1 : H1[k]? = some none)
  (hz : z.all V.lit = true) : FOK P fm f args (H.set k (some (.cells z))) r (H1.set k (some (.cells z))) := by
 have hlt : k < H.length := (List.getElem?_eq_some_iff.1 hk).1
 have hlt1 : k < H1.length := (List.getElem?_eq_some_iff.1 hk1).1
 refine ⟨by simpa using hf.1, fun M w vargs hm hr hargs => ?_⟩
 have get : ∀ id, id ≠ k → (H.set k (some (Blk.cells z)))[id]? = H[id]? := fun id h => getElem?_set_ne h
 have get1 : ∀ id, id ≠ k → (H1.set k (some (Blk.cells z)))[id]? = H1[id]? := fun id h => getElem?_set_ne h
 have gk : (H.set k (some (Blk.cells z)))[k]? = some (some (.cells z)) := List.getElem?_set_self hlt
 have gk1 : (H1.set k (some (Blk.cells z)))[k]? = some (some (.cells z)) := List.getElem?_set_self hlt1
 obtain ⟨M0, hM0⟩ : ∃ M0 : Mm, M0 = { M with al := fun i => decide (i ≠ k) && M.al i } := ⟨_, rfl⟩
 have more0 : More (M.upto base) M0 := ⟨fun i hi => by
  subst hM0
  simp only [Mm.upto, Bool.and_eq_true, decide_eq_true_eq] at hi ⊢
  exact ⟨⟨by omega, hi.2⟩, trivial, trivial⟩, by subst hM0; rfl, by subst hM0; rfl⟩
 have cls : ∀ {c : V} {x : Value}, c.cl base = c → Enc M w c x → Enc M0 w c x := fun hc he => by
  have := Enc.more more0 (Enc.upto base he)
  rwa [hc] at this
 have clsB : ∀ {id : Nat} {blk : Blk}, id ≠ k → H[id]? = some (some blk) → BRel M w id blk → BRel M0 w id blk := fun {id blk} hne hb h => by
  have hcl : blk.cl base = blk := by
   have h1 : (H.map (Option.map (Blk.cl base)))[id]? = H[id]? := by rw [hH]
   rw [List.getElem?_map, hb] at h1
   simpa using h1
  have := BRel.more more0 (id := id) (by subst hM0; rfl) (by subst hM0; rfl) (BRel.upto base h)
  rwa [hcl] at this
 have hmk : M.al k = true := (hr.dom k).2 ⟨_, gk⟩
 have hbk' := hr.rel k _ gk
 simp only [BRel] at hbk'
 obtain ⟨hzs, hzl, xs, te, hzh, hze⟩ := hbk'
 have bl0 : ∀ id, id ≠ k → blOf M0 H id = blOf M (H.set k (some (.cells z))) id := fun id hne => by subst hM0; simp only [blOf, get id hne]
 have blk : blOf M (H.set k (some (.cells z))) k = some (M.j k) := by simp [blOf, gk]
 have blk0 : blOf M0 H k = none := by simp [blOf, hk]
 have hno : ¬ Owned M0 H (M.j k) := by
  rintro ⟨id, hid⟩
  have hne : id ≠ k := fun e => by rw [e, blk0] at hid; cases hid
  rw [bl0 id hne] at hid
  exact hne (hr.inj id k _ hid blk)
 have own0 : ∀ b, Owned M0 H b → Owned M (H.set k (some (.cells z))) b := by
  rintro b ⟨id, hid⟩
  have hne : id ≠ k := fun e => by rw [e, blk0] at hid; cases hid
  exact ⟨id, by rw [← bl0 id hne]; exact hid⟩
 have hr0 : HRel M0 w H := by
  refine ⟨fun id => ?_, fun id b hb => ?_, fun id id' b h1 h2 => ?_, fun g cs hg => ?_⟩
  ·by_cases hne : id = k
   ·subst hne
    rw [hk]
    subst hM0
    simp
   ·have := hr.dom id
    rw [get id hne] at this
    rw [← this]
    subst hM0
    simp [hne]
  ·have hne : id ≠ k := fun e => by rw [e, hk] at hb; cases hb
   exact clsB hne hb (hr.rel id b (by rw [get id hne]; exact hb))
  ·have hne : id ≠ k := fun e => by rw [e, blk0] at h1; cases h1
   have hne' : id' ≠ k := fun e => by rw [e, blk0] at h2; cases h2
   rw [bl0 id hne] at h1
   rw [bl0 id' hne'] at h2
   exact hr.inj id id' b h1 h2
  ·have hg' : M.fm.gl g = some cs := by subst hM0; exact hg
   exact cls (by simp only [V.cl]) (hr.glo g cs hg')
 have hargs0 : EncL M0 w args vargs := encL_of (encL_length hargs) fun i c x hc hx => by
  obtain ⟨x', hx', he⟩ := encL_get hargs hc
  rw [hx] at hx'; cases hx'
  exact cls (ha c (List.mem_of_getElem? hc)) he
 obtain ⟨hF, hcall⟩ := hf.2 M0 w vargs (by subst hM0; exact hm) hr0 hargs0
 refine ⟨hF, hcall.mono ?_⟩
 rintro en w' ⟨rv, M', rfl, he, hs, hi, hr'⟩
 have hal1 : M'.al k = false := by
  cases h : M'.al k with
  | false => rfl
  | true => obtain ⟨b, hb⟩ := (hr'.dom k).1 h; rw [hk1] at hb; cases hb
 obtain ⟨M2, hM2⟩ : ∃ M2 : Mm, M2 = { M' with al := fun i => decide (i = k) || M'.al i, j := fun i => if i = k then M.j k else M'.j i, z := fun i => if i = k then M.z k else M'.z i } := ⟨_, rfl⟩
 have j2 : M2.j k = M.j k := by subst hM2; simp
 have more2 : More M' M2 := ⟨fun i hi => by
  have hne : i ≠ k := fun e => by rw [e, hal1] at hi; cases hi
  subst hM2
  simp [hi, hne], by subst hM2; rfl, by subst hM2; rfl⟩
 have hsz : M.j k < w.heap.size := (Array.getElem?_eq_some_iff.1 hzh).1
 have hzh' : w'.heap[M.j k]? = w.heap[M.j k]? := hs.same _ hsz hno
 have hl' : M'.lim (M.j k) = some 0 := by
  rw [hs.limo _ hsz hno]; subst hM0; exact hzl
 have bl2 : ∀ id, id ≠ k → blOf M2 (H1.set k (some (.cells z))) id = blOf M' H1 id := fun id hne => by subst hM2; simp only [blOf, get1 id hne, hne, if_false]
 have bl2k : blOf M2 (H1.set k (some (.cells z))) k = some (M.j k) := by simp [blOf, gk1, j2]
 have hno1 : ¬ Owned M' H1 (M.j k) := fun ho => hno (hs.own _ hsz ho)
 refine ⟨rv, M2, rfl, Enc.more more2 he, ?_, ?_, ?_⟩
 ·exact {
   os := hs.os
   tape := hs.tape
   output := hs.output
   size := hs.size
   same := fun b hb ho => hs.same b hb fun h => ho (own0 b h)
   cells := fun b l o hb hl ho => hs.cells b l o hb (by subst hM0; exact hl) ho
   limn := fun b hb hl => by
    have := hs.limn b hb (by subst hM0; exact hl)
    subst hM2; exact this
   lims := fun b l hb hl => by
    have := hs.lims b l hb (by subst hM0; exact hl)
    subst hM2; exact this
   limo := fun b hb ho => by
    have := hs.limo b hb fun h => ho (own0 b h)
    subst hM2; subst hM0; exact this
   own := fun b hb ho => by
    obtain ⟨id, hid⟩ := ho
    by_cases hne : id = k
    ·subst hne
     rw [bl2k] at hid
     cases hid
     exact ⟨_, blk⟩
    ·rw [bl2 id hne] at hid
     exact own0 b (hs.own b hb ⟨id, hid⟩)
   fm := by
    have := hs.fm
    subst hM2; subst hM0; exact this }
 ·intro id hid hal
  by_cases hne : id = k
  ·subst hne
   subst hM2
   simp [Zle.refl]
  ·have h0 : M0.al id = true := by subst hM0; simp [hne, hal]
   obtain ⟨a, b, c⟩ := hi id (by simpa using hid) h0
   subst hM2
   subst hM0
   simp [hne, a, b, c]
 ·refine ⟨fun id => ?_, fun id b hb => ?_, fun id id' b h1 h2 => ?_, fun g cs hg => ?_⟩
  ·by_cases hne : id = k
   ·subst hne
    rw [gk1]
    subst hM2
    simp
   ·have := hr'.dom id
    rw [get1 id hne, ← this]
    subst hM2
    simp [hne]
  ·by_cases hne : id = k
   ·subst hne
    rw [gk1] at hb
    cases hb
    simp only [BRel, j2]
    refine ⟨hzs, by subst hM2; exact hl', xs, te, hzh'.trans hzh, encL_lit hz hze⟩
   ·rw [get1 id hne] at hb
    exact BRel.more more2 (by subst hM2; simp [hne]) (by subst hM2; simp [hne]) (hr'.rel id b hb)
  ·by_cases hne : id = k
   ·subst hne
    rw [bl2k] at h1
    cases h1
    by_cases hne' : id' = id
    ·exact hne'.symm
    ·rw [bl2 id' hne'] at h2
     exact absurd ⟨id', h2⟩ hno1
   ·by_cases hne' : id' = k
    ·subst hne'
     rw [bl2k] at h2
     cases h2
     rw [bl2 id hne] at h1
     exact absurd ⟨id, h1⟩ hno1
    ·rw [bl2 id hne] at h1
     rw [bl2 id' hne'] at h2
     exact hr'.inj id id' b h1 h2
  ·have hg' : M'.fm.gl g = some cs := by subst hM2; exact hg
   exact Enc.more more2 (hr'.glo g cs hg')
def compat (a b : Nat) : Bool :=
 match a, b with
 | 0, _ => true
 | _, 0 => true
 | 1, 1 | 1, 2 | 2, 1 | 2, 2 | 1, 3 | 3, 1 | 3, 3 | 1, 5 | 5, 1 | 2, 5 | 5, 2 | 6, 6 | 6, 7 | 7, 6 | 1, 8 | 8, 1 | 1, 9 | 9, 1 | 2, 9 | 9, 2 | 9, 9 | 6, 10 | 10, 6 | 1, 6 | 6, 1 | 3, 6 | 6, 3 => true
 | _, _ => false
def apart (o p : SOp) : Bool :=
 (match o.root with | some r => (p.cls != 7 && p.cls != 10) || p.avoid.contains r | none => true) && (match p.root with | some r => (o.cls != 7 && o.cls != 10) || o.avoid.contains r | none => true) &&
  (match o.slot, p.slot with | some s, some s' => s != s' || (o.cls != 9 && p.cls != 9) | _, _ => true)
def indepE (o p : SOper) : Bool :=
 match o.op, p.op with
 | .scallE _ _, .alloc _ z => z.all V.lit && (match o.dst with | some d => !(p.uses.contains d) && p.dst != some d | none => true) && (match p.dst with | some d => !(o.uses.contains d) | none => true)
 | _, _ => false
def indep0 (o p : SOper) : Bool :=
 apart o.op p.op && compat o.op.cls p.op.cls && (match o.dst with | some d => !(p.uses.contains d) && p.dst != some d | none => true) && (match p.dst with | some d => !(o.uses.contains d) | none => true)
def indepA (o p : SOper) : Bool :=
 (match o.op, p.op with
 | .loadA _ _ rs _, .storeT _ r _ _ => rs.contains r
 | .storeT _ r _ _, .loadA _ _ rs _ => rs.contains r
 | .loadA _ _ _ _, .loadA _ _ _ _ => true
 | _, _ => false) && (match o.dst with | some d => !(p.uses.contains d) && p.dst != some d | none => true) && (match p.dst with | some d => !(o.uses.contains d) | none => true)
def indep (o p : SOper) : Bool := indep0 o p || indepE o p || indepA o p
theorem put_agree {e : Env} {d : Option Nat} {v : V} {us : List Nat} (h : (match d with | some d => !(us.contains d) | none => true) = true) : ∀ i ∈ us, e.put d v i = e i := by
 intro i hi
 cases d with
 | none => rfl
 | some d =>
  simp only [Bool.not_eq_true', List.contains_eq_mem, decide_eq_false_iff_not] at h
  rw [Env.put_some, if_neg (fun (he : i = d) => h (by rw [← he]; exact hi))]
theorem put_comm {e : Env} {d d' : Option Nat} {u v : V} (h : ∀ k, d = some k → d' ≠ some k) : (e.put d u).put d' v = (e.put d' v).put d u := by
 cases d with
 | none => rfl
 | some k =>
  cases d' with
  | none => rfl
  | some k' =>
   have := h k rfl
   funext i
   simp only [Env.put_some]
   by_cases h1 : i = k <;> by_cases h2 : i = k' <;> simp_all
theorem SS.swap0 {base : Nat} {o p : SOper} {e e1 e2 : Env} (h : SS P fm base o e H e1 H1) (k : SS P fm base p e1 H1 e2 H2) (hi : indep0 o p = true) :
  ∃ f Hb, SS P fm base p e H f Hb ∧ SS P fm base o f Hb e2 H2 := by
 obtain ⟨u, hu⟩ := h.chr
 obtain ⟨v, hv⟩ := k.chr
 unfold indep0 at hi
 simp only [Bool.and_eq_true] at hi
 obtain ⟨⟨⟨hap, hc⟩, h1⟩, h2⟩ := hi
 have ha1 : ∀ i ∈ p.uses, e1 i = e i := by
  rw [hu.env]
  refine put_agree ?_
  cases hd : o.dst with
  | none => rfl
  | some d => rw [hd] at h1; simp only [Bool.and_eq_true] at h1; exact h1.1
 have ha1' : ∀ i ∈ p.uses, e i = e1 i := fun i hi => (ha1 i hi).symm
 have ha2 : ∀ i ∈ o.uses, (e.put p.dst v) i = e i := put_agree h2
 have hcomm : (e.put p.dst v).put o.dst u = e2 := by
  rw [hv.env, hu.env]
  exact (put_comm (fun k hk hk' => by rw [hk] at h1; simp [hk'] at h1)).symm
 -- heaps that stay
 have fin0 : H1 = H → H2 = H1 → ∃ f Hb, SS P fm base p e H f Hb ∧ SS P fm base o f Hb e2 H2 := by
  intro e1' e2'
  subst e1'; subst e2'
  exact ⟨_, _, hv.same e ha1', by have := hu.same _ ha2; rw [hcomm] at this; exact this⟩
 have cp : ∀ a b : Nat, compat a b = true → a = 0 ∨ b = 0 ∨ (a = 1 ∧ b = 1) ∨ (a = 1 ∧ b = 2) ∨ (a = 2 ∧ b = 1) ∨ (a = 2 ∧ b = 2) ∨ (a = 1 ∧ b = 3) ∨ (a = 3 ∧ b = 1) ∨ (a = 3 ∧ b = 3) ∨ (a = 1 ∧ b = 5) ∨ (a = 5 ∧ b = 1) ∨ (a = 2 ∧ b = 5) ∨ (a = 5 ∧ b = 2) ∨ (a = 6 ∧ b = 6) ∨ (a = 6 ∧ b = 7) ∨ (a = 7 ∧ b = 6) ∨ (a = 1 ∧ b = 8) ∨ (a = 8 ∧ b = 1) ∨ (a = 1 ∧ b = 9) ∨ (a = 9 ∧ b = 1) ∨ (a = 2 ∧ b = 9) ∨ (a = 9 ∧ b = 2) ∨ (a = 9 ∧ b = 9) ∨ (a = 6 ∧ b = 10) ∨ (a = 10 ∧ b = 6) ∨ (a = 1 ∧ b = 6) ∨ (a = 6 ∧ b = 1) ∨ (a = 3 ∧ b = 6) ∨ (a = 6 ∧ b = 3) := by
  intro a b h
  unfold compat at h
  split at h <;> simp_all
 have cs_set : ∀ (s : Nat) (blk : Blk) (Hb : Heap), CellsAs base Hb (Hb.set (base + s) (some blk)) := fun s blk Hb id cs hid h => by rw [getElem?_set_ne (by omega)]; exact h
 have cs_set' : ∀ (s : Nat) (blk : Blk) (Hb : Heap), CellsAs base (Hb.set (base + s) (some blk)) Hb := fun s blk Hb id cs hid h => by rw [getElem?_set_ne (by omega)] at h; exact h
 have zs_set : ∀ (id k : Nat) (Hb : Heap), ZoneLike base Hb id → CellsAs base Hb (Hb.set id (some (.zone k))) := by
  intro id k Hb hz j cs hj h
  by_cases hji : j = id
  ·subst hji
   rcases hz with ⟨h1, _⟩ | ⟨k', h1⟩
   ·omega
   ·rw [h1] at h; cases h
  ·rw [getElem?_set_ne hji]; exact h
 have zs_set' : ∀ (id k : Nat) (Hb : Heap), ZoneLike base Hb id → CellsAs base (Hb.set id (some (.zone k))) Hb := by
  intro id k Hb hz j cs hj h
  by_cases hji : j = id
  ·subst hji
   have hlt : j < Hb.length := by
    rcases hz with ⟨_, h1⟩ | ⟨k', h1⟩
    ·exact free_lt h1
    ·exact (List.getElem?_eq_some_iff.1 h1).1
   rw [List.getElem?_set_self hlt] at h; cases h
  ·rw [getElem?_set_ne hji] at h; exact h
 have slots : ∀ s s', o.op.slot = some s → p.op.slot = some s' → o.op.cls = 9 ∨ p.op.cls = 9 → base + s' ≠ base + s := by
  intro s s' h1 h2 h3 he
  have hss : s' = s := by omega
  subst hss
  unfold apart at hap
  simp only [h1, h2, Bool.and_eq_true] at hap
  rcases h3 with h3 | h3 <;> simp [h3] at hap
 rcases cp _ _ hc with h0 | h0 | ⟨ha, hb⟩ | ⟨ha, hb⟩ | ⟨ha, hb⟩ | ⟨ha, hb⟩ | ⟨ha, hb⟩ | ⟨ha, hb⟩ | ⟨ha, hb⟩ | ⟨ha, hb⟩ | ⟨ha, hb⟩ | ⟨ha, hb⟩ | ⟨ha, hb⟩ | ⟨ha, hb⟩ | ⟨ha, hb⟩ | ⟨ha, hb⟩ | ⟨ha, hb⟩ | ⟨ha, hb⟩ | ⟨ha, hb⟩ | ⟨ha, hb⟩ | ⟨ha, hb⟩ | ⟨ha, hb⟩ | ⟨ha, hb⟩ | ⟨ha, hb⟩ | ⟨ha, hb⟩ | ⟨ha, hb⟩ | ⟨ha, hb⟩ | ⟨ha, hb⟩ | ⟨ha, hb⟩
 ·obtain ⟨hh, hall⟩ := hu.c0 h0
  subst hh
  exact ⟨_, _, hv.same e ha1', by have := hall _ H2 ha2; rw [hcomm] at this; exact this⟩
 ·obtain ⟨hh, hall⟩ := hv.c0 h0
  subst hh
  exact ⟨_, _, hall e H ha1', by have := hu.same _ ha2; rw [hcomm] at this; exact this⟩
 ·exact fin0 (hu.c1 ha).1 (hv.c1 hb).1
 ·obtain ⟨hh, hall⟩ := hu.c1 ha
  subst hh
  rcases hv.c2 hb with ⟨hh2, _⟩ | ⟨s, blk, hsl, ⟨bcs, hbc⟩, hfree, hh2, hallA⟩
  ·exact fin0 rfl hh2
  ·subst hh2
   exact ⟨_, _, hv.same e ha1', by have := hall _ (H1.set (base + s) (some blk)) ha2 (cs_set s blk H1); rw [hcomm] at this; exact this⟩
 ·obtain ⟨hh, hall⟩ := hv.c1 hb
  subst hh
  rcases hu.c2 ha with ⟨hh2, _⟩ | ⟨s, blk, hsl, ⟨bcs, hbc⟩, hfree, hh2, hallA⟩
  ·exact fin0 hh2 rfl
  ·subst hh2
   exact ⟨_, _, hall e H ha1' (cs_set' s blk H), by have := hu.same _ ha2; rw [hcomm] at this; exact this⟩
 ·rcases hu.c2 ha with ⟨hh, hallU⟩ | ⟨s, blk, hsl, ⟨bcs, hbc⟩, hfree, hh, hallA⟩
  ·subst hh
   exact ⟨_, _, hv.same e ha1', by have := hallU _ H2 ha2; rw [hcomm] at this; exact this⟩
  ·rcases hv.c2 hb with ⟨hh2, hallV⟩ | ⟨s', blk', hsl', ⟨bcs', hbc'⟩, hfree', hh2, hallA'⟩
   ·subst hh2
    exact ⟨_, _, hallV e H ha1', by have := hu.same _ ha2; rw [hcomm] at this; exact this⟩
   ·subst hh
    subst hh2
    have hne : base + s' ≠ base + s := by
     intro he
     rw [he] at hfree'
     have := isFree_iff.1 hfree'
     rw [List.getElem?_set_self (free_lt hfree)] at this
     cases this
    have hf1 : isFree H (base + s') = true := by
     rw [isFree_iff] at hfree' ⊢
     rwa [getElem?_set_ne hne] at hfree'
    have hf2 : isFree (H.set (base + s') (some blk')) (base + s) = true := by
     rw [isFree_iff] at hfree ⊢
     rwa [getElem?_set_ne (fun h => hne h.symm)]
    have := hallA _ (H.set (base + s') (some blk')) ha2 hf2
    rw [hcomm, List.set_comm _ _ hne] at this
    exact ⟨_, _, hallA' e H ha1' hf1, this⟩
 ·exact fin0 (hu.c1 ha).1 (hv.c3 hb)
 ·exact fin0 (hu.c3 ha) (hv.c1 hb).1
 ·exact fin0 (hu.c3 ha) (hv.c3 hb)
 ·-- a load, an append
  obtain ⟨hh, hall⟩ := hu.c1 ha
  subst hh
  rcases hv.c5 hb with ⟨hh2, _⟩ | ⟨id, kz, hz, hh2, hallK⟩
  ·exact fin0 rfl hh2
  ·subst hh2
   exact ⟨_, _, hv.same e ha1', by have := hall _ (H1.set id (some (.zone kz))) ha2 (zs_set id kz H1 hz); rw [hcomm] at this; exact this⟩
 ·obtain ⟨hh, hall⟩ := hv.c1 hb
  subst hh
  rcases hu.c5 ha with ⟨hh2, _⟩ | ⟨id, kz, hz, hh2, hallK⟩
  ·exact fin0 hh2 rfl
  ·subst hh2
   exact ⟨_, _, hall e H ha1' (zs_set' id kz H hz), by have := hu.same _ ha2; rw [hcomm] at this; exact this⟩
 ·-- a new block, an append
  rcases hu.c2 ha with ⟨hh, hallU⟩ | ⟨s, blk, hsl, ⟨bcs, hbc⟩, hfree, hh, hallA⟩
  ·subst hh
   exact ⟨_, _, hv.same e ha1', by have := hallU _ H2 ha2; rw [hcomm] at this; exact this⟩
  ·rcases hv.c5 hb with ⟨hh2, hallV⟩ | ⟨id, kz, hz, hh2, hallK⟩
   ·subst hh2
    exact ⟨_, _, hallV e H ha1', by have := hu.same _ ha2; rw [hcomm] at this; exact this⟩
   ·subst hh
    subst hh2
    by_cases hne : id = base + s
    ·-- the block can be a zone no more than it is free: only where the block made was a zone
     subst hne
     exfalso
     rcases hz with ⟨_, h1⟩ | ⟨k', h1⟩
     ·rw [isFree_iff, List.getElem?_set_self (free_lt hfree)] at h1; cases h1
     ·rw [List.getElem?_set_self (free_lt hfree)] at h1
      rw [hbc] at h1; cases h1
    ·have hid : H[id]? = (H.set (base + s) (some blk))[id]? := (getElem?_set_ne hne).symm
     have hf2 : isFree (H.set id (some (.zone kz))) (base + s) = true := by
      rw [isFree_iff] at hfree ⊢
      rwa [getElem?_set_ne (fun h => hne h.symm)]
     have := hallA _ (H.set id (some (.zone kz))) ha2 hf2
     rw [hcomm, List.set_comm _ _ hne] at this
     exact ⟨_, _, hallK e H ha1' hid, this⟩
 ·rcases hv.c2 hb with ⟨hh, hallU⟩ | ⟨s, blk, hsl, ⟨bcs, hbc⟩, hfree, hh, hallA⟩
  ·subst hh
   exact ⟨_, _, hallU e H ha1', by have := hu.same _ ha2; rw [hcomm] at this; exact this⟩
  ·rcases hu.c5 ha with ⟨hh2, hallV⟩ | ⟨id, kz, hz, hh2, hallK⟩
   ·subst hh2
    exact ⟨_, _, hv.same e ha1', by have := hallV _ H2 ha2; rw [hcomm] at this; exact this⟩
   ·subst hh2
    subst hh
    have hlt : id < H.length := by
     rcases hz with ⟨_, h1⟩ | ⟨k', h1⟩
     ·exact free_lt h1
     ·exact (List.getElem?_eq_some_iff.1 h1).1
    have hne : base + s ≠ id := by
     intro h
     rw [h, isFree_iff, List.getElem?_set_self hlt] at hfree
     cases hfree
    have hf1 : isFree H (base + s) = true := by
     rw [isFree_iff] at hfree ⊢
     rwa [getElem?_set_ne hne] at hfree
    have := hallK _ (H.set (base + s) (some blk)) ha2 (getElem?_set_ne (fun h => hne h.symm))
    rw [hcomm, List.set_comm _ _ hne] at this
    exact ⟨_, _, hallA e H ha1' hf1, this⟩
 ·exact fin0 (hu.c6 ha).1 (hv.c6 hb).1
 ·-- a load of one block, a store elsewhere
  obtain ⟨hh, hall⟩ := hu.c6 ha
  subst hh
  have hroot : ∀ r, o.op.root = some r → r ∈ p.op.avoid ∧ r ∈ p.uses := by
   intro r hr
   simp only [apart, hr, hb, Bool.and_eq_true] at hap
   have h3 : r ∈ p.op.avoid := by simpa using hap.1.1
   refine ⟨h3, ?_⟩
   unfold SOp.avoid at h3
   split at h3
   ·rename_i hpo; simp only [SOper.uses, hpo, SOp.uses, List.mem_append]; exact .inl (.inl (.inl h3))
   ·rename_i hpo; simp only [SOper.uses, hpo, SOp.uses, List.mem_append]; exact .inl (.inl h3)
   ·cases h3
  rcases hv.c7 hb with ⟨hh2, _⟩ | ⟨id, blk, hh2, hav⟩
  ·exact fin0 rfl hh2
  ·have := hall _ H2 ha2 fun r idr hr hid => by
    obtain ⟨h3, h4⟩ := hroot r hr
    have h5 := hav r h3
    rw [ha1 r h4] at h5
    rw [hh2, getElem?_set_ne (fun he => h5 (by rw [hid, he]))]
   exact ⟨_, _, hv.same e ha1', by rw [hcomm] at this; exact this⟩
 ·obtain ⟨hh, hall⟩ := hv.c6 hb
  subst hh
  have hroot : ∀ r, p.op.root = some r → r ∈ o.op.avoid ∧ r ∈ p.uses := by
   intro r hr
   simp only [apart, hr, ha, Bool.and_eq_true] at hap
   have h3 : r ∈ o.op.avoid := by simpa using hap.1.2
   refine ⟨h3, ?_⟩
   unfold SOp.root at hr
   split at hr
   ·rename_i hpo; cases hr; simp [SOper.uses, hpo, SOp.uses]
   ·cases hr
  rcases hu.c7 ha with ⟨hh2, _⟩ | ⟨id, blk, hh2, hav⟩
  ·exact fin0 hh2 rfl
  ·refine ⟨_, _, hall e H ha1' fun r idr hr hid => ?_, by have := hu.same _ ha2; rw [hcomm] at this; exact this⟩
   obtain ⟨h3, h4⟩ := hroot r hr
   have h5 := hav r h3
   rw [ha1 r h4] at hid
   rw [hh2, getElem?_set_ne (fun he => h5 (by rw [hid, he]))]
 ·-- a load, a call that makes blocks
  obtain ⟨hh, hall⟩ := hu.c1 ha
  subst hh
  exact ⟨_, _, hv.same e ha1', by have := hall _ H2 ha2 (hv.c8 hb).1; rw [hcomm] at this; exact this⟩
 ·obtain ⟨hh, hall⟩ := hv.c1 hb
  subst hh
  exact ⟨_, _, hall e H ha1' (hu.c8 ha).2, by have := hu.same _ ha2; rw [hcomm] at this; exact this⟩
 ·-- a load, a store into the region's own block
  obtain ⟨hh, hall⟩ := hu.c1 ha
  subst hh
  rcases hv.c9 hb with ⟨hh2, _⟩ | ⟨s, cs, blk, hsl, hcs, hh2, hallA⟩
  ·exact fin0 rfl hh2
  ·subst hh2
   exact ⟨_, _, hv.same e ha1', by have := hall _ (H1.set (base + s) (some blk)) ha2 (cs_set s blk H1); rw [hcomm] at this; exact this⟩
 ·obtain ⟨hh, hall⟩ := hv.c1 hb
  subst hh
  rcases hu.c9 ha with ⟨hh2, _⟩ | ⟨s, cs, blk, hsl, hcs, hh2, hallA⟩
  ·exact fin0 hh2 rfl
  ·subst hh2
   exact ⟨_, _, hall e H ha1' (cs_set' s blk H), by have := hu.same _ ha2; rw [hcomm] at this; exact this⟩
 ·rcases hu.c2 ha with ⟨hh, hallU⟩ | ⟨s, blk, hsl, ⟨bcs, hbc⟩, hfree, hh, hallA⟩
  ·subst hh
   exact ⟨_, _, hv.same e ha1', by have := hallU _ H2 ha2; rw [hcomm] at this; exact this⟩
  ·rcases hv.c9 hb with ⟨hh2, hallV⟩ | ⟨s', cs', blk', hsl', hcs', hh2, hallA'⟩
   ·subst hh2
    exact ⟨_, _, hallV e H ha1', by have := hu.same _ ha2; rw [hcomm] at this; exact this⟩
   ·subst hh
    subst hh2
    have hne := slots s s' hsl hsl' (.inr hb)
    have hf2 : isFree (H.set (base + s') (some blk')) (base + s) = true := by
     rw [isFree_iff] at hfree ⊢
     rwa [getElem?_set_ne (fun h => hne h.symm)]
    have := hallA _ (H.set (base + s') (some blk')) ha2 hf2
    rw [hcomm, List.set_comm _ _ hne] at this
    exact ⟨_, _, hallA' e H ha1' (getElem?_set_ne hne).symm, this⟩
 ·rcases hv.c2 hb with ⟨hh, hallU⟩ | ⟨s', blk', hsl', ⟨bcs, hbc⟩, hfree', hh, hallA'⟩
  ·subst hh
   exact ⟨_, _, hallU e H ha1', by have := hu.same _ ha2; rw [hcomm] at this; exact this⟩
  ·rcases hu.c9 ha with ⟨hh2, hallV⟩ | ⟨s, cs, blk, hsl, hcs, hh2, hallA⟩
   ·subst hh2
    exact ⟨_, _, hv.same e ha1', by have := hallV _ H2 ha2; rw [hcomm] at this; exact this⟩
   ·subst hh2
    subst hh
    have hne := slots s s' hsl hsl' (.inl ha)
    have hf1 : isFree H (base + s') = true := by
     rw [isFree_iff] at hfree' ⊢
     rwa [getElem?_set_ne hne] at hfree'
    have := hallA _ (H.set (base + s') (some blk')) ha2 (getElem?_set_ne (fun h => hne h.symm))
    rw [hcomm, List.set_comm _ _ hne] at this
    exact ⟨_, _, hallA' e H ha1' hf1, this⟩
 ·rcases hu.c9 ha with ⟨hh, hallU⟩ | ⟨s, cs, blk, hsl, hcs, hh, hallA⟩
  ·subst hh
   exact ⟨_, _, hv.same e ha1', by have := hallU _ H2 ha2; rw [hcomm] at this; exact this⟩
  ·rcases hv.c9 hb with ⟨hh2, hallV⟩ | ⟨s', cs', blk', hsl', hcs', hh2, hallA'⟩
   ·subst hh2
    exact ⟨_, _, hallV e H ha1', by have := hu.same _ ha2; rw [hcomm] at this; exact this⟩
   ·subst hh
    subst hh2
    have hne := slots s s' hsl hsl' (.inl ha)
    have := hallA _ (H.set (base + s') (some blk')) ha2 (getElem?_set_ne (fun h => hne h.symm))
    rw [hcomm, List.set_comm _ _ hne] at this
    exact ⟨_, _, hallA' e H ha1' (getElem?_set_ne hne).symm, this⟩
 ·-- a load of one block, a call that leaves it
  obtain ⟨hh, hall⟩ := hu.c6 ha
  subst hh
  have hroot : ∀ r, o.op.root = some r → r ∈ p.op.avoid ∧ r ∈ p.uses := by
   intro r hr
   simp only [apart, hr, hb, Bool.and_eq_true] at hap
   have h3 : r ∈ p.op.avoid := by simpa using hap.1.1
   refine ⟨h3, ?_⟩
   unfold SOp.avoid at h3
   split at h3
   ·rename_i hpo; simp only [SOper.uses, hpo, SOp.uses, List.mem_append]; exact .inl (.inl (.inl h3))
   ·rename_i hpo; simp only [SOper.uses, hpo, SOp.uses, List.mem_append]; exact .inl (.inl h3)
   ·cases h3
  have := hall _ H2 ha2 fun r idr hr hid => by
   obtain ⟨h3, h4⟩ := hroot r hr
   exact hv.c10 hb r h3 idr (by rw [ha1 r h4]; exact hid)
  exact ⟨_, _, hv.same e ha1', by rw [hcomm] at this; exact this⟩
 ·obtain ⟨hh, hall⟩ := hv.c6 hb
  subst hh
  have hroot : ∀ r, p.op.root = some r → r ∈ o.op.avoid ∧ r ∈ p.uses := by
   intro r hr
   simp only [apart, hr, ha, Bool.and_eq_true] at hap
   have h3 : r ∈ o.op.avoid := by simpa using hap.1.2
   refine ⟨h3, ?_⟩
   unfold SOp.root at hr
   split at hr
   ·rename_i hpo; cases hr; simp [SOper.uses, hpo, SOp.uses]
   ·cases hr
  refine ⟨_, _, hall e H ha1' fun r idr hr hid => ?_, by have := hu.same _ ha2; rw [hcomm] at this; exact this⟩
  obtain ⟨h3, h4⟩ := hroot r hr
  exact (hu.c10 ha r h3 idr (by rw [← ha1 r h4]; exact hid)).symm
 ·exact fin0 (hu.c1 ha).1 (hv.c6 hb).1
 ·exact fin0 (hu.c6 ha).1 (hv.c1 hb).1
 ·exact fin0 (hu.c3 ha) (hv.c6 hb).1
 ·exact fin0 (hu.c6 ha).1 (hv.c3 hb)
theorem trunc_at_none {n k : Nat} {H : Heap} (h : (trunc n H)[k]? = some none) : H[k]? = some none := by
 rw [trunc_get] at h
 split at h
 ·cases hh : H[k]? with
  | none => simp [hh] at h
  | some o => cases o with
   | none => rfl
   | some b => simp [hh] at h
 ·cases h
theorem lit_cl (n : Nat) {c : V} (h : c.lit = true) : c.cl n = c := by
 cases c with
 | vs es tk => cases es <;> cases tk <;> simp [V.lit] at h; simp [V.cl, Tk.cl]
 | _ => first | (simp [V.lit] at h; done) | rfl
theorem clL_lit (n : Nat) : ∀ {z : List V}, z.all V.lit = true → clL n z = z
 | [], _ => rfl
 | c :: z, h => by
  simp only [List.all_cons, Bool.and_eq_true] at h
  simp only [clL, lit_cl n h.1, clL_lit n h.2]
def resA (base : Nat) (f : Env) (H : Heap) (o : SOper) : Option (V × Heap) := match wanted f o with
 | some true => ev1 base f H o.op
 | some false => some (.skp, H)
 | none => none
theorem resA_of {base : Nat} {o : SOper} {e e1 : Env} (h : SS P fm base o e H e1 H1) (hn : (∃ sz ag rs x, o.op = .loadA sz ag rs x) ∨ ∃ sz r a x, o.op = .storeT sz r a x) : ∃ v, e1 = e.put o.dst v ∧ resA base e H o = some (v, H1) := by
 cases h with
 | ev hw hv => exact ⟨_, rfl, by unfold resA; rw [hw]; exact hv⟩
 | skip hw => exact ⟨_, rfl, by unfold resA; rw [hw]⟩
 | pcall _ hop => rw [hop] at hn; rcases hn with ⟨_, _, _, _, h⟩ | ⟨_, _, _, _, h⟩ <;> cases h
 | scall _ hop => rw [hop] at hn; rcases hn with ⟨_, _, _, _, h⟩ | ⟨_, _, _, _, h⟩ <;> cases h
 | scallA _ hop => rw [hop] at hn; rcases hn with ⟨_, _, _, _, h⟩ | ⟨_, _, _, _, h⟩ <;> cases h
 | scallE _ hop => rw [hop] at hn; rcases hn with ⟨_, _, _, _, h⟩ | ⟨_, _, _, _, h⟩ <;> cases h
 | kcall _ hop => rw [hop] at hn; rcases hn with ⟨_, _, _, _, h⟩ | ⟨_, _, _, _, h⟩ <;> cases h
 | vcall _ hop => rw [hop] at hn; rcases hn with ⟨_, _, _, _, h⟩ | ⟨_, _, _, _, h⟩ <;> cases h
 | ycall _ hop => rw [hop] at hn; rcases hn with ⟨_, _, _, _, h⟩ | ⟨_, _, _, _, h⟩ <;> cases h
theorem SS.ofRes {base : Nat} {o : SOper} {e : Env} {v : V} (h : resA base e H o = some (v, H1)) : SS P fm base o e H (e.put o.dst v) H1 := by
 unfold resA at h
 split at h
 ·rename_i hw; exact SS.ev hw h
 ·rename_i hw; cases h; exact SS.skip hw
 ·cases h
theorem resA_congr {base : Nat} {o : SOper} {e f : Env} (h : ∀ i ∈ o.uses, f i = e i) (H : Heap) : resA base f H o = resA base e H o := by
 unfold resA
 rw [wanted_congr h, ev1_congr (fun i hi => h i (by simp [SOper.uses, hi]))]
theorem resA_load {base sz : Nat} {ag : Bool} {rs : List Nat} {x : X} {o : SOper} {e : Env} {v : V} (ho : o.op = .loadA sz ag rs x) (h : resA base e H o = some (v, H1)) :
  H1 = H ∧ ∀ Hb : Heap, (∀ id, rs.all (fun r => (e r).ptrId? != some id) = true → Hb[id]? = H[id]?) → resA base e Hb o = some (v, Hb) := by
 unfold resA at h ⊢
 split at h
 ·rename_i hw
  rw [ho] at h ⊢
  simp only [hw, ev1] at h ⊢
  split at h
  case h_2 => cases h
  rename_i id off hp
  split at h
  case isFalse => cases h
  rename_i hall
  refine ⟨loadAt_same h, fun Hb hb => ?_⟩
  rw [if_pos hall]
  have hg := hb id hall
  unfold loadAt at h ⊢
  rw [hg]
  revert h
  repeat' split
  all_goals intro h
  all_goals first
   | (cases h; done)
   | (rw [Option.map_eq_some_iff] at h ⊢; obtain ⟨u, hu, h⟩ := h; cases h; exact ⟨_, hu, rfl⟩)
 ·rename_i hw; cases h; exact ⟨rfl, fun Hb _ => by simp only [hw]⟩
 ·cases h
theorem resA_store {base sz r : Nat} {a x : X} {o : SOper} {e : Env} {v : V} (ho : o.op = .storeT sz r a x) (h : resA base e H o = some (v, H1)) : ∀ id, (e r).ptrId? ≠ some id → H1[id]? = H[id]? := by
 intro id hne
 unfold resA at h
 split at h
 ·rw [ho] at h
  simp only [ev1] at h
  split at h
  case h_2 => cases h
  rename_i id' off hp
  split at h
  case isFalse => cases h
  rename_i hid
  obtain ⟨cs, hh⟩ := storeAt_set h
  rw [hh, getElem?_set_ne (fun he => hne (by rw [hid, he]))]
 ·cases h; rfl
 ·cases h
theorem SS.swapA {base : Nat} {o p : SOper} {e e1 e2 : Env} (h : SS P fm base o e H e1 H1) (k : SS P fm base p e1 H1 e2 H2) (hi : indepA o p = true) :
  ∃ f Hb, SS P fm base p e H f Hb ∧ SS P fm base o f Hb e2 H2 := by
 unfold indepA at hi
 simp only [Bool.and_eq_true] at hi
 obtain ⟨⟨hm, h1⟩, h2⟩ := hi
 have ha1 : ∀ u, ∀ i ∈ p.uses, e.put o.dst u i = e i := fun u => by
  refine put_agree ?_
  cases hd : o.dst with
  | none => rfl
  | some d => rw [hd] at h1; simp only [Bool.and_eq_true] at h1; exact h1.1
 have ha2 : ∀ v, ∀ i ∈ o.uses, (e.put p.dst v) i = e i := fun v => put_agree h2
 have hcomm : ∀ u v, (e.put p.dst v).put o.dst u = (e.put o.dst u).put p.dst v := fun u v =>
  (put_comm (fun k hk hk' => by rw [hk] at h1; simp [hk'] at h1)).symm
 have fin : ∀ u v Hb, resA base e H p = some (v, Hb) → resA base e Hb o = some (u, H2) → e2 = (e.put o.dst u).put p.dst v → ∃ f Hb, SS P fm base p e H f Hb ∧ SS P fm base o f Hb e2 H2 := by
  intro u v Hb hp ho he
  refine ⟨_, _, SS.ofRes hp, ?_⟩
  have := SS.ofRes (P := P) (fm := fm) (e := e.put p.dst v) (by rw [resA_congr (ha2 v)]; exact ho)
  rw [hcomm, ← he] at this
  exact this
 split at hm
 ·rename_i sz ag rs x sz' r a y ho hp
  obtain ⟨u, hu, ru⟩ := resA_of h (.inl ⟨_, _, _, _, ho⟩)
  obtain ⟨v, hv, rv⟩ := resA_of k (.inr ⟨_, _, _, _, hp⟩)
  obtain ⟨hh, hall⟩ := resA_load ho ru
  subst hh
  rw [hu, resA_congr (ha1 u)] at rv
  refine fin u v H2 rv (hall H2 fun id hid => resA_store hp rv id ?_) (by rw [hv, hu])
  rw [List.all_eq_true] at hid
  simpa using hid r (by simpa using hm)
 ·rename_i sz r a y sz' ag rs x ho hp
  obtain ⟨u, hu, ru⟩ := resA_of h (.inr ⟨_, _, _, _, ho⟩)
  obtain ⟨v, hv, rv⟩ := resA_of k (.inl ⟨_, _, _, _, hp⟩)
  rw [hu, resA_congr (ha1 u)] at rv
  obtain ⟨hh, hall⟩ := resA_load hp rv
  subst hh
  refine fin u v H (hall H fun id hid => (resA_store ho ru id ?_).symm) ru (by rw [hv, hu])
  rw [List.all_eq_true] at hid
  simpa using hid r (by simpa using hm)
 ·rename_i ho hp
  obtain ⟨u, hu, ru⟩ := resA_of h (.inl ⟨_, _, _, _, ho⟩)
  obtain ⟨v, hv, rv⟩ := resA_of k (.inl ⟨_, _, _, _, hp⟩)
  rw [hu, resA_congr (ha1 u)] at rv
  obtain ⟨hh, _⟩ := resA_load ho ru
  subst hh
  obtain ⟨hh, _⟩ := resA_load hp rv
  subst hh
  exact fin u v _ rv ru (by rw [hv, hu])
 ·cases hm
theorem SS.swap {base : Nat} {o p : SOper} {e e1 e2 : Env} (h : SS P fm base o e H e1 H1) (k : SS P fm base p e1 H1 e2 H2) (hi : indep o p = true) :
  ∃ f Hb, SS P fm base p e H f Hb ∧ SS P fm base o f Hb e2 H2 := by
 unfold indep at hi
 rw [Bool.or_eq_true, Bool.or_eq_true] at hi
 rcases hi with (hi | hi) | hi
 ·exact h.swap0 k hi
 case inr => exact h.swapA k hi
 unfold indepE at hi
 split at hi
 case h_2 => cases hi
 rename_i f xs s z hop hpp
 simp only [Bool.and_eq_true] at hi
 obtain ⟨⟨hz, h1⟩, h2⟩ := hi
 have ha1 : ∀ u, ∀ i ∈ p.uses, e.put o.dst u i = e i := fun u => by
  refine put_agree ?_
  cases hd : o.dst with
  | none => rfl
  | some d => rw [hd] at h1; simp only [Bool.and_eq_true] at h1; exact h1.1
 have ha2 : ∀ v, ∀ i ∈ o.uses, (e.put p.dst v) i = e i := fun v => put_agree h2
 have hcomm : ∀ u v, (e.put p.dst v).put o.dst u = (e.put o.dst u).put p.dst v := fun u v =>
  (put_comm (fun k hk hk' => by rw [hk] at h1; simp [hk'] at h1)).symm
 -- the new block, ahead of the call
 have alloc : ∀ u Hb Hb1, SS P fm base p (e.put o.dst u) Hb e2 Hb1 → (Hb1 = Hb ∧ e2 = (e.put o.dst u).put p.dst .skp ∧ (∀ f Hc, (∀ i ∈ p.uses, f i = e i) → SS P fm base p f Hc (f.put p.dst .skp) Hc)) ∨
   (isFree Hb (base + s) = true ∧ Hb1 = Hb.set (base + s) (some (.cells z)) ∧ e2 = (e.put o.dst u).put p.dst (.ptr (base + s) 0) ∧
    ∀ f Hc, (∀ i ∈ p.uses, f i = e i) → isFree Hc (base + s) = true → SS P fm base p f Hc (f.put p.dst (.ptr (base + s) 0)) (Hc.set (base + s) (some (.cells z)))) := by
  intro u Hb Hb1 hs
  have hw : ∀ f : Env, (∀ i ∈ p.uses, f i = e i) → wanted f p = wanted (e.put o.dst u) p := fun f hf => by
   rw [wanted_congr (e := e) hf, wanted_congr (e := e) (ha1 u)]
  cases hs with
  | ev hww hv =>
   right
   rw [hpp] at hv
   simp only [ev1] at hv
   split at hv
   case isFalse => cases hv
   rename_i hfree
   cases hv
   refine ⟨hfree, rfl, rfl, fun f Hc hf hfc => SS.ev ((hw f hf).trans hww) ?_⟩
   rw [hpp]
   simp only [ev1, hfc, if_true]
  | skip hww => exact .inl ⟨rfl, rfl, fun f Hc hf => SS.skip ((hw f hf).trans hww)⟩
  | pcall _ hop2 => rw [hpp] at hop2; cases hop2
  | scall _ hop2 => rw [hpp] at hop2; cases hop2
  | scallA _ hop2 => rw [hpp] at hop2; cases hop2
  | scallE _ hop2 => rw [hpp] at hop2; cases hop2
  | kcall _ hop2 => rw [hpp] at hop2; cases hop2
  | vcall _ hop2 => rw [hpp] at hop2; cases hop2
  | ycall _ hop2 => rw [hpp] at hop2; cases hop2
 cases h with
 | ev _ hv => rw [hop] at hv; simp [ev1] at hv
 | skip hw =>
  have hw2 : ∀ v, wanted (e.put p.dst v) o = some false := fun v => (wanted_congr (ha2 v)).trans hw
  rcases alloc _ _ _ k with ⟨rfl, rfl, hall⟩ | ⟨hf, rfl, rfl, hall⟩
  ·exact ⟨_, _, hall e _ (fun _ _ => rfl), by rw [← hcomm]; exact SS.skip (hw2 _)⟩
  ·exact ⟨_, _, hall e _ (fun _ _ => rfl) hf, by rw [← hcomm]; exact SS.skip (hw2 _)⟩
 | pcall _ hop2 => rw [hop] at hop2; cases hop2
 | scall _ hop2 => rw [hop] at hop2; cases hop2
 | scallA _ hop2 => rw [hop] at hop2; cases hop2
 | kcall _ hop2 => rw [hop] at hop2; cases hop2
 | vcall _ hop2 => rw [hop] at hop2; cases hop2
 | ycall _ hop2 => rw [hop] at hop2; cases hop2
 | scallE hw hop2 hf hel =>
  rename_i g ys r H3
  rw [hop] at hop2
  cases hop2
  have hux : ∀ v, xs.map (X.ev (e.put p.dst v)) = xs.map (X.ev e) := fun v => map_ev_congr fun i hi => ha2 v i (by simp [SOper.uses, hop, SOp.uses, hi])
  have hw2 : ∀ v, wanted (e.put p.dst v) o = some true := fun v => (wanted_congr (ha2 v)).trans hw
  rcases alloc _ _ _ k with ⟨rfl, rfl, hall⟩ | ⟨hfr, rfl, rfl, hall⟩
  ·exact ⟨_, _, hall e _ (fun _ _ => rfl), by rw [← hcomm]; exact SS.scallE (hw2 _) hop (by rw [hux]; exact hf) (by rw [hux]; exact hel)⟩
  ·obtain ⟨he1, he2, he3⟩ := hel
   have hT := isFree_iff.1 hfr
   have hkH : H[base + s]? = some none := by
    have : ((trunc H.length H3).drop base)[s]? = (H.drop base)[s]? := by rw [he3]
    rw [List.getElem?_drop, List.getElem?_drop, hT] at this
    exact this.symm
   have hk3 := trunc_at_none hT
   have hfk := hf.frame (z := z) hkH (Nat.le_add_right base s) he1 he2 hk3 hz
   have hset : trunc (H.set (base + s) (some (Blk.cells z))).length (H3.set (base + s) (some (.cells z))) = (trunc H.length H3).set (base + s) (some (.cells z)) := by
    rw [List.length_set, trunc, trunc, List.take_set, List.map_set]
    simp [Blk.cl, clL_lit _ hz]
   refine ⟨_, _, hall e _ (fun _ _ => rfl) (isFree_iff.2 hkH), ?_⟩
   have := SS.scallE (P := P) (base := base) (o := o) (e := e.put p.dst (.ptr (base + s) 0)) (H := H.set (base + s) (some (.cells z))) (hw2 _) hop (by rw [hux]; exact hfk) (by
    rw [hux, hset]
    refine ⟨he1, ?_, ?_⟩
    ·rw [List.map_set, he2]; simp [Blk.cl, clL_lit _ hz]
    ·rw [List.drop_set, List.drop_set, he3])
   rw [hset, hcomm, List.length_set] at this
   exact this
end Go.Ev
/- Regions: in the text's order, and in whatever order is drawn. -/
namespace Go.Ev
open Go Go.RowKit
set_option linter.unusedSimpArgs false
set_option linter.unusedVariables false
variable {P : Program} {M M' : Mm} {H H1 H2 : Heap} {w w' : World} {fm : Fm}
inductive OO (P : Program) (fm : Fm) (base : Nat) : List SOper → Env → Heap → Env → Heap → Prop
 | nil {e H} : OO P fm base [] e H e H
 | cons {o os e H e1 H1 e2 H2} : SS P fm base o e H e1 H1 → OO P fm base os e1 H1 e2 H2 → OO P fm base (o :: os) e H e2 H2
theorem OO.len {base : Nat} {os : List SOper} {e e' : Env} {H H' : Heap} (h : OO P fm base os e H e' H') : H.length ≤ H'.length := by
 induction h with
 | nil => exact Nat.le_refl _
 | cons hs _ ih => exact Nat.le_trans hs.len ih
def chkOpers (P : Program) (fm : Fm) (n : Nat) (ops : Array Oper) : List Oper → List SOper → Bool
 | [], [] => true
 | o :: os, s :: ss => chkOper P fm n ops o s && chkOpers P fm n ops os ss
 | _, _ => false
theorem chkOpers_len {n : Nat} {ops : Array Oper} : ∀ {os : List Oper} {ss : List SOper}, chkOpers P fm n ops os ss = true → ss.length = os.length
 | [], [], _ => rfl
 | [], _ :: _, h => by simp [chkOpers] at h
 | _ :: _, [], h => by simp [chkOpers] at h
 | o :: os, s :: ss, h => by
  simp only [chkOpers, Bool.and_eq_true] at h
  simp [chkOpers_len h.2]
theorem chkOpers_get {n : Nat} {ops : Array Oper} : ∀ {os : List Oper} {ss : List SOper}, chkOpers P fm n ops os ss = true → ∀ {i : Nat} {o : Oper} {s : SOper}, os[i]? = some o → ss[i]? = some s → chkOper P fm n ops o s = true
 | [], [], _, i, _, _, h, _ => by simp at h
 | [], _ :: _, h, _, _, _, _, _ => by simp [chkOpers] at h
 | _ :: _, [], h, _, _, _, _, _ => by simp [chkOpers] at h
 | o :: os, s :: ss, h, i, o', s', h1, h2 => by
  simp only [chkOpers, Bool.and_eq_true] at h
  cases i with
  | zero => simp at h1 h2; subst h1; subst h2; exact h.1
  | succ i => simp at h1 h2; exact chkOpers_get h.2 h1 h2
theorem OO.text {ro : Option Nat} {base n : Nat} {ops : Array Oper} {ss : List SOper} {e e' : Env} {H H' : Heap} (h : OO P fm base ss e H e' H') : ∀ {l : List Oper} {M : Mm} {w : World} {a : Act} {Q : Exit → Act → World → Prop},
  chkOpers P fm n ops l ss = true → RelT M w e a n → HRel M w H → M.fm = fm →
  (∀ a' w' M', RelT M' w' e' a' n → HRel M' w' H' → Stp M H w M' H' w' → Ids M M' H.length → a'.defers = a.defers → Q .normal a' w') → wpListIn (FR ro) 0 P ops Q l a w := by
 induction h with
 | nil =>
  intro l M w a Q hc ht hr hm hq
  cases l with
  | nil => exact hq a w M ht hr (Stp.refl _ _ _) (Ids.refl _ _) rfl
  | cons o l => simp [chkOpers] at hc
 | cons hs _ ih =>
  intro l M w a Q hc ht hr hm hq
  cases l with
  | nil => simp [chkOpers] at hc
  | cons o l =>
   simp only [chkOpers, Bool.and_eq_true] at hc
   refine wpListIn_step fun K hK => ?_
   refine hs.sound hc.1 ht hr hm fun a' w' M' t1 r1 s1 i1 d1 => hK _ _ ?_
   refine ih hc.2 t1 r1 (s1.fm.trans hm) fun a'' w'' M'' t2 r2 s2 i2 d2 => ?_
   exact hq _ _ _ t2 r2 (s1.trans s2) (i1.trans i2 hs.len) (d2.trans d1)
def ordered (ops : Array Oper) : Nat → Nat → Nat → Bool
 | 0, _, _ => false
 | k + 1, h, i => match ops[i]? with
  | some o => o.after.toList.any fun e => Region.binds .any e && (e.on == h || ordered ops k h e.on)
  | none => false
def sget (ss : List SOper) (i : Nat) : SOper := ss.getD i ⟨none, .mv (.t 0), none⟩
def pairsOk (ops : Array Oper) (ss : List SOper) : Bool :=
 (List.range ops.size).all fun i => (List.range i).all fun h => indep (sget ss h) (sget ss i) || ordered ops 4 h i
def topoGo (md : Region.Mode) (ops : Array Oper) : List Nat → List Nat → Bool
 | _, [] => true
 | done, i :: rest => (match ops[i]? with | some o => o.after.toList.all fun e => !Region.binds md e || done.contains e.on | none => false) && topoGo md ops (i :: done) rest
def topoOk (md : Region.Mode) (ops : Array Oper) (σ : List Nat) : Bool :=
 topoGo md ops [] σ && (List.range ops.size).all (σ.contains ·)
def drawOk (ops : Array Oper) (ss : List SOper) : Bool :=
 pairsOk ops ss && topoOk .any ops (Region.linearise .any ops 0) && (!Region.departs ops || (topoOk .text ops (Region.linearise .text ops 0) && topoOk .gc ops (Region.linearise .gc ops 0)))
def rem (n : Nat) (listed : Array Bool) : List Nat := (List.range n).filter fun i => !listed.getD i true
theorem OO.front {base : Nat} {o : SOper} : ∀ {pre post : List SOper} {e e' : Env} {H H' : Heap}, OO P fm base (pre ++ o :: post) e H e' H' → (∀ p ∈ pre, indep p o = true) → OO P fm base (o :: (pre ++ post)) e H e' H'
 | [], _, _, _, _, _, h, _ => h
 | p :: pre, post, e, e', H, H', h, hi => by
  simp only [List.cons_append] at h
  cases h with
  | cons h1 h2 =>
   have h3 := OO.front h2 (fun q hq => hi q (by simp [hq]))
   cases h3 with
   | cons h4 h5 =>
    obtain ⟨f, Hb, h6, h7⟩ := SS.swap h1 h4 (hi p (by simp))
    exact .cons h6 (.cons h7 h5)
def Down (ops : Array Oper) (listed : Array Bool) : Prop := ∀ (i : Nat) (o : Oper), listed.getD i false = true → ops[i]? = some o → ∀ e ∈ o.after.toList, Region.binds .any e = true → listed.getD e.on false = true
theorem ordered_listed {ops : Array Oper} {listed : Array Bool} (hd : Down ops listed) : ∀ {k h i : Nat} {o : Oper}, ops[i]? = some o → (∀ e ∈ o.after.toList, Region.binds .any e = true → listed.getD e.on false = true) →
  ordered ops k h i = true → listed.getD h false = true
 | 0, _, _, _, _, _, ho => by simp [ordered] at ho
 | k + 1, h, i, o, hi, hl, ho => by
  simp only [ordered, hi, List.any_eq_true, Bool.and_eq_true, Bool.or_eq_true, beq_iff_eq] at ho
  obtain ⟨e, he, hb, ho⟩ := ho
  have hle := hl e he hb
  rcases ho with rfl | ho
  ·exact hle
  ·cases hop : ops[e.on]? with
   | none => cases k <;> simp [ordered, hop] at ho
   | some o' => exact ordered_listed hd hop (fun e' he' hb' => hd e.on o' hle hop e' he' hb') ho
theorem binds_any {md : Region.Mode} {e : Edge} (h : Region.binds .any e = true) : Region.binds md e = true := by
 unfold Region.binds at *
 split at h
 ·simp at h
 ·simp at h
 ·rfl
theorem topo_ready {md : Region.Mode} {ops : Array Oper} {listed : Array Bool} (hsz : listed.size = ops.size) : ∀ {σ done : List Nat}, topoGo md ops done σ = true → (∀ i ∈ done, listed.getD i false = true) →
  (∃ i ∈ σ, i < ops.size ∧ listed.getD i true = false) → Region.ready md ops listed ≠ []
 | [], _, _, _, ⟨i, hi, _⟩ => by cases hi
 | j :: σ, done, ht, hd, ⟨i, hi, hlt, hl⟩ => by
  simp only [topoGo, Bool.and_eq_true] at ht
  obtain ⟨hj, ht⟩ := ht
  by_cases hlj : listed.getD j true = true
  ·by_cases hjs : j < ops.size
   ·refine topo_ready hsz ht (fun k hk => ?_) ⟨i, ?_, hlt, hl⟩
    ·simp only [List.mem_cons] at hk
     rcases hk with rfl | hk
     ·rw [Array.getD_eq_getD_getElem?, Array.getElem?_eq_getElem (by omega)] at hlj ⊢
      simpa using hlj
     ·exact hd k hk
    ·simp only [List.mem_cons] at hi
     rcases hi with rfl | hi
     ·rw [hl] at hlj; cases hlj
     ·exact hi
   ·rw [Array.getElem?_eq_none (by omega)] at hj
    simp at hj
  ·have hlj' : listed.getD j true = false := by simpa using hlj
   have hjs : j < listed.size := by
    rcases Nat.lt_or_ge j listed.size with h | h
    ·exact h
    ·rw [Array.getD_eq_getD_getElem?, Array.getElem?_eq_none h] at hlj'; simp at hlj'
   intro hn
   have : j ∈ Region.ready md ops listed := by
    unfold Region.ready
    rw [List.mem_filter]
    refine ⟨List.mem_range.2 (by omega), ?_⟩
    cases ho : ops[j]? with
    | none => rw [ho] at hj; cases hj
    | some o =>
     rw [ho] at hj
     simp only [List.all_eq_true, Bool.or_eq_true, Bool.not_eq_true'] at hj
     simp only [hlj', Bool.not_false, Bool.true_and, Option.map_some, Option.getD_some]
     rw [Array.all_eq_true_iff_forall_mem]
     intro e he
     rcases hj e (by simpa using he) with h | h
     ·simp [h]
     ·simp [hd e.on (by simpa using h)]
   rw [hn] at this
   cases this
theorem getD_set {listed : Array Bool} {i j : Nat} {d : Bool} (hi : i < listed.size) : (listed.setIfInBounds i true).getD j d = if j = i then true else listed.getD j d := by
 rw [Array.getD_eq_getD_getElem?, Array.getD_eq_getD_getElem?]
 by_cases h : j = i
 ·subst h; simp [hi]
 ·rw [if_neg h, Array.getElem?_setIfInBounds_ne (by omega)]
theorem OO.drawn {ro : Option Nat} {base n : Nat} {ops : Array Oper} {ss : List SOper} {md : Region.Mode} {σ : List Nat} {e' : Env} {H' : Heap} (hc : chkOpers P fm n ops ops.toList ss = true) (hp : pairsOk ops ss = true) (htopo : topoOk md ops σ = true)
  {Q : Exit → Act → World → Prop} : ∀ (fuel : Nat) {listed : Array Bool} {M : Mm} {w : World} {a : Act} {e : Env} {H : Heap}, listed.size = ops.size → (rem ops.size listed).length = fuel → Down ops listed →
  OO P fm base ((rem ops.size listed).map (sget ss)) e H e' H' → RelT M w e a n → HRel M w H → M.fm = fm →
  (∀ a' w' M', RelT M' w' e' a' n → HRel M' w' H' → Stp M H w M' H' w' → Ids M M' H.length → a'.defers = a.defers → Q .normal a' w') → wpAnyIn (FR ro) 0 P md ops Q fuel listed a w := by
 have hsl : ss.length = ops.size := by have := chkOpers_len hc; simpa using this
 have rem0 : ∀ {listed : Array Bool}, listed.size = ops.size → Region.ready md ops listed = [] → rem ops.size listed = [] := by
  intro listed hsz hr
  cases hrem : rem ops.size listed with
  | nil => rfl
  | cons i l =>
   exfalso
   have hi : i ∈ rem ops.size listed := by rw [hrem]; simp
   unfold rem at hi
   rw [List.mem_filter, List.mem_range] at hi
   simp only [topoOk, Bool.and_eq_true, List.all_eq_true, List.mem_range] at htopo
   exact topo_ready hsz htopo.1 (fun j hj => by cases hj) ⟨i, by simpa using htopo.2 i hi.1, hi.1, by simpa using hi.2⟩ hr
 intro fuel
 induction fuel with
 | zero =>
  intro listed M w a e H hsz hf hd ho ht hr hm hq
  have hrem : rem ops.size listed = [] := List.eq_nil_of_length_eq_zero hf
  rw [hrem] at ho
  cases ho
  refine ⟨?_, hq a w M ht hr (Stp.refl _ _ _) (Ids.refl _ _) rfl⟩
  cases hrd : Region.ready md ops listed with
  | nil => rfl
  | cons i l =>
   exfalso
   have hi : i ∈ Region.ready md ops listed := by rw [hrd]; simp
   unfold Region.ready at hi
   rw [List.mem_filter] at hi
   simp only [Bool.and_eq_true] at hi
   have : i ∈ rem ops.size listed := by
    unfold rem
    rw [List.mem_filter]
    exact ⟨hi.1, hi.2.1⟩
   rw [hrem] at this
   cases this
 | succ fuel ih =>
  intro listed M w a e H hsz hf hd ho ht hr hm hq
  refine ⟨fun hr0 => ?_, fun i hi => ?_⟩
  ·have := rem0 hsz hr0
   rw [this] at hf
   simp at hf
  ·unfold Region.ready at hi
   rw [List.mem_filter, List.mem_range] at hi
   simp only [Bool.and_eq_true, Bool.not_eq_true'] at hi
   obtain ⟨hlt, hnl, hedges⟩ := hi
   have hoi : ops[i]? = some ops[i] := Array.getElem?_eq_getElem hlt
   rw [hoi] at hedges
   simp only [Option.map_some, Option.getD_some] at hedges
   rw [Array.all_eq_true_iff_forall_mem] at hedges
   have hany : ∀ e ∈ (ops[i]).after.toList, Region.binds .any e = true → listed.getD e.on false = true := by
    intro e he hb
    have := hedges e (by simpa using he)
    simpa [binds_any hb] using this
   -- its place among what is still to come
   have hmem : i ∈ rem ops.size listed := by
    unfold rem
    rw [List.mem_filter, List.mem_range]
    exact ⟨hlt, by simp [hnl]⟩
   obtain ⟨pre, post, hsplit⟩ := List.append_of_mem hmem
   have hsorted : (rem ops.size listed).Pairwise (· < ·) := List.Pairwise.filter _ (List.pairwise_lt_range)
   have hpre : ∀ h ∈ pre, h < i ∧ listed.getD h true = false := by
    intro h hh
    rw [hsplit, List.pairwise_append] at hsorted
    refine ⟨hsorted.2.2 h hh i (by simp), ?_⟩
    have : h ∈ rem ops.size listed := by rw [hsplit]; simp [hh]
    unfold rem at this
    rw [List.mem_filter] at this
    simpa using this.2
   have hind : ∀ p ∈ pre.map (sget ss), indep p (sget ss i) = true := by
    intro p hp'
    obtain ⟨h, hh, rfl⟩ := List.mem_map.1 hp'
    obtain ⟨hlt', hnl'⟩ := hpre h hh
    simp only [pairsOk, List.all_eq_true, List.mem_range, Bool.or_eq_true] at hp
    rcases hp i hlt h hlt' with h1 | h1
    ·exact h1
    ·exfalso
     have := ordered_listed hd hoi hany h1
     rw [Array.getD_eq_getD_getElem?, Array.getElem?_eq_getElem (by omega)] at this hnl'
     simp at this hnl'
     rw [this] at hnl'
     cases hnl'
   rw [hsplit, List.map_append, List.map_cons] at ho
   have ho2 := OO.front ho hind
   cases ho2 with
   | cons hs hrest =>
    have hsi : ss[i]? = some (sget ss i) := by
     rw [List.getElem?_eq_getElem (by omega)]
     simp [sget, List.getD, List.getElem?_eq_getElem (by omega : i < ss.length)]
    have hck := chkOpers_get hc (i := i) (by rw [Array.getElem?_toList]; exact hoi) hsi
    have hset : ∀ j d, (listed.setIfInBounds i true).getD j d = if j = i then true else listed.getD j d := fun j d => getD_set (by omega)
    have hrem' : rem ops.size (listed.setIfInBounds i true) = pre ++ post := by
     have h1 : rem ops.size (listed.setIfInBounds i true) = (rem ops.size listed).filter (fun j => decide (j ≠ i)) := by
      unfold rem
      rw [List.filter_filter]
      apply List.filter_congr
      intro j _
      rw [hset]
      by_cases hji : j = i <;> simp [hji]
     rw [h1, hsplit, List.filter_append, List.filter_cons]
     simp only [ne_eq, not_true_eq_false, decide_false, Bool.false_eq_true, if_false]
     rw [hsplit, List.pairwise_append, List.pairwise_cons] at hsorted
     rw [List.filter_eq_self.2 (fun j hj => by have := (hpre j hj).1; simp; omega), List.filter_eq_self.2 (fun j hj => by have := hsorted.2.1.1 j hj; simp; omega)]
    have key : if Region.wanted ops[i] (yielded ops a.tmps) = true then (ops[i]).wpIn (FR ro) 0 P a w (wpAnyIn (FR ro) 0 P md ops Q fuel (listed.setIfInBounds i true)) Q else (∀ f, (ops[i]).about P w a.eval = some f → (FR ro).fn f) ∧ wpAnyIn (FR ro) 0 P md ops Q fuel (listed.setIfInBounds i true) (a.put (ops[i]).dst undef) w := by
     refine hs.sound hck ht hr hm fun a' w' M' t1 r1 s1 i1 d1 => ?_
     refine ih (by simpa using hsz) ?_ ?_ ?_ t1 r1 (s1.fm.trans hm) ?_
     ·rw [hrem']
      rw [hsplit] at hf
      simp only [List.length_append, List.length_cons] at hf ⊢
      omega
     ·intro j o hj hoj e he hb
      rw [hset] at hj ⊢
      by_cases hji : j = i
      ·subst hji
       rw [hoi] at hoj; cases hoj
       split
       ·rfl
       ·exact hany e he hb
      ·rw [if_neg hji] at hj
       split
       ·rfl
       ·exact hd j o hj hoj e he hb
     ·rw [hrem', List.map_append]; exact hrest
     ·intro a'' w'' M'' t2 r2 s2 i2 d2
      exact hq _ _ _ t2 r2 (s1.trans s2) (i1.trans i2 hs.len) (d2.trans d1)
    unfold wpOpIn
    rw [hoi]
    simp only
    split
    ·rename_i hw; rw [if_pos hw] at key; exact key
    ·rename_i hw; rw [if_neg hw] at key; exact key
theorem region_drawn {ro : Option Nat} {base n id : Nat} {ops : Array Oper} {ss : List SOper} {e e' : Env} {H H' : Heap} {a : Act} {Q : Exit → Act → World → Prop} (h : OO P fm base ss e H e' H') (hc : chkOpers P fm n ops ops.toList ss = true) (hd : drawOk ops ss = true)
  (ht : RelT M w e a n) (hr : HRel M w H) (hm : M.fm = fm)
  (hq : ∀ a' w' M', RelT M' w' e' a' n → HRel M' w' H' → Stp M H w M' H' w' → Ids M M' H.length → a'.defers = a.defers → Q .normal a' w') : (Code.region id ops true).wpIn (FR ro) 0 P Q a w := by
 unfold drawOk at hd
 simp only [Bool.and_eq_true, Bool.or_eq_true, Bool.not_eq_true'] at hd
 obtain ⟨⟨hp, h1⟩, h2⟩ := hd
 have hsl : ss.length = ops.size := by have := chkOpers_len hc; simpa using this
 have g := Grew.drew w
 obtain ⟨s0, i0, r0⟩ := stp_same (w' := w.drew) (M' := M) hr g (Same.refl M _)
 have hrem : rem ops.size (Array.replicate ops.size false) = List.range ops.size := by
  unfold rem
  apply List.filter_eq_self.2
  intro i hi
  rw [List.mem_range] at hi
  rw [Array.getD_eq_getD_getElem?, Array.getElem?_replicate, if_pos hi]
  rfl
 have hss : (List.range ops.size).map (sget ss) = ss := by
  apply List.ext_getElem?
  intro i
  rw [List.getElem?_map]
  by_cases hi : i < ops.size
  ·rw [List.getElem?_range hi, List.getElem?_eq_getElem (by omega : i < ss.length)]
   simp [sget, List.getD, List.getElem?_eq_getElem (by omega : i < ss.length)]
  ·rw [List.getElem?_eq_none (by simp; omega), List.getElem?_eq_none (by omega : ss.length ≤ i)]
   rfl
 have main : ∀ md σ, topoOk md ops σ = true → ∀ t, wpOpsIn (FR ro) 0 P ops Q (Region.linearise md ops t) a w.drew := by
  intro md σ hσ t
  have := OO.drawn (ro := ro) (P := P) (fm := fm) (base := base) (md := md) (σ := σ) (Q := Q) (e' := e') (H' := H') (ss := ss) hc hp hσ ops.size (listed := Array.replicate ops.size false) (M := M) (w := w.drew) (a := a) (e := e) (H := H)
   (by simp) (by rw [hrem]; simp) (fun i o hi _ => by
    rw [Array.getD_eq_getD_getElem?, Array.getElem?_replicate] at hi
    split at hi <;> simp at hi) (by rw [hrem, hss]; exact h) (RelT.step s0 hr i0 ht) r0 hm
   (fun a' w' M' t1 r1 s1 i1 d1 => hq a' w' M' t1 r1 (s0.trans s1) (i0.trans i1 (Nat.le_refl _)) d1)
  exact wpAnyIn_sound _ t _ _ _ this
 refine wpIn_region_draw fun t => ?_
 change wpOpsIn (FR ro) 0 P ops Q _ a w.drew
 unfold Region.schedule
 split
 ·exact main .any _ h1 t
 ·rename_i hmix
  rcases h2 with h2 | ⟨h2, h3⟩
  ·exfalso; apply hmix; simp [h2]
  ·split
   ·exact main .text _ h2 _
   ·exact main .gc _ h3 _
end Go.Ev
