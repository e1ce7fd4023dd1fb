/- Code and functions: what the relation says is what the model does. -/
import Derived.Scope
import Derived.Test.YtablmcdlcpphjaaGreatDoorEvKW
import Derived.ProofKit
import Derived.SizedLaws
set_option linter.unusedVariables false
set_option linter.unusedSimpArgs false
namespace Go.Ev
open Go Go.RowKit
set_option linter.unusedSimpArgs false
set_option linter.unusedVariables false
variable {P : Program} {M M' : Mm} {H H1 H2 : Heap} {w w' : World} {fm : Fm} {e : Env}
def bodyOf : Code → Code
 | .scope c => c
 | c => c
theorem stepR_scope {P : Program} {b : Frame} {a : Act} {k : List Item} {cs : List Frame} {w : World} {c : Code} : step P (lone (b.atR a (.code (.scope c) :: k)) cs w) = .next (lone (b.atR a (.code c :: .inScope c :: k)) cs w) :=
 step_lone_go (by simp [stepG, stepG.exec, Frame.atR])
theorem stepR_inScope {P : Program} {b : Frame} {a : Act} {k : List Item} {cs : List Frame} {w : World} {c : Code} : step P (lone (b.atR a (.inScope c :: k)) cs w) = .next (lone (b.atR a k) cs w) :=
 step_lone_go (by simp [stepG, stepG.exec, Frame.atR])
theorem roomFR {ro : Option Nat} (n : Nat) : (FR ro).room n := fun d h => by cases h
theorem wpIn_scope_straight {ro : Option Nat} {P : Program} {c : Code} {Q : Exit → Act → World → Prop} {a : Act} {w : World} (h : c.wpIn (FR ro) 0 P (Exit.noGoto Q) a w) : (Code.scope c).wpIn (FR ro) 0 P Q a w := by
 intro b k cs hro hb hr
 have h0 : (lone (b.atR a (.code (.scope c) :: k)) cs w).fenced P (FR ro) := fenced_calm hb hr rfl
 obtain ⟨e, a₁, w₁, hq, harr⟩ := h b (.inScope c :: k) cs hro hb hr
 cases e with
 | normal => exact ⟨.normal, a₁, w₁, hq, .head h0 stepR_scope (StepsIn.trans harr (.one (fenced_calm hb hr rfl) stepR_inScope))⟩
 | exit id =>
  have hx : exitTo id (.inScope c :: k) = exitTo id k := by simp [exitTo]
  exact ⟨.exit id, a₁, w₁, hq, fun k' hk => .head h0 stepR_scope (harr.1 k' (by rw [hx]; exact hk)),
   fun hr' hk => let ⟨k₁, h1, h2⟩ := harr.2 hr' (by rw [hx]; exact hk); ⟨k₁, h1, .head h0 stepR_scope h2⟩⟩
 | goto l => exact hq.elim
 | ret => exact ⟨_, a₁, w₁, hq, .of_steps (.one h0 stepR_scope) harr⟩
 | panic ch => exact ⟨_, a₁, w₁, hq, .of_steps (.one h0 stepR_scope) harr⟩
 | outgrown => exact ⟨_, a₁, w₁, hq, .of_steps (.one h0 stepR_scope) harr⟩
theorem wp_bodyOf {ro : Option Nat} {P : Program} {c : Code} {Q : Exit → Act → World → Prop} {a : Act} {w : World} (h : (bodyOf c).wpIn (FR ro) 0 P (Exit.noGoto Q) a w) : c.wpIn (FR ro) 0 P Q a w := by
 have all : c.wpIn (FR ro) 0 P (Exit.noGoto Q) a w → c.wpIn (FR ro) 0 P Q a w := fun h => wpIn_mono h fun e a1 w1 hq => by
  cases e <;> first | exact hq | exact hq.elim
 cases c <;> first | exact wpIn_scope_straight h | exact all h
def chkC (P : Program) (fm : Fm) (rd : Bool) (n : Nat) : SCode → Code → Bool
 | .seq (.keep _) s, c => chkC P fm rd n s c
 | .seq (.give _ _) s, c => chkC P fm rd n s c
 | .seq (.freeze _) s, c => chkC P fm rd n s c
 | .seq s1 s2, .seq c1 c2 => chkC P fm rd n s1 c1 && chkC P fm rd n s2 (bodyOf c2)
 | .skip, .skip => true
 | .skip, .label _ => true
 | .region _ ss, .region _ ops draw => chkOpers P fm n ops ops.toList ss && (!draw || drawOk ops ss)
 | .cond x s1 s2, .cond c c1 c2 => chkX fm c x && chkC P fm rd n s1 c1 && chkC P fm rd n s2 c2
 | .block id s, .block id' c => id == id' && chkC P fm rd n s c
 | .loop _ s, .loop c => chkC P fm rd n s c
 | .exit id, .exit id' => id == id'
 | .ret, .ret => true
 | .rangeF g _ ps as bo, .rangeFunc g' ps' as' bo' => !rd && chkX fm g' g && ps == ps'.toList && ps.all (fun p => decide (p < n)) && chkC P fm true n as as' && chkC P fm true n bo bo'
 | _, _ => false
def COK (P : Program) (fm : Fm) (s : SCode) (e : Env) (H : Heap) (x : Ex) (e' : Env) (H' : Heap) : Prop :=
 H.length ≤ H'.length ∧ ∀ (ro : Option Nat) (n : Nat) (c : Code) (M : Mm) (w : World) (a : Act) (Q : Exit → Act → World → Prop), chkC P fm ro.isSome n s c = true → RelT M w e a n → HRel M w H → M.fm = fm →
  Post M H w a n H.length x e' H' Q → c.wpIn (FR ro) 0 P Q a w
def LoopWp (ro : Option Nat) (P : Program) (c : Code) (Q : Exit → Act → World → Prop) (a : Act) (w : World) : Prop :=
 ∀ (b : Frame) (k : List Item) (cs : List Frame), b.roundOf = ro → ∃ e a' w', Q e a' w' ∧ ArrivesIn (Machine.fenced P (FR ro)) P (lone (b.atR a (.code c :: .inLoop c :: k)) cs w) b k cs e a' w'
def LOK (P : Program) (fm : Fm) (m : Nat) (s : SCode) (e : Env) (H : Heap) (x : Ex) (e' : Env) (H' : Heap) : Prop :=
 m ≤ H.length → (m ≤ H'.length ∧ ∀ (ro : Option Nat) (n : Nat) (c : Code) (M : Mm) (w : World) (a : Act) (Q : Exit → Act → World → Prop), chkC P fm ro.isSome n s c = true → RelT M w e a n → HRel M w H → M.fm = fm →
  Post M H w a n m x e' H' Q → LoopWp ro P c Q a w)
def Mot (P : Program) (fm : Fm) : J → Prop
 | .F f args H r H' => FOK P fm f args H r H'
 | .S base o e H e' H' => SS P fm base o e H e' H'
 | .O base os e H e' H' => OO P fm base os e H e' H'
 | .C s e H x e' H' => COK P fm s e H x e' H'
 | .L m l s e H x e' H' => LOK P fm m s e H x e' H'
def chkRes (P : Program) : List ResultVar → List ResV → Bool
 | [], [] => true
 | .tmp t :: rs, .tmp t' :: ss => t == t' && chkRes P rs ss
 | .cell t ty :: rs, .cell t' sz ag :: ss => t == t' && tyOk P ty sz ag && chkRes P rs ss
 | _, _ => false
def chkFn (P : Program) (fm : Fm) (fid : FuncId) (fn : SFn) : Bool :=
 match P.funcs[fid]? with
 | some F => match F.body with
  | some c => F.ntmps == fn.nt && F.name != "runtime.NumGoroutine" && chkRes P F.results.toList fn.res && chkC P fm false fn.nt fn.body (bodyOf c)
  | none => false
 | none => false
theorem relT_keep {e : Env} {a : Act} {n : Nat} (l : List Nat) (ht : RelT M w e a n) : RelT M w (keepE l e) a n :=
 ⟨ht.size, ht.defers, fun i => by
  by_cases h : i ∈ l
  ·have : keepE l e i = e i := by simp only [keepE, h, if_true]
   rw [this]; exact ht.rel i
  ·have : keepE l e i = .undef := by simp only [keepE, h, if_false]
   rw [this]; simp only [Enc], ht.glo⟩
theorem relT_upto {e : Env} {a : Act} {n m : Nat} (ht : RelT M w e a n) : RelT (M.upto m) w (e.cl m) a n :=
 ⟨ht.size, ht.defers, fun i => Enc.upto m (ht.rel i), fun g cs hg => by have := Enc.upto m (ht.glo g cs hg); simpa only [V.cl] using this⟩
theorem chk_ghost {rd : Bool} {n : Nat} {s1 s2 : SCode} {c : Code} (h : chkC P fm rd n (.seq s1 s2) c = true) :
  ((∃ l, s1 = .keep l) ∨ (∃ t o, s1 = .give t o) ∨ (∃ t, s1 = .freeze t)) ∧ chkC P fm rd n s2 c = true ∨ ∃ c1 c2, c = .seq c1 c2 ∧ chkC P fm rd n s1 c1 = true ∧ chkC P fm rd n s2 (bodyOf c2) = true := by
 cases s1
 case keep l => simp only [chkC] at h; exact .inl ⟨.inl ⟨l, rfl⟩, h⟩
 case give t o => simp only [chkC] at h; exact .inl ⟨.inr (.inl ⟨t, o, rfl⟩), h⟩
 case freeze t => simp only [chkC] at h; exact .inl ⟨.inr (.inr ⟨t, rfl⟩), h⟩
 case nat k => cases c <;> simp [chkC] at h
 all_goals
  right
  cases c <;> simp only [chkC, Bool.false_eq_true, Bool.and_eq_true] at h
  exact ⟨_, _, rfl, h.1, h.2⟩
theorem give_sound {e e1 : Env} {t : Nat} {off : Option Nat} {a : Act} {n : Nat} (h : giveIt e H t off = some (e1, H1)) (ht : RelT M w e a n) (hr : HRel M w H) (htn : ∀ v, e t = v → v ≠ .undef → True) :
  ∃ M', RelT M' w e1 a n ∧ HRel M' w H1 ∧ Stp M H w M' H1 w ∧ Ids M M' H.length ∧ H.length ≤ H1.length := by
 have hpad := hrel_pad hr 1
 have spad := stp_pad M H w 1
 have hrep : List.replicate 1 (none : Option Blk) = [none] := rfl
 rw [hrep] at hpad spad
 have hfree : isFree (H ++ [none]) H.length = true := by rw [isFree_iff]; simp
 have hal := free_al hpad hfree
 have hbl0 : blOf M (H ++ [none]) H.length = none := by unfold blOf; simp
 have zone : ∀ k, Stp M H w (M.zon H.length ⟨k, none, k, 0⟩) (H ++ [some (.zone k)]) w ∧ Ids M (M.zon H.length ⟨k, none, k, 0⟩) H.length ∧ HRel (M.zon H.length ⟨k, none, k, 0⟩) w (H ++ [some (.zone k)]) := by
  intro k
  obtain ⟨s, i, r⟩ := stp_zone (w' := w) (id := H.length) (z := ⟨k, none, k, 0⟩) hpad (.inl hfree) rfl rfl rfl (Nat.le_refl _) (fun _ _ _ => rfl) (fun _ _ _ _ _ _ => rfl) (fun b hb => by cases hb) (fun b l _ hb _ => by cases hb)
   (fun ha => by rw [hal] at ha; cases ha) rfl
  have hset : (H ++ [none]).set H.length (some (Blk.zone k)) = H ++ [some (.zone k)] := by simp
  rw [hset] at s r
  exact ⟨spad.trans s, i.mono (by simp), r⟩
 have encOwn : ∀ {es : List (List V)} {x : Value}, Enc M w (.vs es .full) x → Enc (M.zon H.length ⟨es.length, none, es.length, 0⟩) w (.vs es (.own H.length)) x := by
  intro es x he
  obtain ⟨s, i, r⟩ := zone es.length
  have he' := Enc.step s hr i he
  simp only [Enc] at he' ⊢
  obtain ⟨p, ad, cap, hv, hc, hs, ht⟩ := he'
  refine ⟨p, ad, cap, hv, hc, hs, ?_⟩
  simp only [TkOk] at ht ⊢
  simp only [Mm.zon, decide_true, Bool.true_or, if_true, true_and]
  exact ⟨Nat.le_refl _, fun _ => ⟨ht, ht⟩⟩
 cases off with
 | none =>
  simp only [giveIt] at h
  split at h
  ·rename_i es hes
   cases h
   obtain ⟨s, i, r⟩ := zone es.length
   refine ⟨_, ⟨ht.size, defers_step s hr ht.defers, fun j => ?_, ht.glo.step s hr i⟩, r, s, i, by simp⟩
   simp only [Env.put_some]
   split
   ·rename_i hj
    subst hj
    have := ht.rel j
    rw [hes] at this
    exact encOwn this
   ·exact Enc.step s hr i (ht.rel j)
  ·rename_i es q hes
   cases h
   refine ⟨M, ⟨ht.size, ht.defers, fun j => ?_, ht.glo⟩, hr, Stp.refl _ _ _, Ids.refl _ _, Nat.le_refl _⟩
   simp only [Env.put_some]
   split
   ·rename_i hj; subst hj; rw [← hes]; exact ht.rel j
   ·exact ht.rel j
  ·cases h
 | some off =>
  simp only [giveIt] at h
  split at h
  case h_2 => cases h
  rename_i id o hp
  split at h
  case h_2 => cases h
  rename_i cs hb
  split at h
  case h_3 => cases h
  ·rename_i es hes
   cases h
   obtain ⟨s, i, r⟩ := zone es.length
   have hlt : id < H.length := (List.getElem?_eq_some_iff.1 hb).1
   have hb' : (H ++ [some (Blk.zone es.length)])[id]? = some (some (.cells cs)) := by rw [List.getElem?_append_left hlt]; exact hb
   have h0 := r.rel id _ hb'
   simp only [BRel] at h0
   obtain ⟨hsc, hl0, xs, te, hh, he⟩ := h0
   have hb0 := hr.rel id _ hb
   simp only [BRel] at hb0
   obtain ⟨_, _, xs0, te0, hh0, he0⟩ := hb0
   have hj : (M.zon H.length ⟨es.length, none, es.length, 0⟩).j id = M.j id := rfl
   rw [hj] at hh
   have hxx : xs0 = xs := by rw [hh0] at hh; cases hh; rfl
   subst hxx
   have hcs : EncL (M.zon H.length ⟨es.length, none, es.length, 0⟩) w (cs.set (o + off) (.vs es (.own H.length))) (xs0.toList.take (cs.set (o + off) (.vs es (.own H.length))).length) := by
    rw [List.length_set]
    refine encL_of (by have := encL_length he; simpa using this) fun k c x hc hx => ?_
    rw [List.getElem?_set] at hc
    split at hc
    ·rename_i hk
     subst hk
     split at hc
     ·cases hc
      obtain ⟨x', hx', hex⟩ := encL_get he0 hes
      rw [hx] at hx'; cases hx'
      exact encOwn hex
     ·cases hc
    ·obtain ⟨x', hx', hex⟩ := encL_get he hc
     rw [hx] at hx'; cases hx'
     exact hex
   obtain ⟨s2, i2, r2⟩ := stp_set (w := w) (ys := xs0) r hb' (by rw [hj]; exact hh0) hcs (fun c hc => by
    rcases List.mem_or_eq_of_mem_set hc with hc | hc
    ·exact hsc c hc
    ·rw [hc]; rfl)
   have hself : w.setRow ((M.zon H.length ⟨es.length, none, es.length, 0⟩).j id) xs0 = w := by rw [hj]; exact setRow_self w (M.j id) xs0 te0 (0, 0) hh0
   rw [hself] at s2 r2
   have hset : (H ++ [some (Blk.zone es.length)]).set id (some (.cells (cs.set (o + off) (.vs es (.own H.length))))) = H.set id (some (.cells (cs.set (o + off) (.vs es (.own H.length))))) ++ [some (.zone es.length)] := by
    rw [List.set_append_left _ _ hlt]
   rw [hset] at s2 r2
   refine ⟨_, ⟨ht.size, ht.defers, fun j => Enc.step s2 r i2 (Enc.step s hr i (ht.rel j)), (ht.glo.step s hr i).step s2 r i2⟩, r2, s.trans s2, i.trans i2 (by simp), by simp⟩
  ·cases h
   exact ⟨M, ht, hr, Stp.refl _ _ _, Ids.refl _ _, Nat.le_refl _⟩
theorem froz_one {id : Nat} {ds : List V} (hr : HRel M w H) (hb : H[id]? = some (some (.cells ds))) (hp : ∀ c ∈ ds, c.pure = true) :
  Stp M H w (M.limit (M.j id) ds.length) (H.set id (some (.froz ds))) w ∧ Ids M (M.limit (M.j id) ds.length) H.length ∧ HRel (M.limit (M.j id) ds.length) w (H.set id (some (.froz ds))) := by
 have hb' := hr.rel id _ hb
 simp only [BRel] at hb'
 obtain ⟨hsc, hl0, xs, te, hh, he⟩ := hb'
 refine stp_put hr hb rfl rfl hl0 ds.length rfl rfl rfl rfl (fun _ _ => rfl) fun hst hid => ?_
 simp only [BRel]
 exact ⟨hp, by simp [Mm.limit], xs, te, hh, EncL.step hst hr hid he⟩
theorem froz_vs {id off k sz : Nat} {ds : List V} {x : Value} (hr : HRel M w H) (hb : H[id]? = some (some (.froz ds))) (hle : off + k * sz ≤ ds.length) (h : Enc M w (.rs id off k sz) x) :
  Enc M w (.vs (chunks sz k (ds.drop off)) .no) x := by
 have hb' := hr.rel id _ hb
 simp only [BRel] at hb'
 obtain ⟨hp, hl, xs, te, hh, hE⟩ := hb'
 simp only [Enc] at h
 obtain ⟨ha, cap, rfl, hcap⟩ := h
 obtain ⟨h1, h2, h3⟩ := chunks_flat (sz := sz) (k := k) (cs := ds.drop off) (by rw [List.length_drop]; omega)
 simp only [Enc]
 refine ⟨fun e he c hc => hp c (List.mem_of_mem_drop ((h3 e he).2 c hc)), some ⟨M.j id, off, none⟩, cap, by rw [h2], by rw [h2]; exact hcap, ⟨.inr rfl, ⟨sz, fun e he => (h3 e he).1⟩, ?_⟩, trivial⟩
 rw [encRows_iff, h1]
 refine encRow_of fun i c hc => ?_
 rw [List.getElem?_take] at hc
 split at hc
 ·rw [List.getElem?_drop] at hc
  obtain ⟨x, hx, hex⟩ := encL_get hE hc
  refine ⟨x, ?_, fun l hl2 => ?_, hex⟩
  ·rw [cell_of_row w (M.j id) (off + i) xs te (0, 0) hh]
   exact pfx_get hx
  ·rw [hl] at hl2; cases hl2; exact (List.getElem?_eq_some_iff.1 hc).1
 ·cases hc
theorem frzL_sound : ∀ {cs : List V} {xs : List Value} {H H1 : Heap} {M : Mm} {cs' : List V}, frzL H cs = some (cs', H1) → HRel M w H → EncL M w cs xs →
  ∃ M', Stp M H w M' H1 w ∧ Ids M M' H.length ∧ HRel M' w H1 ∧ H.length = H1.length ∧ EncL M' w cs' xs ∧ ((∀ c ∈ cs, c.scal = true) → ∀ c ∈ cs', c.scal = true)
 | [], xs, H, H1, M, cs', h, hr, he => by
  simp only [frzL, Option.some.injEq, Prod.mk.injEq] at h
  obtain ⟨rfl, rfl⟩ := h
  exact ⟨M, Stp.refl _ _ _, Ids.refl _ _, hr, rfl, he, fun _ => by simp⟩
 | c :: cs, xs, H, H1, M, cs', h, hr, he => by
  simp only [EncL] at he
  obtain ⟨x, xs', rfl, he1, he2⟩ := he
  have plain : ∀ (r : List V × Heap), frzL H cs = some r → cs' = c :: r.1 → H1 = r.2 →
    ∃ M', Stp M H w M' H1 w ∧ Ids M M' H.length ∧ HRel M' w H1 ∧ H.length = H1.length ∧ EncL M' w cs' (x :: xs') ∧ ((∀ d ∈ c :: cs, d.scal = true) → ∀ d ∈ cs', d.scal = true) := by
   rintro ⟨cs2, H2⟩ hf rfl rfl
   obtain ⟨M', s1, i1, r1, l1, e1, p1⟩ := frzL_sound hf hr he2
   refine ⟨M', s1, i1, r1, l1, by simp only [EncL]; exact ⟨x, xs', rfl, Enc.step s1 hr i1 he1, e1⟩, fun hs d hd => ?_⟩
   simp only [List.mem_cons] at hd
   rcases hd with rfl | hd
   ·exact hs _ (by simp)
   ·exact p1 (fun d hd => hs d (by simp [hd])) d hd
  cases c with
  | rs id off k sz =>
   simp only [frzL] at h
   split at h
   ·rename_i ds hb
    split at h
    case isFalse => cases h
    rename_i hc
    obtain ⟨hle, hpu⟩ := hc
    split at h
    case h_2 => cases h
    rename_i cs2 H2 hf
    cases h
    obtain ⟨s0, i0, r0⟩ := froz_one hr hb (List.all_eq_true.1 hpu)
    have hlt : id < H.length := (List.getElem?_eq_some_iff.1 hb).1
    have hb2 : (H.set id (some (Blk.froz ds)))[id]? = some (some (.froz ds)) := List.getElem?_set_self hlt
    obtain ⟨M', s1, i1, r1, l1, e1, p1⟩ := frzL_sound hf r0 (EncL.step s0 hr i0 he2)
    have hv := froz_vs r0 hb2 hle (Enc.step s0 hr i0 he1)
    refine ⟨M', s0.trans s1, i0.trans i1 (by simp), r1, by rw [← l1]; simp, by simp only [EncL]; exact ⟨x, xs', rfl, Enc.step s1 r0 i1 hv, e1⟩, fun hs d hd => ?_⟩
    simp only [List.mem_cons] at hd
    rcases hd with rfl | hd
    ·rfl
    ·exact p1 (fun d hd => hs d (by simp [hd])) d hd
   ·rename_i ds hb
    split at h
    case isFalse => cases h
    rename_i hle
    split at h
    case h_2 => cases h
    rename_i cs2 H2 hf
    cases h
    obtain ⟨M', s1, i1, r1, l1, e1, p1⟩ := frzL_sound hf hr he2
    have hv := froz_vs hr hb hle he1
    refine ⟨M', s1, i1, r1, l1, by simp only [EncL]; exact ⟨x, xs', rfl, Enc.step s1 hr i1 hv, e1⟩, fun hs d hd => ?_⟩
    simp only [List.mem_cons] at hd
    rcases hd with rfl | hd
    ·rfl
    ·exact p1 (fun d hd => hs d (by simp [hd])) d hd
   ·cases h
  | _ =>
   simp only [frzL] at h
   split at h
   ·rename_i cs2 H2 hf
    cases h
    exact plain _ hf rfl rfl
   ·cases h
theorem hrel_swap (hr : HRel M w H) {id : Nat} {cs ds : List V} {xs : Array Value} {te : TypeId} (hb : H[id]? = some (some (.cells ds))) (hx : w.heap[M.j id]? = some (.cells xs te (0, 0))) (he : EncL M w cs (xs.toList.take cs.length)) (hs : ∀ c ∈ cs, c.scal = true) :
  HRel M w (H.set id (some (.cells cs))) ∧ Stp M H w M (H.set id (some (.cells cs))) w := by
 have hlt : id < H.length := (List.getElem?_eq_some_iff.1 hb).1
 have hbl : ∀ i, blOf M (H.set id (some (.cells cs))) i = blOf M H i := by
  intro i
  by_cases e : i = id
  ·subst e
   unfold blOf
   rw [List.getElem?_set_self hlt, hb]
  ·unfold blOf; rw [getElem?_set_ne e]
 have hl : M.lim (M.j id) = some 0 := by have := hr.rel id _ hb; simp only [BRel] at this; exact this.2.1
 refine ⟨⟨fun i => ?_, fun i blk h => ?_, fun i i' b h1 h2 => ?_, hr.glo⟩, ?_⟩
 ·by_cases e : i = id
  ·subst e
   rw [List.getElem?_set_self hlt]
   have := hr.dom i
   rw [hb] at this
   exact ⟨fun _ => ⟨_, rfl⟩, fun _ => this.2 ⟨_, rfl⟩⟩
  ·rw [getElem?_set_ne e]; exact hr.dom i
 ·by_cases e : i = id
  ·subst e
   rw [List.getElem?_set_self hlt] at h
   cases h
   simp only [BRel]
   exact ⟨hs, hl, xs, te, hx, he⟩
  ·rw [getElem?_set_ne e] at h; exact hr.rel i blk h
 ·rw [hbl] at h1 h2; exact hr.inj i i' b h1 h2
 ·exact ⟨rfl, rfl, rfl, Nat.le_refl _, fun _ _ _ => rfl, fun _ _ _ _ _ _ => rfl, fun _ _ h => h, fun _ l _ h => ⟨l, h, Nat.le_refl _⟩, fun _ _ _ => rfl, fun b _ ho => by obtain ⟨i, hi⟩ := ho; rw [hbl] at hi; exact ⟨i, hi⟩, rfl⟩
theorem freeze_sound {e e1 : Env} {t : Nat} {a : Act} {n : Nat} (h : frzIt e H t = some (e1, H1)) (ht : RelT M w e a n) (hr : HRel M w H) :
  ∃ M', RelT M' w e1 a n ∧ HRel M' w H1 ∧ Stp M H w M' H1 w ∧ Ids M M' H.length ∧ H.length ≤ H1.length := by
 have h0 := ht.rel t
 have put : ∀ (M' : Mm) (H1 : Heap) (v : V), Stp M H w M' H1 w → Ids M M' H.length → Enc M' w v (a.tmps.getD t undef) → RelT M' w (e.put (some t) v) a n := by
  intro M' H1 v s1 i1 hv
  refine ⟨ht.size, ht.defers, fun j => ?_, ht.glo.step s1 hr i1⟩
  simp only [Env.put_some]
  split
  ·rename_i hj; subst hj; exact hv
  ·exact Enc.step s1 hr i1 (ht.rel j)
 unfold frzIt at h
 split at h
 ·rename_i cs hcs
  split at h
  case h_2 => cases h
  rename_i cs' H' hf
  cases h
  rw [hcs] at h0
  simp only [Enc] at h0
  obtain ⟨hsc, xs, hx, he⟩ := h0
  obtain ⟨M', s1, i1, r1, l1, e1, p1⟩ := frzL_sound hf hr he
  exact ⟨M', put M' _ _ s1 i1 (by simp only [Enc]; exact ⟨p1 hsc, xs, hx, e1⟩), r1, s1, i1, Nat.le_of_eq l1⟩
 ·rename_i id off hcs
  split at h
  case h_2 => cases h
  rename_i cs hb
  split at h
  case h_2 => cases h
  rename_i cs' H' hf
  split at h
  case h_2 => cases h
  rename_i ds hb'
  cases h
  have hb0 := hr.rel id _ hb
  simp only [BRel] at hb0
  obtain ⟨hsc, _, xs, te, hh, he⟩ := hb0
  obtain ⟨M', s1, i1, r1, l1, e1, p1⟩ := frzL_sound hf hr he
  have hlt : id < H.length := (List.getElem?_eq_some_iff.1 hb).1
  have hj : M'.j id = M.j id := (i1 id hlt ((hr.dom id).2 ⟨_, hb⟩)).2.1
  obtain ⟨r2, s2⟩ := hrel_swap r1 hb' (by rw [hj]; exact hh) (by rw [← encL_length e1, encL_length he]; exact e1) (p1 hsc)
  refine ⟨M', ⟨ht.size, ht.defers, fun j => Enc.step s1 hr i1 (ht.rel j), ht.glo.step s1 hr i1⟩, r2, s1.trans s2, i1, ?_⟩
  rw [List.length_set]
  exact Nat.le_of_eq l1
 ·split at h
  case h_2 => cases h
  rename_i v' H' hf
  cases h
  obtain ⟨M', s1, i1, r1, l1, e1, p1⟩ := frzL_sound (xs := [a.tmps.getD t undef]) hf hr (by simp only [EncL]; exact ⟨_, _, rfl, h0, rfl⟩)
  simp only [EncL] at e1
  obtain ⟨x, xs', hx, e2, _⟩ := e1
  cases hx
  exact ⟨M', put M' _ _ s1 i1 e2, r1, s1, i1, Nat.le_of_eq l1⟩
theorem frzL_len : ∀ {cs : List V} {H H1 : Heap} {cs' : List V}, frzL H cs = some (cs', H1) → H1.length = H.length
 | [], H, H1, cs', h => by simp only [frzL, Option.some.injEq, Prod.mk.injEq] at h; rw [h.2]
 | c :: cs, H, H1, cs', h => by
  cases c <;> simp only [frzL] at h
  all_goals
   repeat' split at h
   all_goals first
    | (cases h; done)
    | (rename_i hf; cases h; have := frzL_len hf; simpa using this)
theorem freeze_len {e e1 : Env} {t : Nat} (h : frzIt e H t = some (e1, H1)) : H.length ≤ H1.length := by
 unfold frzIt at h
 repeat' split at h
 all_goals first
  | (cases h; done)
  | (rename_i hf; cases h; exact Nat.le_of_eq (frzL_len hf).symm)
  | (rename_i hf _ _ _; cases h; rw [List.length_set]; exact Nat.le_of_eq (frzL_len hf).symm)
theorem give_len {e e1 : Env} {t : Nat} {off : Option Nat} (h : giveIt e H t off = some (e1, H1)) : H.length ≤ H1.length := by
 cases off <;> simp only [giveIt] at h
 all_goals
  revert h
  repeat' split
  all_goals intro h
  all_goals first
   | (cases h; done)
   | (cases h; simp; done)
theorem run_loadVar_mk {t : TypeId} {sz : Nat} {ag : Bool} {b off : Nat} {xs : List Value} (hty : tyOk P t sz ag = true) (hl : xs.length = sz) (hc : w.rangeAt b off xs) :
  (loadVar t ⟨b, off, none⟩).run P w = .ok (mkR ag xs) w := by
 have := run_load_mk (P := P) hty hl hc
 simpa [Instr.loadAt, Instr.sureAddr] using this
def resM (tmps : Array Value) : ResultVar → Sem Value
 | .tmp t => pure (tmps.getD t undef)
 | .cell a t => do loadVar t (← asAddr (tmps.getD a undef))
theorem res_ok {e : Env} {a : Act} {n : Nat} (ht : RelT M w e a n) (hr : HRel M w H) : ∀ {rs : List ResultVar} {ss : List ResV} {vs : List V}, chkRes P rs ss = true → evRess e H ss = some vs →
  ∃ xs, (rs.mapM (resM a.tmps)).run P w = .ok xs w ∧ EncL M w vs xs
 | [], [], vs, _, h => by
  simp only [evRess, Option.some.injEq] at h
  subst h
  exact ⟨[], by simp, by simp only [EncL]⟩
 | [], _ :: _, _, h, _ => by simp [chkRes] at h
 | r :: rs, [], _, h, _ => by cases r <;> simp [chkRes] at h
 | r :: rs, s :: ss, vs, hc, h => by
  simp only [evRess] at h
  split at h
  case h_2 => cases h
  rename_i v vs' hv hvs
  simp only [Option.some.injEq] at h
  subst h
  have hone : chkRes P rs ss = true ∧ ∃ x, (resM a.tmps r).run P w = .ok x w ∧ Enc M w v x := by
   cases r <;> cases s <;> simp only [chkRes, Bool.false_eq_true, Bool.and_eq_true, beq_iff_eq] at hc
   ·obtain ⟨rfl, hc⟩ := hc
    simp only [evRes, Option.some.injEq] at hv
    subst hv
    exact ⟨hc, _, rfl, ht.rel _⟩
   ·rename_i t ty t' sz ag
    obtain ⟨⟨rfl, hty⟩, hc⟩ := hc
    refine ⟨hc, ?_⟩
    simp only [evRes] at hv
    split at hv
    case h_2 => cases hv
    rename_i id off hp
    split at hv
    case h_2 => cases hv
    rename_i cs hb
    split at hv
    case isFalse => cases hv
    rename_i hle
    have h1 := ht.rel t
    rw [hp] at h1
    simp only [Enc] at h1
    have h0 := hr.rel id _ hb
    simp only [BRel] at h0
    obtain ⟨hs, _, xs, te, hh, he⟩ := h0
    have hlen := encL_length he
    refine ⟨mkR ag (((xs.toList.take cs.length).drop off).take sz), ?_, mk_enc hv (encL_take (encL_drop he off) sz) (fun c hc => hs c (List.mem_of_mem_drop (List.mem_of_mem_take hc)))⟩
    have := run_loadVar_mk (P := P) (w := w) (b := M.j id) (off := off) (xs := ((xs.toList.take cs.length).drop off).take sz) hty (by rw [List.length_take, List.length_drop, hlen]; omega) (fun j u hu => by
      rw [List.getElem?_take] at hu
      split at hu
      ·rw [List.getElem?_drop] at hu
       rw [cell_of_row w (M.j id) (off + j) xs te (0, 0) hh]
       exact pfx_get hu
      ·cases hu)
    simp only [resM, h1.2, asAddr, Sem.run_bind, Sem.run_pure, Result.andThen_ok, this]
  obtain ⟨hc', x, hx, he⟩ := hone
  obtain ⟨xs, hxs, hes⟩ := res_ok ht hr hc' hvs
  refine ⟨x :: xs, ?_, by simp only [EncL]; exact ⟨x, xs, rfl, he, hes⟩⟩
  rw [List.mapM_cons, Sem.run_bind, hx, Result.andThen_ok, Sem.run_bind, hxs, Result.andThen_ok, Sem.run_pure]
theorem results_ok {e : Env} {a : Act} {n : Nat} {F : Func} {ss : List ResV} {vs : List V} (ht : RelT M w e a n) (hr : HRel M w H) (hc : chkRes P F.results.toList ss = true) (h : evRess e H ss = some vs) :
  ∃ x, (results F a.tmps).run P w = .ok x w ∧ Enc M w (resOf vs) x := by
 obtain ⟨xs, hxs, he⟩ := res_ok ht hr hc h
 have hA : (F.results.mapM (resM a.tmps)).run P w = .ok xs.toArray w := by
  rw [Array.mapM_eq_mapM_toList, Sem.run_map, hxs]
  rfl
 have hres : (results F a.tmps).run P w = .ok (if h : xs.toArray.size = 1 then xs.toArray[0] else .tuple xs.toArray) w := by
  have : results F a.tmps = (do let vs ← F.results.mapM (resM a.tmps); pure (if h : vs.size = 1 then vs[0] else .tuple vs)) := by
   unfold results
   congr 1
  rw [this, Sem.run_bind, hA, Result.andThen_ok, Sem.run_pure]
 refine ⟨_, hres, ?_⟩
 have hl := encL_length he
 match vs, he with
 | [], he =>
  simp only [EncL] at he
  subst he
  simp only [resOf, Enc]
  exact ⟨[], by simp, by simp only [EncL]⟩
 | [v], he =>
  simp only [EncL] at he
  obtain ⟨x, xs', rfl, h1, rfl⟩ := he
  simpa [resOf] using h1
 | v :: u :: vs, he =>
  have : ¬ xs.toArray.size = 1 := by simp at hl ⊢; omega
  rw [dif_neg this]
  simp only [resOf, Enc]
  exact ⟨xs, rfl, he⟩
mutual
/-- Only cells matter. -/
theorem Enc.cellsAs (hc : ∀ b o, w'.cell? ⟨b, o, none⟩ = w.cell? ⟨b, o, none⟩) : ∀ {c : V} {x : Value}, Enc M w c x → Enc M w' c x
 | .undef, _, _ => by simp only [Enc]
 | .skp, _, e => by simpa only [Enc] using e
 | .any, _, e => by simpa only [Enc] using e
 | .int _ _, _, e => by simpa only [Enc] using e
 | .bool _, _, e => by simpa only [Enc] using e
 | .str _, _, e => by simpa only [Enc] using e
 | .nilp, _, e => by simpa only [Enc] using e
 | .nilf, _, e => by simpa only [Enc] using e
 | .nilm, _, e => by simpa only [Enc] using e
 | .mp id, _, e => by simpa only [Enc] using e
 | .yld id, _, e => by simpa only [Enc] using e
 | .gs id k, _, e => by simpa only [Enc] using e
 | .ptr id off, _, e => by simpa only [Enc] using e
 | .rs id off k _, _, e => by simpa only [Enc] using e
 | .cptr cs, _, e => by
  simp only [Enc] at e ⊢
  obtain ⟨p, b, o, hv, e⟩ := e
  exact ⟨p, b, o, hv, EncRow.cellsAs hc e⟩
 | .vs es tk, _, e => by
  simp only [Enc] at e ⊢
  obtain ⟨p, a, cap, hv, hl, hs, ht⟩ := e
  refine ⟨p, a, cap, hv, hl, ?_, ht⟩
  cases a with
  | none => exact hs
  | some ad => exact ⟨hs.1, hs.2.1, EncRows.cellsAs hc hs.2.2⟩
 | .fn f cap, _, e => by
  simp only [Enc] at e ⊢
  obtain ⟨xs, hv, e⟩ := e
  exact ⟨xs, hv, EncL.cellsAs hc e⟩
 | .agg cs, _, e => by
  simp only [Enc] at e ⊢
  obtain ⟨p, xs, hv, e⟩ := e
  exact ⟨p, xs, hv, EncL.cellsAs hc e⟩
 | .tup cs, _, e => by
  simp only [Enc] at e ⊢
  obtain ⟨xs, hv, e⟩ := e
  exact ⟨xs, hv, EncL.cellsAs hc e⟩
theorem EncL.cellsAs (hc : ∀ b o, w'.cell? ⟨b, o, none⟩ = w.cell? ⟨b, o, none⟩) : ∀ {cs : List V} {xs : List Value}, EncL M w cs xs → EncL M w' cs xs
 | [], _, e => by simpa only [EncL] using e
 | c :: cs, _, e => by
  simp only [EncL] at e ⊢
  obtain ⟨x, xs', hv, e1, e2⟩ := e
  exact ⟨x, xs', hv, Enc.cellsAs hc e1, EncL.cellsAs hc e2⟩
theorem EncRow.cellsAs (hc : ∀ b o, w'.cell? ⟨b, o, none⟩ = w.cell? ⟨b, o, none⟩) {b : Nat} : ∀ {cs : List V} {o : Nat}, EncRow M w b cs o → EncRow M w' b cs o
 | [], _, _ => by simp only [EncRow]
 | c :: cs, o, e => by
  simp only [EncRow] at e ⊢
  obtain ⟨⟨x, hx, rd, e1⟩, e2⟩ := e
  exact ⟨⟨x, by rw [hc]; exact hx, rd, Enc.cellsAs hc e1⟩, EncRow.cellsAs hc e2⟩
theorem EncRows.cellsAs (hc : ∀ b o, w'.cell? ⟨b, o, none⟩ = w.cell? ⟨b, o, none⟩) {b : Nat} : ∀ {es : List (List V)} {o : Nat}, EncRows M w b es o → EncRows M w' b es o
 | [], _, _ => by simp only [EncRows]
 | e :: es, o, k => by
  simp only [EncRows] at k ⊢
  exact ⟨EncRow.cellsAs hc k.1, EncRows.cellsAs hc k.2⟩
end
theorem shut_mark {s0 : World} {H0 : Heap} {M0 : Mm} (h : Stp M0 H0 s0 M H w) (hr : HRel M w H) {D : Nat} (hD : w.heap[D]? = some (.deferred (some []))) (hs : s0.heap.size ≤ D) :
  Stp M0 H0 s0 M H (w.putObj D (.deferred none)) ∧ HRel M (w.putObj D (.deferred none)) H ∧ ∀ b o, (w.putObj D (.deferred none)).cell? ⟨b, o, none⟩ = w.cell? ⟨b, o, none⟩ := by
 have hno := not_owned_deferred hr hD
 have hoth : ∀ b, b ≠ D → (w.putObj D (.deferred none)).heap[b]? = w.heap[b]? := fun b hb => World.putObj_heap_other hb
 have hlt := (Array.getElem?_eq_some_iff.1 hD).1
 have hcell : ∀ b o, (w.putObj D (.deferred none)).cell? ⟨b, o, none⟩ = w.cell? ⟨b, o, none⟩ := fun b o => by
  by_cases hb : b = D
  ·subst hb
   have h1 : (w.putObj b (.deferred none)).heap[b]? = some (.deferred none) := World.putObj_heap_same hlt
   simp only [World.cell?, h1, hD]
  ·exact World.cell?_of_block (w := w) (hoth b hb)
 refine ⟨{ h with
  size := by rw [World.putObj_size]; exact h.size
  same := fun b hb ho => (hoth b (by omega)).trans (h.same b hb ho)
  cells := fun b l o hb hl ho => (hcell b o).trans (h.cells b l o hb hl ho) }, ⟨hr.dom, fun id blk hb => ?_, hr.inj, fun g cs hg => Enc.cellsAs hcell (hr.glo g cs hg)⟩, hcell⟩
 have h0 := hr.rel id blk hb
 have hne : ∀ b, blOf M H id = some b → (w.putObj D (.deferred none)).heap[b]? = w.heap[b]? := fun b hbl => hoth b fun e => hno (e ▸ ⟨id, hbl⟩)
 cases blk with
 | cells cs =>
  simp only [BRel] at h0 ⊢
  obtain ⟨a, b, xs, e, c, d⟩ := h0
  exact ⟨a, b, xs, e, (hne _ (by simp [blOf, hb])).trans c, EncL.cellsAs hcell d⟩
 | zone k =>
  simp only [BRel] at h0 ⊢
  refine ⟨h0.1, ?_⟩
  have h1 := h0.2
  cases hz : (M.z id).blk with
  | none => rw [hz] at h1; exact h1
  | some b =>
   rw [hz] at h1
   simp only at h1 ⊢
   rw [hne b (by simp [blOf, hb, hz])]; exact h1
 | froz cs =>
  simp only [BRel] at h0 ⊢
  obtain ⟨a, b, xs, e, c, d⟩ := h0
  exact ⟨a, b, xs, e, (hne _ (by simp [blOf, hb])).trans c, EncL.cellsAs hcell d⟩
 | map es =>
  simp only [BRel] at h0 ⊢
  obtain ⟨b, ents, c, d, d', f⟩ := h0
  exact ⟨b, ents, (hne _ (by simp [blOf, hb])).trans c, EncL.cellsAs hcell d, EncL.cellsAs hcell d', f⟩
 | siter t pos =>
  simp only [BRel] at h0 ⊢
  exact ⟨h0.1, (hne _ (by simp [blOf, hb])).trans h0.2⟩
 | grow cs sz fu =>
  simp only [BRel] at h0 ⊢
  obtain ⟨a, b, z1, z2, xs, e, c, s, d, fl⟩ := h0
  exact ⟨a, b, z1, z2, xs, e, (hne _ (by simp [blOf, hb])).trans c, s, EncL.cellsAs hcell d, fl⟩
 | loop e0 ps as bo st =>
  simp only [BRel] at h0 ⊢
  obtain ⟨a, r, c, h1, h2, h3, h4, h5⟩ := h0
  exact ⟨a, r, (hne _ (by simp [blOf, hb])).trans c, h1, h2, h3, h4, fun p hp => Enc.cellsAs hcell (h5 p hp)⟩
theorem leaves_marks {F : Func} {tmps : Array Value} {s0 : World} {H0 : Heap} {M0 : Mm} {R : Ending → World → Prop}
  (hR : ∀ w, Stp M0 H0 s0 M H w → HRel M w H → (∀ i, Enc M w (e i) (tmps.getD i undef)) → ∃ v, (results F tmps).run P w = .ok v w ∧ R (.returned v) w) : ∀ (ds : List Deferred) {w : World}, Stp M0 H0 s0 M H w → HRel M w H → (∀ i, Enc M w (e i) (tmps.getD i undef)) →
  ds.Nodup → (∀ d ∈ ds, ∃ D, d = { target := .collected D, args := #[] } ∧ w.heap[D]? = some (.deferred (some [])) ∧ s0.heap.size ≤ D) → LeavesInM (FR none) 0 P F tmps R ds .returning w
 | [], w, hs, hr, ht, _, _ => by
  show ∃ v, _
  exact hR w hs hr ht
 | d :: ds, w, hs, hr, ht, hn, hd => by
  obtain ⟨D, rfl, hD, hle⟩ := hd d (by simp)
  obtain ⟨s1, r1, hcell⟩ := shut_mark hs hr hD hle
  refine ⟨by simp, .inl ⟨D, _, rfl, run_takeDeferred hD, ?_⟩⟩
  refine leaves_marks hR ds s1 r1 (fun i => Enc.cellsAs hcell (ht i)) (List.nodup_cons.1 hn).2 fun d' hd' => ?_
  obtain ⟨D', rfl, hD', hle'⟩ := hd d' (by simp [hd'])
  have hne : D' ≠ D := fun e => (List.nodup_cons.1 hn).1 (e ▸ hd')
  exact ⟨D', rfl, (World.putObj_heap_other hne).trans hD', hle'⟩
theorem sound {G : Nat → Option SFn} (hck : fm.chk = fun n s c => chkC P fm true n s c = true)
  (hG : ∀ f fn, G f = some fn → chkFn P fm (fm f) fn = true ∨ ∃ k, fn.body = .nat k ∧ ∀ args H r H', natR k args H r H' → FOK P fm f args H r H') {j : J} (h : Big G j) : Mot P fm j := by
 induction h with
 | nat hg hk hn =>
  rename_i f fn k args H r H'
  rcases hG f fn hg with hc | ⟨k', hk', h⟩
  ·exfalso
   unfold chkFn at hc
   rw [hk] at hc
   split at hc
   ·split at hc
    ·simp [chkC] at hc
    ·cases hc
   ·cases hc
  ·rw [hk] at hk'; cases hk'
   exact h _ _ _ _ hn
 | fn hg hlen hb hx hres ih =>
  rename_i f fn args H x e' H' vs
  simp only [Mot] at ih ⊢
  refine ⟨ih.1, fun M w vargs hm hr hargs => ?_⟩
  have hc : chkFn P fm (fm f) fn = true := by
   rcases hG f fn hg with h | ⟨k, hk, _⟩
   ·exact h
   ·rw [hk] at hb; cases hb
  unfold chkFn at hc
  split at hc
  case h_2 => cases hc
  rename_i F hF
  split at hc
  case h_2 => cases hc
  rename_i c hbody
  simp only [Bool.and_eq_true, beq_iff_eq, bne_iff_ne] at hc
  obtain ⟨⟨⟨hnt, hname⟩, hcres⟩, hcc⟩ := hc
  refine ⟨⟨F, hF, by rw [hbody]; rfl, hname⟩, ?_⟩
  have hal := encL_length hargs
  refine (callsIn_wide (n := 0)).1 ?_
  refine callsIn_of_wp_marks hF hbody trivial ?_
  refine wp_bodyOf (ro := none) ?_
  refine ih.2 none fn.nt (bodyOf c) M w _ _ hcc ⟨?_, ⟨by simp, fun d hd => by cases hd⟩, fun i => ?_, hr.glo⟩ hr hm ?_
  ·simp only [Array.size_append, List.size_toArray, Array.size_replicate, hnt, hal]
   omega
  ·simp only [envOf]
   cases hi : args[i]? with
   | none =>
    simp only [List.getD, hi, Option.getD_none, Enc]
   | some v =>
    obtain ⟨x, hx, he⟩ := encL_get hargs hi
    have hil : i < vargs.length := (List.getElem?_eq_some_iff.1 hx).1
    rw [Array.getD_eq_getD_getElem?, Array.getElem?_append, if_pos (by simpa using hil)]
    simp only [List.getD, hi, Option.getD_some, List.getElem?_toArray, hx]
    exact he
  ·intro a' w' M' t1 r1 s1 i1 m1
   have : bodyPostM Fence.wide 0 P F (fun en w' => ∃ rv M', en = .returned rv ∧ Enc M' w' (resOf vs) rv ∧ Stp M H w M' H' w' ∧ Ids M M' H.length ∧ HRel M' w' H') .ret a' w' := by
    refine leaves_marks (e := e') (fun w2 s2 r2 t2 => ?_) a'.defers s1 r1 t1.rel t1.defers.1 fun d hd => ?_
    ·obtain ⟨y, hy, hey⟩ := results_ok (a := { tmps := a'.tmps, defers := [] }) ⟨t1.size, ⟨by simp, fun d hd => by cases hd⟩, t2, r2.glo⟩ r2 hcres hres
     exact ⟨y, hy, y, M', rfl, hey, s2, i1, r2⟩
    ·obtain ⟨D, rfl, hD⟩ := t1.defers.2 d hd
     refine ⟨D, rfl, hD, ?_⟩
     rcases m1 _ hd with h | ⟨D', h1, h2⟩
     ·cases h
     ·cases h1; exact h2
   rcases hx with rfl | rfl <;> exact this
 | ev hw hv => exact SS.ev hw hv
 | skip hw => exact SS.skip hw
 | pcall hw hop _ ih => exact SS.pcall hw hop ih
 | scall hw hop _ ih => exact SS.scall hw hop ih
 | scallA hw hop _ hlv ih => exact SS.scallA hw hop ih hlv
 | scallE hw hop _ hel ih => exact SS.scallE hw hop ih hel
 | kcall hw hop _ hro ih => exact SS.kcall hw hop ih hro
 | vcall hw hop hfx _ hro ih => exact SS.vcall hw hop hfx ih hro
 | ycall hw hop hfx hb hl _ hb1 _ hb2 ih1 ih2 =>
  simp only [Mot] at ih1 ih2
  exact SS.ycall hw hop hfx hb hl ⟨ih1.1, fun l n c M w a Q hc ht hr hm hq => ih1.2 (some l) n c M w a Q (by rw [hck] at hc; exact hc) ht hr hm hq⟩ hb1
   ⟨ih2.1, fun l n c M w a Q hc ht hr hm hq => ih2.2 (some l) n c M w a Q (by rw [hck] at hc; exact hc) ht hr hm hq⟩ hb2
 | nil => exact OO.nil
 | cons _ _ ih1 ih2 => exact OO.cons ih1 ih2
 | cskip =>
  refine ⟨Nat.le_refl _, fun ro n c M w a Q hc ht hr hm hq => ?_⟩
  cases c <;> simp only [chkC, Bool.false_eq_true] at hc
  ·exact wpIn_skip (hq a w M ht hr (Stp.refl _ _ _) (Ids.refl _ _) (Mk.refl _ _))
  ·exact wpIn_label (hq a w M ht hr (Stp.refl _ _ _) (Ids.refl _ _) (Mk.refl _ _))
 | region _ ih =>
  rename_i m ops e H e' H' _
  simp only [Mot] at ih ⊢
  have hlen := ih.len
  refine ⟨Nat.le_trans (by simp) hlen, fun ro n c M w a Q hc ht hr hm hq => ?_⟩
  cases c <;> simp only [chkC, Bool.false_eq_true, Bool.and_eq_true, Bool.or_eq_true, Bool.not_eq_true'] at hc
  rename_i id rops draw
  obtain ⟨hc, hd⟩ := hc
  have post : ∀ a' w' M', RelT M' w' e' a' n → HRel M' w' H' → Stp M (H ++ List.replicate m none) w M' H' w' → Ids M M' (H ++ List.replicate m none).length → a'.defers = a.defers → Q .normal a' w' :=
   fun a' w' M' t1 r1 s1 i1 d1 => hq a' w' M' t1 r1 ((stp_pad M H w m).trans s1) (i1.mono (by simp)) (Mk.of_eq d1)
  cases draw with
  | false =>
   refine wpIn_region_list ?_
   exact OO.text ih hc ht (hrel_pad hr m) hm post
  | true =>
   rcases hd with hd | hd
   ·cases hd
   ·exact region_drawn ih hc hd ht (hrel_pad hr m) hm post
 | seqN hb1 _ ih1 ih2 =>
  rename_i s1 s2 e H e1 H1 x e2 H2 _
  simp only [Mot] at ih1 ih2 ⊢
  refine ⟨Nat.le_trans ih1.1 ih2.1, fun ro n c M w a Q hc ht hr hm hq => ?_⟩
  rcases chk_ghost hc with ⟨hgh, hc⟩ | ⟨c1, c2, rfl, hc1, hc2⟩
  ·rcases hgh with ⟨l, rfl⟩ | ⟨t, o, rfl⟩ | ⟨t, rfl⟩
   ·cases hb1
    exact ih2.2 ro n c M w a Q hc (relT_keep l ht) hr hm hq
   ·cases hb1 with
    | give hg =>
     obtain ⟨M1, t1, r1, s1, i1, hl⟩ := give_sound hg ht hr (fun _ _ _ => trivial)
     refine ih2.2 ro n c M1 w a Q hc t1 r1 (s1.fm.trans hm) fun a' w' M' t2 r2 s2 i2 m2 => ?_
     exact hq a' w' M' t2 r2 (s1.trans s2) (i1.trans i2 hl) m2
   ·cases hb1 with
    | freeze hg =>
     obtain ⟨M1, t1, r1, s1, i1, hl⟩ := freeze_sound hg ht hr
     refine ih2.2 ro n c M1 w a Q hc t1 r1 (s1.fm.trans hm) fun a' w' M' t2 r2 s2 i2 m2 => ?_
     exact hq a' w' M' t2 r2 (s1.trans s2) (i1.trans i2 hl) m2
  ·refine wpIn_seq (ih1.2 ro n c1 M w a _ hc1 ht hr hm fun a' w' M' t1 r1 s1 i1 m1 => ?_)
   refine wp_bodyOf (ih2.2 ro n (bodyOf c2) M' w' a' (Exit.noGoto Q) hc2 t1 r1 (s1.fm.trans hm) fun a'' w'' M'' t2 r2 s2 i2 m2 => ?_)
   have := hq _ _ _ t2 r2 (s1.trans s2) (i1.trans i2 ih1.1) (m1.trans m2 s1.size)
   cases x <;> exact this
 | seqX hb1 hx ih1 =>
  rename_i s1 s2 e H x e1 H1
  simp only [Mot] at ih1 ⊢
  refine ⟨ih1.1, fun ro n c M w a Q hc ht hr hm hq => ?_⟩
  rcases chk_ghost hc with ⟨hgh, hc⟩ | ⟨c1, c2, rfl, hc1, hc2⟩
  ·exfalso
   rcases hgh with ⟨l, rfl⟩ | ⟨t, o, rfl⟩ | ⟨t, rfl⟩
   ·cases hb1; exact hx rfl
   ·cases hb1; exact hx rfl
   ·cases hb1; exact hx rfl
  ·refine wpIn_seq (ih1.2 ro n c1 M w a _ hc1 ht hr hm fun a' w' M' t1 r1 s1 i1 m1 => ?_)
   have := hq a' w' M' t1 r1 s1 i1 m1
   cases x <;> first | exact absurd rfl hx | exact this
 | cond hcv _ ih =>
  rename_i x s1 s2 e H t ex e1 H1 _
  simp only [Mot] at ih ⊢
  refine ⟨ih.1, fun ro n c M w a Q hc ht hr hm hq => ?_⟩
  cases c <;> simp only [chkC, Bool.false_eq_true, Bool.and_eq_true] at hc
  rename_i co c1 c2
  obtain ⟨⟨hx, h1⟩, h2⟩ := hc
  have hv := chkX_enc (M := M) (w := w) (by rw [hm]; exact hx) ht
  rw [hcv] at hv
  simp only [Enc] at hv
  refine wpIn_cond hv ?_
  refine ih.2 ro n _ M w a Q ?_ ht hr hm hq
  cases t
  ·exact h2
  ·exact h1
 | block _ ih =>
  rename_i id s e H x e1 H1 _
  simp only [Mot] at ih ⊢
  refine ⟨ih.1, fun ro n c M w a Q hc ht hr hm hq => ?_⟩
  cases c <;> simp only [chkC, Bool.false_eq_true, Bool.and_eq_true, beq_iff_eq] at hc
  rename_i id' c
  obtain ⟨rfl, hc⟩ := hc
  refine wpIn_block (ih.2 ro n c M w a _ hc ht hr hm fun a' w' M' t1 r1 s1 i1 m1 => ?_)
  have := hq a' w' M' t1 r1 s1 i1 m1
  cases x with
  | nx => simpa [exOf, Exit.inBlock] using this
  | ret => simpa [exOf, Exit.inBlock] using this
  | exit k =>
   simp only [exOf, Exit.inBlock]
   by_cases hk : k = id
   ·subst hk; simpa [exOf] using this
   ·rw [if_neg hk]
    rw [if_neg (by simpa using hk)] at this
    exact this
 | loop _ ih =>
  rename_i l s e H x e1 H1 _
  simp only [Mot] at ih ⊢
  obtain ⟨hl, ih⟩ := ih (Nat.le_refl _)
  refine ⟨hl, fun ro n c M w a Q hc ht hr hm hq => ?_⟩
  cases c <;> simp only [chkC, Bool.false_eq_true] at hc
  rename_i c
  intro b k cs hro hb hro2
  obtain ⟨ex, a', w', hQ, harr⟩ := ih ro n c M w a Q hc ht hr hm hq b k cs hro
  exact ⟨ex, a', w', hQ, .of_steps (.one (fenced_calm hb hro2 rfl) stepR_loop) harr⟩
 | round _ _ ih1 ih2 =>
  rename_i m l s e H e1 H1 x e2 H2 _ _
  simp only [Mot] at ih1 ih2 ⊢
  intro hm0
  have htl : (trunc m H).length = m := by simp [trunc]; omega
  have h1 := ih1.1
  rw [htl] at h1
  obtain ⟨hl2, ih2⟩ := ih2 h1
  refine ⟨hl2, fun ro n c M w a Q hc ht hr hm hq => ?_⟩
  intro b k cs hro
  obtain ⟨s0, i0, r0⟩ := stp_upto hr m
  obtain ⟨ex, a1, w1, hQ, harr⟩ := ih1.2 ro n c (M.upto m) w a (Exit.then (fun a' w' => LoopWp ro P c Q a' w') Q) hc (relT_upto (relT_keep l ht)) r0 hm (fun a' w' M' t1 r1 s1 i1 m1 => by
   refine ih2 ro n c M' w' a' Q hc t1 r1 (s1.fm.trans hm) fun a'' w'' M'' t2 r2 s2 i2 m2 => ?_
   refine hq _ _ _ t2 r2 ((s0.trans s1).trans s2) ?_ (m1.trans m2 s1.size)
   rw [htl] at i1
   exact (i0.trans i1 (Nat.le_refl _)).trans i2 (Nat.le_refl _)) b (.inLoop c :: k) cs hro trivial (roomFR _)
  cases ex with
  | normal =>
   obtain ⟨e2, a2, w2, hq2, harr2⟩ := hQ b k cs hro
   exact ⟨e2, a2, w2, hq2, .of_steps (StepsIn.trans harr (.one (fenced_calm trivial (roomFR (cs.length + 1 + 0)) rfl) stepR_inLoop)) harr2⟩
  | exit id => exact ⟨_, a1, w1, hQ, .pass (x := .inLoop c) rfl (fun _ _ => .inl (by simp)) harr⟩
  | goto l => exact ⟨_, a1, w1, hQ, .pass (x := .inLoop c) rfl (fun _ _ => .inl (by simp)) harr⟩
  | ret => exact ⟨_, a1, w1, hQ, .pass (x := .inLoop c) rfl (fun _ _ => .inl (by simp)) harr⟩
  | panic ch => exact ⟨_, a1, w1, hQ, .pass (x := .inLoop c) rfl (fun _ _ => .inl (by simp)) harr⟩
  | outgrown => exact ⟨_, a1, w1, hQ, .pass (x := .inLoop c) rfl (fun _ _ => .inl (by simp)) harr⟩
 | last _ hx ih1 =>
  rename_i m l s e H x e1 H1 _
  simp only [Mot] at ih1 ⊢
  intro hm0
  have htl : (trunc m H).length = m := by simp [trunc]; omega
  have h1 := ih1.1
  rw [htl] at h1
  refine ⟨h1, fun ro n c M w a Q hc ht hr hm hq => ?_⟩
  intro b k cs hro
  obtain ⟨s0, i0, r0⟩ := stp_upto hr m
  obtain ⟨ex, a1, w1, hQ, harr⟩ := ih1.2 ro n c (M.upto m) w a (Exit.then (fun a' w' => LoopWp ro P c Q a' w') Q) hc (relT_upto (relT_keep l ht)) r0 hm (fun a' w' M' t1 r1 s1 i1 m1 => by
   rw [htl] at i1
   have := hq a' w' M' t1 r1 (s0.trans s1) (i0.trans i1 (Nat.le_refl _)) m1
   cases x <;> first | exact absurd rfl hx | exact this) b (.inLoop c :: k) cs hro trivial (roomFR _)
  cases ex with
  | normal =>
   obtain ⟨e2, a2, w2, hq2, harr2⟩ := hQ b k cs hro
   exact ⟨e2, a2, w2, hq2, .of_steps (StepsIn.trans harr (.one (fenced_calm trivial (roomFR (cs.length + 1 + 0)) rfl) stepR_inLoop)) harr2⟩
  | exit id => exact ⟨_, a1, w1, hQ, .pass (x := .inLoop c) rfl (fun _ _ => .inl (by simp)) harr⟩
  | goto l => exact ⟨_, a1, w1, hQ, .pass (x := .inLoop c) rfl (fun _ _ => .inl (by simp)) harr⟩
  | ret => exact ⟨_, a1, w1, hQ, .pass (x := .inLoop c) rfl (fun _ _ => .inl (by simp)) harr⟩
  | panic ch => exact ⟨_, a1, w1, hQ, .pass (x := .inLoop c) rfl (fun _ _ => .inl (by simp)) harr⟩
  | outgrown => exact ⟨_, a1, w1, hQ, .pass (x := .inLoop c) rfl (fun _ _ => .inl (by simp)) harr⟩
 | roundK hmk hkl _ _ ih1 ih2 =>
  rename_i m kk l s e H e1 H1 x e2 H2 _ _
  simp only [Mot] at ih1 ih2 ⊢
  intro hm0
  have htl : (trunc kk H).length = kk := by simp [trunc]; omega
  have h1 := ih1.1
  rw [htl] at h1
  obtain ⟨hl2, ih2⟩ := ih2 (Nat.le_trans hmk h1)
  refine ⟨hl2, fun ro n c M w a Q hc ht hr hm hq => ?_⟩
  intro b k cs hro
  obtain ⟨s0, i0, r0⟩ := stp_upto hr kk
  obtain ⟨ex, a1, w1, hQ, harr⟩ := ih1.2 ro n c (M.upto kk) w a (Exit.then (fun a' w' => LoopWp ro P c Q a' w') Q) hc (relT_upto (relT_keep l ht)) r0 hm (fun a' w' M' t1 r1 s1 i1 m1 => by
   refine ih2 ro n c M' w' a' Q hc t1 r1 (s1.fm.trans hm) fun a'' w'' M'' t2 r2 s2 i2 m2 => ?_
   refine hq _ _ _ t2 r2 ((s0.trans s1).trans s2) ?_ (m1.trans m2 s1.size)
   rw [htl] at i1
   exact ((i0.trans i1 (Nat.le_refl _)).mono hmk).trans i2 (Nat.le_refl _)) b (.inLoop c :: k) cs hro trivial (roomFR _)
  cases ex with
  | normal =>
   obtain ⟨e2, a2, w2, hq2, harr2⟩ := hQ b k cs hro
   exact ⟨e2, a2, w2, hq2, .of_steps (StepsIn.trans harr (.one (fenced_calm trivial (roomFR (cs.length + 1 + 0)) rfl) stepR_inLoop)) harr2⟩
  | exit id => exact ⟨_, a1, w1, hQ, .pass (x := .inLoop c) rfl (fun _ _ => .inl (by simp)) harr⟩
  | goto l => exact ⟨_, a1, w1, hQ, .pass (x := .inLoop c) rfl (fun _ _ => .inl (by simp)) harr⟩
  | ret => exact ⟨_, a1, w1, hQ, .pass (x := .inLoop c) rfl (fun _ _ => .inl (by simp)) harr⟩
  | panic ch => exact ⟨_, a1, w1, hQ, .pass (x := .inLoop c) rfl (fun _ _ => .inl (by simp)) harr⟩
  | outgrown => exact ⟨_, a1, w1, hQ, .pass (x := .inLoop c) rfl (fun _ _ => .inl (by simp)) harr⟩
 | lastK hmk hkl _ hx ih1 =>
  rename_i m kk l s e H x e1 H1 _
  simp only [Mot] at ih1 ⊢
  intro hm0
  have htl : (trunc kk H).length = kk := by simp [trunc]; omega
  have h1 := ih1.1
  rw [htl] at h1
  refine ⟨Nat.le_trans hmk h1, fun ro n c M w a Q hc ht hr hm hq => ?_⟩
  intro b k cs hro
  obtain ⟨s0, i0, r0⟩ := stp_upto hr kk
  obtain ⟨ex, a1, w1, hQ, harr⟩ := ih1.2 ro n c (M.upto kk) w a (Exit.then (fun a' w' => LoopWp ro P c Q a' w') Q) hc (relT_upto (relT_keep l ht)) r0 hm (fun a' w' M' t1 r1 s1 i1 m1 => by
   rw [htl] at i1
   have := hq a' w' M' t1 r1 (s0.trans s1) ((i0.trans i1 (Nat.le_refl _)).mono hmk) m1
   cases x <;> first | exact absurd rfl hx | exact this) b (.inLoop c :: k) cs hro trivial (roomFR _)
  cases ex with
  | normal =>
   obtain ⟨e2, a2, w2, hq2, harr2⟩ := hQ b k cs hro
   exact ⟨e2, a2, w2, hq2, .of_steps (StepsIn.trans harr (.one (fenced_calm trivial (roomFR (cs.length + 1 + 0)) rfl) stepR_inLoop)) harr2⟩
  | exit id => exact ⟨_, a1, w1, hQ, .pass (x := .inLoop c) rfl (fun _ _ => .inl (by simp)) harr⟩
  | goto l => exact ⟨_, a1, w1, hQ, .pass (x := .inLoop c) rfl (fun _ _ => .inl (by simp)) harr⟩
  | ret => exact ⟨_, a1, w1, hQ, .pass (x := .inLoop c) rfl (fun _ _ => .inl (by simp)) harr⟩
  | panic ch => exact ⟨_, a1, w1, hQ, .pass (x := .inLoop c) rfl (fun _ _ => .inl (by simp)) harr⟩
  | outgrown => exact ⟨_, a1, w1, hQ, .pass (x := .inLoop c) rfl (fun _ _ => .inl (by simp)) harr⟩
 | exit =>
  refine ⟨Nat.le_refl _, fun ro n c M w a Q hc ht hr hm hq => ?_⟩
  cases c <;> simp only [chkC, Bool.false_eq_true, beq_iff_eq] at hc
  subst hc
  exact wpIn_exit (hq a w M ht hr (Stp.refl _ _ _) (Ids.refl _ _) (Mk.refl _ _))
 | ret =>
  refine ⟨Nat.le_refl _, fun ro n c M w a Q hc ht hr hm hq => ?_⟩
  cases c <;> simp only [chkC, Bool.false_eq_true] at hc
  exact wpIn_ret (hq a w M ht hr (Stp.refl _ _ _) (Ids.refl _ _) (Mk.refl _ _))
 | keep =>
  refine ⟨Nat.le_refl _, fun ro n c M w a Q hc ht hr hm hq => ?_⟩
  cases c <;> simp only [chkC, Bool.false_eq_true] at hc
 | give hg =>
  refine ⟨give_len hg, fun ro n c M w a Q hc ht hr hm hq => ?_⟩
  cases c <;> simp only [chkC, Bool.false_eq_true] at hc
 | freeze hg =>
  refine ⟨freeze_len hg, fun ro n c M w a Q hc ht hr hm hq => ?_⟩
  cases c <;> simp only [chkC, Bool.false_eq_true] at hc
 | rangeF hg hf hb1 hst ih =>
  rename_i g l ps as bo e H f cap r H1 e0 ps' as' bo' st x
  simp only [Mot] at ih ⊢
  have hl1 := ih.1
  simp only [List.length_append, List.length_cons, List.length_nil] at hl1
  refine ⟨by simp [trunc]; omega, fun ro n c M w a Q hc ht hr hm hq => ?_⟩
  cases c <;> simp only [chkC, Bool.false_eq_true, Bool.and_eq_true, Bool.not_eq_true', beq_iff_eq, List.all_eq_true, decide_eq_true_eq] at hc
  rename_i g' qs as2 bo2
  obtain ⟨⟨⟨⟨⟨hro, hgx⟩, hps⟩, hpn⟩, hca⟩, hcb⟩ := hc
  have hro : ro = none := by cases ro <;> simp at hro ⊢
  subst hro
  have hgv := chkX_enc (M := M) (w := w) (by rw [hm]; exact hgx) ht
  rw [hg] at hgv
  simp only [Enc] at hgv
  obtain ⟨caps, hfv, hcaps⟩ := hgv
  refine wpIn_rangeFunc (F := FR none) fun fn _ => ?_
  -- memory where the loop begins
  obtain ⟨wA, hwA⟩ : ∃ wA, wA = w.alloc (.deferred (some [])) := ⟨_, rfl⟩
  have hsA : wA.heap.size = w.heap.size + 1 := by rw [hwA]; simp
  obtain ⟨sA, iA, rA⟩ := stp_same (M' := M) hr (by rw [hwA]; exact Grew.alloc w _ : Grew w wA) (Same.refl M _)
  have rP := hrel_pad rA 1
  have hrep : List.replicate 1 (none : Option Blk) = [none] := rfl
  rw [hrep] at rP
  have sP := stp_pad M H wA 1
  rw [hrep] at sP
  have hfree : isFree (H ++ [none]) H.length = true := by rw [isFree_iff]; simp
  obtain ⟨rec, hrec⟩ : ∃ rec : Loop, rec = { state := .ready, pending := none, fn, tmps := a.tmps, params := qs, assign := as2, body := bo2, defers := w.heap.size } := ⟨_, rfl⟩
  obtain ⟨s1, i1, r1⟩ := stp_alcG (ob := .loop rec) (blk0 := .loop (look e l) ps as bo .ready) rP hfree rfl fun hst hid => by
   simp only [BRel]
   have hfm : (M.alc H.length wA.heap.size).fm = fm := hm
   refine ⟨by simp [Mm.alc], rec, ?_, by rw [hrec]; exact ⟨rfl, rfl⟩, by rw [hrec]; exact ⟨hps.symm, fun p hp => by rw [ht.size]; exact hpn p hp⟩, ?_, ?_, ?_⟩
   ·simp only [Mm.alc, if_true]; exact heap_alloc_new wA _
   ·rw [hfm, hck, hrec]; simp only [ht.size]; exact hca
   ·rw [hfm, hck, hrec]; simp only [ht.size]; exact hcb
   ·intro p hp
    have : ∀ l : List Nat, ∀ p ∈ look e l, p.2 = e p.1 := fun l => by
     induction l with
     | nil => intro p hp; cases hp
     | cons i l ihl =>
      intro p hp
      simp only [look, List.mem_cons] at hp
      rcases hp with rfl | hp
      ·rfl
      ·exact ihl p hp
    have htm : rec.tmps = a.tmps := by rw [hrec]
    rw [this l p hp, htm]
    exact Enc.step hst rP hid (Enc.step sA hr iA (ht.rel p.1))
  have hset : (H ++ [none]).set H.length (some (Blk.loop (look e l) ps as bo .ready)) = H ++ [some (.loop (look e l) ps as bo .ready)] := by simp
  rw [hset] at s1 r1
  obtain ⟨w1, hw1⟩ : ∃ w1, w1 = wA.alloc (.loop rec) := ⟨_, rfl⟩
  obtain ⟨M1, hM1⟩ : ∃ M1, M1 = M.alc H.length wA.heap.size := ⟨_, rfl⟩
  rw [← hw1, ← hM1] at s1 r1
  rw [← hM1] at i1
  have hj1 : M1.j H.length = w.heap.size + 1 := by rw [hM1]; simp [Mm.alc, hsA]
  have hal1 : M1.al H.length = true := by rw [hM1]; simp [Mm.alc]
  have sAll := (sA.trans sP).trans s1
  have iAll : Ids M M1 H.length := i1.mono (by simp)
  have hargs : EncL M1 w1 (.yld H.length :: cap) (.func (.yield (w.heap.size + 1)) #[] #[] :: caps) := by
   simp only [EncL, Enc]
   exact ⟨_, caps, rfl, ⟨hal1, by rw [hj1]⟩, EncL.step s1 rP i1 (EncL.step sA hr iA hcaps)⟩
  obtain ⟨hF, hcall⟩ := ih.2 M1 w1 _ (s1.fm.trans hm) r1 hargs
  obtain ⟨F, hF1, hF2, hF3⟩ := hF
  refine ⟨w.heap.size + 1, [{ target := .collected w.heap.size, args := #[] }], w1, { target := .fn (.func (M.fm f)) caps.toArray, args := #[.func (.yield (w.heap.size + 1)) #[] #[]] }, w1, M.fm f,
   #[.func (.yield (w.heap.size + 1)) #[] #[]] ++ caps.toArray, w1, ?_, ?_, fun _ _ => trivial, ?_, fun h => by (cases h), ?_⟩
  ·rw [hw1, hwA, hrec]; exact run_enterLoop_outer _ _ _ _ _
  ·simp only [resolve, hfv]
   simp [go_sem]
  ·rw [← hm] at hF1
   cases hbd : F.body with
   | none => rw [hbd] at hF2; cases hF2
   | some c => simp [invoke, callFunc, hF1, hF3, hbd]
  ·have hargs2 : (#[.func (.yield (w.heap.size + 1)) #[] #[]] ++ caps.toArray : Array Value) = (Value.func (.yield (w.heap.size + 1)) #[] #[] :: caps).toArray := by apply Array.ext'; simp
   rw [hargs2, hm]
   refine callsFR (hcall.mono ?_)
   rintro en w3 ⟨rv, M2, rfl, _, s2, i2, r2⟩
   -- behind the function
   have hj2 : M2.j H.length = w.heap.size + 1 := by rw [(i2 H.length (by simp) hal1).2.1]; exact hj1
   have h2 := r2.rel _ _ hb1
   simp only [BRel] at h2
   obtain ⟨_, r3, hrec3, hst3, _⟩ := h2
   obtain ⟨M4, s4, i4, r4, _⟩ := loop_put (st' := .over) (r' := { r3 with state := .exhausted }) r2 hb1 hrec3 rfl rfl rfl rfl trivial
   rw [hj2] at hrec3 s4 r4
   obtain ⟨u1, u2, u3⟩ := stp_upto r4 H.length
   have htr : trunc H.length (H1.set H.length (some (Blk.loop e0 ps' as' bo' .over))) = trunc H.length H1 := by
    simp only [trunc]
    rw [List.take_set_of_le (Nat.le_refl _)]
   rw [htr] at u1 u3
   have sB := (((sP.trans s1).trans s2).trans s4).trans u1
   have iB : Ids M (M4.upto H.length) H.length := ((iAll.trans i2 (by simp)).trans i4 (by omega)).trans u2 (Nat.le_refl _)
   have hnb : r3.state ≠ .busy := by
    rcases hst with ⟨rfl, _⟩ | ⟨rfl, _⟩
    ·rw [hst3.1]; simp
    ·rw [hst3.1]; simp
   have hdA : ({ a with defers := { target := .collected w.heap.size, args := #[] } :: a.defers } : Act).defers.Nodup ∧ ∀ d ∈ ({ a with defers := { target := .collected w.heap.size, args := #[] } :: a.defers } : Act).defers, ∃ D, d = { target := .collected D, args := #[] } ∧ wA.heap[D]? = some (.deferred (some [])) := by
    have hA := defers_step sA hr ht.defers
    refine ⟨List.nodup_cons.2 ⟨fun hm => ?_, hA.1⟩, fun d hd => ?_⟩
    ·obtain ⟨D, h1, h2⟩ := ht.defers.2 _ hm
     cases h1
     exact absurd (Array.getElem?_eq_some_iff.1 h2).1 (by omega)
    ·rcases List.mem_cons.1 hd with rfl | hd
     ·exact ⟨_, rfl, by rw [hwA]; exact heap_alloc_new w _⟩
     ·exact hA.2 d hd
   have t4 : RelT (M4.upto H.length) (w3.putObj (w.heap.size + 1) (.loop { r3 with state := .exhausted })) e { a with defers := { target := .collected w.heap.size, args := #[] } :: a.defers } n :=
    ⟨ht.size, defers_step sB rA hdA, fun i => Enc.step (sA.trans sB) hr iB (ht.rel i), u3.glo⟩
   have hfin := hq _ _ _ t4 u3 (sA.trans sB) iB fun d hd => by
    rcases List.mem_cons.1 hd with rfl | hd
    ·exact .inr ⟨_, rfl, Nat.le_refl _⟩
    ·exact .inl hd
   have key : ∀ j, r3.pending = j → (Instr.endLoop (w.heap.size + 1)).run P w3 = .ok j (w3.putObj (w.heap.size + 1) (.loop { r3 with state := .exhausted })) := fun j hj => by
    subst hj; exact run_endLoop hrec3 hnb
   rcases hst with ⟨rfl, rfl⟩ | ⟨rfl, hx⟩
   ·exact ⟨none, _, key none hst3.2, hfin⟩
   ·cases x with
    | nx => exact absurd rfl hx
    | ret => exact ⟨some .ret, _, key _ hst3.2, wpIn_ret hfin⟩
    | exit k => exact ⟨some (.exit k), _, key _ hst3.2, wpIn_exit hfin⟩
end Go.Ev
/- Arguments that read as data are canonical values. -/
namespace Go.Ev
open Go Go.RowKit
set_option linter.unusedSimpArgs false
set_option linter.unusedVariables false
variable {P : Program} {w : World} {fm : Fm}
inductive Ty where
 | int (k : IntKind)
 | bool
 | str
 | sl (e : Ty)
 | agg (fs : List Ty)
 | arr (n : Nat) (e : Ty)
mutual
/-- Cells that are a value of a shape. -/
def HasTy : Ty → List V → Prop
 | .int k, cs => ∃ n, cs = [.int k n] ∧ (Lit.int k n).wf = true
 | .bool, cs => ∃ b, cs = [.bool b]
 | .str, cs => ∃ s : List UInt8, cs = [.str s] ∧ s.length ≤ maxLen
 | .sl e, cs => ∃ es : List (List V), cs = [.vs es .no] ∧ es.length ≤ maxLen ∧ ∀ x ∈ es, HasTy e x
 | .agg fs, cs => HasTys fs cs
 | .arr n e, cs => ∃ es : List (List V), cs = es.flatten ∧ es.length = n ∧ ∀ x ∈ es, HasTy e x
def HasTys : List Ty → List V → Prop
 | [], cs => cs = []
 | t :: ts, cs => ∃ a b, cs = a ++ b ∧ HasTy t a ∧ HasTys ts b
end
mutual
theorem HasTy.pure : ∀ {t : Ty} {cs : List V}, HasTy t cs → ∀ c ∈ cs, c.pure = true
 | .int k, cs, h => by simp only [HasTy] at h; obtain ⟨n, rfl, _⟩ := h; simp [V.pure]
 | .bool, cs, h => by simp only [HasTy] at h; obtain ⟨n, rfl⟩ := h; simp [V.pure]
 | .str, cs, h => by simp only [HasTy] at h; obtain ⟨n, rfl, _⟩ := h; simp [V.pure]
 | .sl e, cs, h => by simp only [HasTy] at h; obtain ⟨n, rfl, _⟩ := h; simp [V.pure]
 | .agg fs, cs, h => by simp only [HasTy] at h; exact HasTys.pure h
 | .arr n e, cs, h => by
  simp only [HasTy] at h
  obtain ⟨es, rfl, _, h⟩ := h
  intro c hc
  obtain ⟨x, hx, hc⟩ := List.mem_flatten.1 hc
  exact HasTy.pure (h x hx) c hc
theorem HasTys.pure : ∀ {ts : List Ty} {cs : List V}, HasTys ts cs → ∀ c ∈ cs, c.pure = true
 | [], cs, h => by simp only [HasTys] at h; subst h; simp
 | t :: ts, cs, h => by
  simp only [HasTys] at h
  obtain ⟨a, b, rfl, h1, h2⟩ := h
  intro c hc
  simp only [List.mem_append] at hc
  rcases hc with hc | hc
  ·exact HasTy.pure h1 c hc
  ·exact HasTys.pure h2 c hc
end
mutual
/-- A type of the program has a shape. -/
def tyIs (P : Program) (t : TypeId) : Ty → Bool
 | .int k => isInt P t k
 | .bool => isBool P t
 | .str => isStr P t
 | .sl e => match P.underlying t with | some (.slice el) => decide (0 < P.cellsOf el) && tyIs P el e | _ => false
 | .agg fs => match P.underlying t with | some (.struct gs) => fieldsAre P (P.cellsOf t) 0 gs.toList fs | _ => false
 | .arr n e => match P.underlying t with | some (.array m el) => m == n && P.cellsOf t == n * P.cellsOf el && tyIs P el e | _ => false
def fieldsAre (P : Program) (all : Nat) (off : Nat) : List Field → List Ty → Bool
 | [], [] => off == all
 | g :: gs, t :: ts => g.offset == off && tyIs P g.type t && fieldsAre P all (off + P.cellsOf g.type) gs ts
 | _, _ => false
end
def M0 (fm : Fm) : Mm := ⟨fun _ => false, fun _ => 0, fun _ => none, fun _ => ⟨0, none, 0, 0⟩, fm⟩
theorem hrel0 (fm : Fm) (w : World) (g : GOk (M0 fm) w) : HRel (M0 fm) w [] :=
 ⟨fun id => by simp [M0], fun id blk h => by simp at h, fun id id' b h => by simp [blOf] at h, g⟩
theorem rd0 (fm : Fm) (b o : Nat) : Rd (M0 fm) b o := fun l h => by simp [M0] at h
theorem cells?_range {base : Nat} {ad : Addr} {n : Nat} {xs : List Value} (h : w.cells? base ad n = some xs) : xs.length = n ∧ ∀ j v, xs[j]? = some v → w.cell? (ad.add j) = some v := by
 unfold World.cells? at h
 split at h
 case isFalse => cases h
 have hl := mapM_some_length h
 simp only [List.length_range] at hl
 refine ⟨hl, fun j v hv => ?_⟩
 have hj : j < n := by rw [← hl]; exact (List.getElem?_eq_some_iff.1 hv).1
 have := mapM_some_get h j j (by rw [List.getElem?_range hj])
 rw [this]; exact hv
theorem encL_take_drop {M : Mm} {xs : List Value} : ∀ {k : Nat} {a b : List V}, EncL M w a (xs.take k) → EncL M w b (xs.drop k) → EncL M w (a ++ b) xs := by
 intro k a b h1 h2
 have := encL_append h1 h2
 rwa [List.take_append_drop] at this
theorem encRows_of {M : Mm} {b sz : Nat} : ∀ {es : List (List V)} {off : Nat}, (∀ x ∈ es, x.length = sz) → (∀ (i : Nat) (x : List V), es[i]? = some x → EncRow M w b x (off + i * sz)) → EncRows M w b es off
 | [], _, _, _ => by simp only [EncRows]
 | e :: es, off, hs, h => by
  simp only [EncRows]
  refine ⟨by simpa using h 0 e (by simp), encRows_of (sz := sz) (fun x hx => hs x (by simp [hx])) fun i x hx => ?_⟩
  rw [hs e (by simp), show off + sz + i * sz = off + (i + 1) * sz by rw [Nat.add_mul, Nat.one_mul]; omega]
  exact h (i + 1) x (by simpa using hx)
theorem choose_list {α : Type} {Q : Nat → α → Prop} : ∀ (n : Nat), (∀ i, i < n → ∃ x, Q i x) → ∃ es : List α, es.length = n ∧ ∀ (i : Nat) (x : α), es[i]? = some x → Q i x
 | 0, _ => ⟨[], rfl, fun i x h => by simp at h⟩
 | n + 1, h => by
  obtain ⟨es, hl, hq⟩ := choose_list n (fun i hi => h i (by omega))
  obtain ⟨x, hx⟩ := h n (by omega)
  refine ⟨es ++ [x], by simp [hl], fun i y hy => ?_⟩
  rw [List.getElem?_append] at hy
  split at hy
  ·exact hq i y hy
  ·rename_i hi
   have : i = n := by
    have := (List.getElem?_eq_some_iff.1 hy).1
    simp at this
    omega
   subst this
   simp [hl] at hy
   subst hy
   exact hx
theorem encL_chunks {M : Mm} {c : Nat} : ∀ {es : List (List V)} {xs : List Value}, xs.length = es.length * c → (∀ (i : Nat) (x : List V), es[i]? = some x → EncL M w x ((xs.drop (i * c)).take c)) → EncL M w es.flatten xs
 | [], xs, hl, _ => by
  simp only [List.flatten_nil, EncL]
  exact List.eq_nil_of_length_eq_zero (by simpa using hl)
 | e :: es, xs, hl, h => by
  simp only [List.flatten_cons]
  refine encL_take_drop (k := c) (by simpa using h 0 e (by simp)) (encL_chunks (c := c) (by rw [List.length_drop, hl, List.length_cons, Nat.add_mul, Nat.one_mul]; omega) fun i x hx => ?_)
  rw [List.drop_drop]
  have := h (i + 1) x (by simpa using hx)
  rw [Nat.add_mul, Nat.one_mul, Nat.add_comm] at this
  exact this
section
variable {H : Type} {enc : TypeId × Value → H}
mutual
/-- What reads as data of a shape is canonical cells of it. -/
theorem open_ty : ∀ {ty : Ty} {fuel : Nat} {t : TypeId} {cs : List Value} {d : DataW H} {ps : List MemPlace}, tyIs P t ty = true → DataW.trod enc P w 0 (fun _ => true) true fuel t cs = some (d, ps) →
  ∃ vs, HasTy ty vs ∧ EncL (M0 fm) w vs cs
 | ty, 0, t, cs, d, ps, _, h => by simp [DataW.trod] at h
 | .int k, fuel + 1, t, cs, d, ps, ht, h => by
  simp only [tyIs] at ht
  have hu := isInt_spec ht
  unfold DataW.trod at h
  rw [hu] at h
  split at h <;> try (simp_all; done)
  rename_i k0 k' n hk
  cases hk
  split at h
  case isFalse => cases h
  rename_i hw
  obtain ⟨rfl, hw⟩ := hw
  exact ⟨[.int _ n], by simp only [HasTy]; exact ⟨n, rfl, hw⟩, by simp [EncL, Enc]⟩
 | .bool, fuel + 1, t, cs, d, ps, ht, h => by
  simp only [tyIs] at ht
  have hu := isBool_spec ht
  unfold DataW.trod at h
  rw [hu] at h
  split at h <;> simp_all
  rename_i b
  exact ⟨[.bool b], by simp only [HasTy]; exact ⟨b, rfl⟩, by simp [EncL, Enc]⟩
 | .str, fuel + 1, t, cs, d, ps, ht, h => by
  simp only [tyIs] at ht
  have hu := isStr_spec ht
  unfold DataW.trod at h
  rw [hu] at h
  split at h <;> simp_all
  rename_i s
  exact ⟨[.str s.data.toList], by simp only [HasTy]; exact ⟨s.data.toList, rfl, h.1⟩, by simp [EncL, Enc]⟩
 | .sl e, fuel + 1, t, cs, d, ps, ht, h => by
  simp only [tyIs] at ht
  split at ht
  case h_2 => cases ht
  rename_i el hu
  unfold DataW.trod at h
  rw [hu] at h
  split at h <;> try (simp_all; done)
  ·refine ⟨[.vs [] .no], by simp only [HasTy]; exact ⟨[], rfl, Nat.zero_le _, by simp⟩, ?_⟩
   simp only [EncL, Enc]
   exact ⟨_, [], rfl, ⟨by simp, none, 0, rfl, Nat.le_refl _, by simp, trivial⟩, rfl⟩
  ·rename_i el' a len cap hx
   cases hx
   simp only at h
   split at h
   case isFalse => cases h
   rename_i hc
   rw [Option.bind_eq_some_iff] at h
   obtain ⟨elems, hel, h⟩ := h
   have hlen := mapM_some_length hel
   simp only [List.length_range] at hlen
   simp only [Bool.and_eq_true, decide_eq_true_eq] at ht
   obtain ⟨hpos, ht⟩ := ht
   obtain ⟨hb, hle, hmax⟩ := hc
   have hraw : ∀ i, i < len → ∃ vs xs, HasTy e vs ∧ EncL (M0 fm) w vs xs ∧ w.cells? 0 (a.add (i * P.cellsOf el)) (P.cellsOf el) = some xs := by
    intro i hi
    have := mapM_some_get hel i i (by rw [List.getElem?_range hi])
    cases he : elems[i]? with
    | none => rw [List.getElem?_eq_none_iff] at he; omega
    | some p =>
     rw [he] at this
     rw [Option.bind_eq_some_iff] at this
     obtain ⟨xs, hxs, htr⟩ := this
     obtain ⟨d', p'⟩ := p
     obtain ⟨vs, h1, h2⟩ := open_ty ht htr
     exact ⟨vs, xs, h1, h2, hxs⟩
   have hsp : 0 < len → a.spot = none := by
    intro h0
    obtain ⟨vs, xs, _, _, hxs⟩ := hraw 0 h0
    obtain ⟨hl, hget⟩ := cells?_range hxs
    have h3 := hget 0 _ (List.getElem?_eq_getElem (by omega))
    have : (a.add (0 * P.cellsOf el)).add 0 = a := by simp [Addr.add]
    rw [this] at h3
    exact World.cell?_spot h3
   have hone : ∀ i, i < len → ∃ vs, HasTy e vs ∧ vs.length = P.cellsOf el ∧ EncRow (M0 fm) w a.block vs (a.off + i * P.cellsOf el) := by
    intro i hi
    obtain ⟨vs, xs, h1, h2, hxs⟩ := hraw i hi
    obtain ⟨hl, hget⟩ := cells?_range hxs
    have hsp := hsp (by omega)
    obtain ⟨ab, ao, asp⟩ := a
    simp only at hsp
    subst hsp
    refine ⟨vs, h1, by have := encL_length h2; omega, encRow_of fun j c hc => ?_⟩
    obtain ⟨x, hx, he⟩ := encL_get h2 hc
    have := hget j x hx
    rw [Addr.add_lit, Addr.add_mid] at this
    exact ⟨x, this, rd0 fm _ _, he⟩
   obtain ⟨es, hesl, hes⟩ := choose_list len hone
   have hall : ∀ x ∈ es, HasTy e x ∧ x.length = P.cellsOf el := by
    intro x hx
    obtain ⟨i, hi⟩ := List.getElem?_of_mem hx
    exact ⟨(hes i x hi).1, (hes i x hi).2.1⟩
   refine ⟨[.vs es .no], by simp only [HasTy]; exact ⟨es, rfl, by omega, fun x hx => (hall x hx).1⟩, ?_⟩
   simp only [EncL, Enc]
   refine ⟨_, [], rfl, ⟨fun f hf => HasTy.pure (hall f hf).1, some a, cap, by rw [hesl], by omega, ⟨?_, ⟨_, fun x hx => (hall x hx).2⟩, encRows_of (fun x hx => (hall x hx).2) fun i x hx => (hes i x hx).2.2⟩, trivial⟩, rfl⟩
   by_cases h0 : 0 < len
   ·exact .inr (hsp h0)
   ·exact .inl (List.eq_nil_of_length_eq_zero (by omega))
 | .agg fs, fuel + 1, t, cs, d, ps, ht, h => by
  simp only [tyIs] at ht
  split at ht
  case h_2 => cases ht
  rename_i gs hu
  unfold DataW.trod at h
  rw [hu] at h
  simp only at h
  split at h
  case isFalse => cases h
  rename_i hlen
  rw [Option.map_eq_some_iff] at h
  obtain ⟨xs, hxs, _⟩ := h
  obtain ⟨vs, h1, h2⟩ := open_tys ht hxs hlen
  exact ⟨vs, by simp only [HasTy]; exact h1, by simpa using h2⟩
 | .arr n e, fuel + 1, t, cs, d, ps, ht, h => by
  simp only [tyIs] at ht
  split at ht
  case h_2 => cases ht
  rename_i m el hu
  simp only [Bool.and_eq_true, beq_iff_eq] at ht
  obtain ⟨⟨rfl, hsz⟩, ht⟩ := ht
  unfold DataW.trod at h
  rw [hu] at h
  simp only at h
  split at h
  case isFalse => cases h
  rename_i hlen
  rw [Option.map_eq_some_iff] at h
  obtain ⟨xs, hxs, _⟩ := h
  have hone : ∀ i, i < m → ∃ vs, HasTy e vs ∧ EncL (M0 fm) w vs ((cs.drop (i * P.cellsOf el)).take (P.cellsOf el)) := by
   intro i hi
   have := mapM_some_get hxs i i (by rw [List.getElem?_range hi])
   cases he : xs[i]? with
   | none => rw [List.getElem?_eq_none_iff] at he; have := mapM_some_length hxs; simp at this; omega
   | some p =>
    rw [he] at this
    obtain ⟨d', p'⟩ := p
    exact open_ty ht this
  obtain ⟨es, hesl, hes⟩ := choose_list m hone
  have hty : HasTy (.arr m e) es.flatten := by
   simp only [HasTy]
   refine ⟨es, rfl, hesl, fun x hx => ?_⟩
   obtain ⟨i, hi⟩ := List.getElem?_of_mem hx
   exact (hes i x hi).1
  exact ⟨es.flatten, hty, encL_chunks (c := P.cellsOf el) (by rw [hlen, hsz, hesl]) fun i x hx => (hes i x hx).2⟩
theorem open_tys : ∀ {fs : List Ty} {gs : List Field} {all off fuel : Nat} {cs : List Value} {xs : List (DataW H × List MemPlace)}, fieldsAre P all off gs fs = true →
  (gs.mapM fun f => DataW.trod enc P w 0 (fun _ => true) true fuel f.type ((cs.drop f.offset).take (P.cellsOf f.type))) = some xs → cs.length = all →
  ∃ vs, HasTys fs vs ∧ EncL (M0 fm) w vs (cs.drop off)
 | [], [], all, off, fuel, cs, xs, hf, h, hl => by
  simp only [fieldsAre, beq_iff_eq] at hf
  exact ⟨[], by simp only [HasTys], by simp only [EncL]; rw [List.drop_eq_nil_iff]; omega⟩
 | [], _ :: _, _, _, _, _, _, hf, _, _ => by simp [fieldsAre] at hf
 | _ :: _, [], _, _, _, _, _, hf, _, _ => by simp [fieldsAre] at hf
 | t :: ts, g :: gs, all, off, fuel, cs, xs, hf, h, hl => by
  simp only [fieldsAre, Bool.and_eq_true, beq_iff_eq] at hf
  obtain ⟨⟨hoff, hty⟩, hf⟩ := hf
  rw [List.mapM_cons] at h
  simp only [Option.bind_eq_bind, Option.bind_eq_some_iff] at h
  obtain ⟨x, hx, ys, hys, _⟩ := h
  obtain ⟨d, p⟩ := x
  obtain ⟨a, h1, h2⟩ := open_ty hty hx
  obtain ⟨b, h3, h4⟩ := open_tys hf hys hl
  have hty' : HasTys (t :: ts) (a ++ b) := by
   simp only [HasTys]
   exact ⟨a, b, rfl, h1, h3⟩
  rw [hoff] at h2
  rw [← List.drop_drop] at h4
  exact ⟨a ++ b, hty', encL_take_drop (k := P.cellsOf g.type) h2 h4⟩
end
end
end Go.Ev
/- Stepping through simplified code: equations for simp. -/
namespace Go.Ev
open Go Go.RowKit
set_option linter.unusedSimpArgs false
set_option linter.unusedVariables false
abbrev Tbl := Nat → Option SFn
def rep (n : Nat) (v : V) : List V := List.replicate n v
@[simp] theorem mkE_nil (i : Nat) : mkE [] i = .undef := rfl
@[simp] theorem mkE_cons (d : Nat) (v : V) (l : List (Nat × V)) (i : Nat) : mkE ((d, v) :: l) i = if i = d then v else mkE l i := rfl
@[simp] theorem mkE_put (l : List (Nat × V)) (d : Nat) (v : V) : (mkE l).put (some d) v = mkE ((d, v) :: l) := rfl
@[simp] theorem mkE_put_none (l : List (Nat × V)) (v : V) : (mkE l).put none v = mkE l := rfl
@[simp] theorem look_nil (e : Env) : look e [] = [] := rfl
@[simp] theorem look_cons (e : Env) (i : Nat) (l : List Nat) : look e (i :: l) = (i, e i) :: look e l := rfl
theorem look_get (e : Env) : ∀ (l : List Nat) (i : Nat), mkE (look e l) i = if i ∈ l then e i else .undef
 | [], i => by simp [look]
 | j :: l, i => by
  simp only [look, mkE_cons, look_get e l i, List.mem_cons]
  by_cases h : i = j
  ·subst h; simp
  ·simp [h]
theorem keepE_eq (l : List Nat) (e : Env) : keepE l e = mkE (look e l) := by
 funext i
 rw [look_get]
 rfl
def clE (n : Nat) : List (Nat × V) → List (Nat × V)
 | [] => []
 | (i, v) :: l => (i, v.cl n) :: clE n l
@[simp] theorem clE_nil (n : Nat) : clE n [] = [] := rfl
@[simp] theorem clE_cons (n : Nat) (i : Nat) (v : V) (l : List (Nat × V)) : clE n ((i, v) :: l) = (i, v.cl n) :: clE n l := rfl
theorem cl_mkE (n : Nat) : ∀ l : List (Nat × V), (mkE l).cl n = mkE (clE n l)
 | [] => by funext i; simp [Env.cl, V.cl]
 | (d, v) :: l => by
  funext i
  have := congrFun (cl_mkE n l) i
  simp only [Env.cl] at this
  simp only [Env.cl, mkE_cons, clE_cons]
  by_cases h : i = d
  ·simp [h]
  ·rw [if_neg h, if_neg h]; exact this
theorem keep_cl (n : Nat) (l : List Nat) (e : Env) : (keepE l e).cl n = mkE (clE n (look e l)) := by rw [keepE_eq, cl_mkE]
def idxE : Nat → List V → List (Nat × V)
 | _, [] => []
 | i, v :: vs => (i, v) :: idxE (i + 1) vs
@[simp] theorem idxE_nil (i : Nat) : idxE i [] = [] := rfl
@[simp] theorem idxE_cons (i : Nat) (v : V) (vs : List V) : idxE i (v :: vs) = (i, v) :: idxE (i + 1) vs := rfl
theorem idxE_get : ∀ (vs : List V) (k i : Nat), mkE (idxE k vs) i = if k ≤ i then vs.getD (i - k) .undef else .undef
 | [], k, i => by simp
 | v :: vs, k, i => by
  simp only [idxE_cons, mkE_cons, idxE_get vs (k + 1) i]
  by_cases h : i = k
  ·subst h; simp
  ·rw [if_neg h]
   by_cases h2 : k ≤ i
   ·rw [if_pos h2, if_pos (by omega)]
    obtain ⟨m, rfl⟩ : ∃ m, i = k + 1 + m := ⟨i - (k + 1), by omega⟩
    rw [show k + 1 + m - (k + 1) = m by omega, show k + 1 + m - k = m + 1 by omega]
    simp
   ·rw [if_neg h2, if_neg (by omega)]
theorem envOf_eq (args : List V) : envOf args = mkE (idxE 0 args) := by
 funext i
 rw [idxE_get]
 simp [envOf]
inductive Kt where
 | seq (c : SCode)
 | block (id : Nat)
def WC (G : Tbl) (c : SCode) (e : Env) (H : Heap) (Q : Ex → Env → Heap → Prop) : Prop := ∃ x e' H', Big G (.C c e H x e' H') ∧ Q x e' H'
def Wk (G : Tbl) : List Kt → (Ex → Env → Heap → Prop) → Ex → Env → Heap → Prop
 | [], Q, x, e, H => Q x e H
 | .seq c :: K, Q, x, e, H => match x with
  | .nx => WC G c e H (Wk G K Q)
  | x => Wk G K Q x e H
 | .block id :: K, Q, x, e, H => Wk G K Q (if x = .exit id then .nx else x) e H
def W (G : Tbl) (c : SCode) (K : List Kt) (e : Env) (H : Heap) (Q : Ex → Env → Heap → Prop) : Prop := WC G c e H (Wk G K Q)
def Wr (G : Tbl) (x : Ex) (K : List Kt) (e : Env) (H : Heap) (Q : Ex → Env → Heap → Prop) : Prop := Wk G K Q x e H
def WO (G : Tbl) (base : Nat) (os : List SOper) (K : List Kt) (e : Env) (H : Heap) (Q : Ex → Env → Heap → Prop) : Prop := ∃ e' H', Big G (.O base os e H e' H') ∧ Wk G K Q .nx e' H'
def WF (G : Tbl) (f : Nat) (args : List V) (H : Heap) (R : V → Heap → Prop) : Prop := ∃ r H', Big G (.F f args H r H') ∧ R r H'
def bindW (o : Option (V × Heap)) (G : Tbl) (base : Nat) (d : Option Nat) (os : List SOper) (K : List Kt) (e : Env) (Q : Ex → Env → Heap → Prop) : Prop := ∃ v H1, o = some (v, H1) ∧ WO G base os K (e.put d v) H1 Q
def bindE (o : Option (Env × Heap)) (G : Tbl) (K : List Kt) (Q : Ex → Env → Heap → Prop) : Prop := ∃ e1 H1, o = some (e1, H1) ∧ Wr G .nx K e1 H1 Q
def condW (v : V) (G : Tbl) (a b : SCode) (K : List Kt) (e : Env) (H : Heap) (Q : Ex → Env → Heap → Prop) : Prop := ∃ t, v = .bool t ∧ if t = true then W G a K e H Q else W G b K e H Q
def callP (G : Tbl) (f : Nat) (args : List V) (base : Nat) (d : Option Nat) (os : List SOper) (K : List Kt) (e : Env) (H : Heap) (Q : Ex → Env → Heap → Prop) : Prop :=
 WF G f args [] fun r H1 => WO G base os K (e.put d (frz H1 r).out) H Q
def callS (G : Tbl) (f : Nat) (args : List V) (base : Nat) (d : Option Nat) (os : List SOper) (K : List Kt) (e : Env) (H : Heap) (Q : Ex → Env → Heap → Prop) : Prop :=
 WF G f args H fun r H1 => WO G base os K (e.put d (r.cl H.length)) (trunc H.length H1) Q
def callE (G : Tbl) (f : Nat) (args : List V) (base : Nat) (d : Option Nat) (os : List SOper) (K : List Kt) (e : Env) (H : Heap) (Q : Ex → Env → Heap → Prop) : Prop :=
 ∃ r H1, Big G (.F f args H r H1) ∧ Elder base args H (trunc H.length H1) ∧ WO G base os K (e.put d (r.cl H.length)) (trunc H.length H1) Q
def callL (G : Tbl) (rs : List Nat) (f : Nat) (args : List V) (base : Nat) (d : Option Nat) (os : List SOper) (K : List Kt) (e : Env) (H : Heap) (Q : Ex → Env → Heap → Prop) : Prop :=
 WF G f args H fun r H1 => Leaves e rs H (trunc H.length H1) ∧ WO G base os K (e.put d (r.cl H.length)) (trunc H.length H1) Q
def callK (G : Tbl) (ro : Bool) (f : Nat) (args : List V) (base : Nat) (d : Option Nat) (os : List SOper) (K : List Kt) (e : Env) (H : Heap) (Q : Ex → Env → Heap → Prop) : Prop :=
 WF G f args H fun r H1 => (ro = true → base ≤ H.length ∧ H1.take H.length = H) ∧ WO G base os K (e.put d r) H1 Q
def callY (G : Tbl) (ro : Bool) (v : V) (args : List V) (base : Nat) (d : Option Nat) (os : List SOper) (K : List Kt) (e : Env) (H : Heap) (Q : Ex → Env → Heap → Prop) : Prop :=
 ro = false ∧ ∃ id e0 ps as bo, v = .yld id ∧ H[id]? = some (some (.loop e0 ps as bo .ready)) ∧ args.length = ps.length ∧
  ∃ e1 H1 f0 fps fas fbo x e2 H2 g0 gps gas gbo, Big G (.C as (putP ps args (mkE e0)) H .nx e1 H1) ∧ H1[id]? = some (some (.loop f0 fps fas fbo .ready)) ∧ Big G (.C bo e1 (H1.set id (some (.loop f0 fps fas fbo .busy))) x e2 H2) ∧
   H2[id]? = some (some (.loop g0 gps gas gbo .busy)) ∧
   WO G base os K (e.put d (.bool (decide (x = .nx)))) (trunc H.length (H2.set id (some (.loop g0 gps gas gbo (if x = .nx then .ready else .done x))))) Q
def callV (G : Tbl) (ro : Bool) (v : V) (args : List V) (base : Nat) (d : Option Nat) (os : List SOper) (K : List Kt) (e : Env) (H : Heap) (Q : Ex → Env → Heap → Prop) : Prop :=
 (∃ f cap, v = .fn f cap ∧ WF G f (args ++ cap) H fun r H1 => (ro = true → trunc H.length H1 = H) ∧ WO G base os K (e.put d (r.cl H.length)) (trunc H.length H1) Q) ∨ callY G ro v args base d os K e H Q
def rangeW (G : Tbl) (v : V) (l ps : List Nat) (as bo : SCode) (K : List Kt) (e : Env) (H : Heap) (Q : Ex → Env → Heap → Prop) : Prop :=
 ∃ f cap, v = .fn f cap ∧ WF G f (.yld H.length :: cap) (H ++ [some (.loop (look e l) ps as bo .ready)]) fun _ H1 =>
  ∃ e0 ps' as' bo' st x, H1[H.length]? = some (some (.loop e0 ps' as' bo' st)) ∧ (st = .ready ∧ x = .nx ∨ st = .done x ∧ x ≠ .nx) ∧ Wr G x K e (trunc H.length H1) Q
section
variable {G : Tbl} {K : List Kt} {e : Env} {H : Heap} {Q : Ex → Env → Heap → Prop}
@[simp] theorem W_skip : W G .skip K e H Q = Wr G .nx K e H Q := by
 apply propext
 constructor
 ·rintro ⟨x, e', H', h, q⟩; cases h; exact q
 ·intro q; exact ⟨_, _, _, .cskip, q⟩
@[simp] theorem W_seq (a b : SCode) : W G (.seq a b) K e H Q = W G a (.seq b :: K) e H Q := by
 apply propext
 constructor
 ·rintro ⟨x, e', H', h, q⟩
  cases h with
  | seqN h1 h2 => exact ⟨_, _, _, h1, _, _, _, h2, q⟩
  | seqX h1 hx =>
   refine ⟨_, _, _, h1, ?_⟩
   cases x <;> first | exact absurd rfl hx | exact q
 ·rintro ⟨x, e', H', h, q⟩
  cases x with
  | nx => obtain ⟨x, e2, H2, h2, q⟩ := q; exact ⟨_, _, _, .seqN h h2, q⟩
  | exit id => exact ⟨_, _, _, .seqX h (by simp), q⟩
  | ret => exact ⟨_, _, _, .seqX h (by simp), q⟩
@[simp] theorem W_region (m : Nat) (ops : List SOper) : W G (.region m ops) K e H Q = WO G H.length ops K e (H ++ List.replicate m none) Q := by
 apply propext
 constructor
 ·rintro ⟨x, e', H', h, q⟩; cases h with | region h => exact ⟨_, _, h, q⟩
 ·rintro ⟨e', H', h, q⟩; exact ⟨_, _, _, .region h, q⟩
@[simp] theorem bindW_some (v : V) (base : Nat) (d : Option Nat) (os : List SOper) : bindW (some (v, H)) G base d os K e Q = WO G base os K (e.put d v) H Q := by
 apply propext
 constructor
 ·rintro ⟨v', H', h, q⟩; cases h; exact q
 ·exact fun q => ⟨_, _, rfl, q⟩
@[simp] theorem bindW_none (base : Nat) (d : Option Nat) (os : List SOper) : bindW none G base d os K e Q = False := by
 apply propext
 constructor
 ·rintro ⟨v', H', h, q⟩; cases h
 ·exact False.elim
@[simp] theorem bindE_some : bindE (some (e, H)) G K Q = Wr G .nx K e H Q := by
 apply propext
 constructor
 ·rintro ⟨v', H', h, q⟩; cases h; exact q
 ·exact fun q => ⟨_, _, rfl, q⟩
@[simp] theorem bindE_none : bindE none G K Q = False := by
 apply propext
 constructor
 ·rintro ⟨v', H', h, q⟩; cases h
 ·exact False.elim
theorem condW_bool (t : Bool) (a b : SCode) : condW (.bool t) G a b K e H Q = (if t = true then W G a K e H Q else W G b K e H Q) := by
 apply propext
 constructor
 ·rintro ⟨t', h, q⟩; cases h; exact q
 ·exact fun q => ⟨_, rfl, q⟩
@[simp] theorem condW_true (a b : SCode) : condW (.bool true) G a b K e H Q = W G a K e H Q := by rw [condW_bool]; simp
@[simp] theorem condW_false (a b : SCode) : condW (.bool false) G a b K e H Q = W G b K e H Q := by rw [condW_bool]; simp
@[simp] theorem W_cond (c : X) (a b : SCode) : W G (.cond c a b) K e H Q = condW (c.ev e) G a b K e H Q := by
 apply propext
 constructor
 ·rintro ⟨x, e', H', h, q⟩
  cases h with
  | cond hc h =>
   refine ⟨_, hc, ?_⟩
   rename_i t
   cases t <;> exact ⟨_, _, _, h, q⟩
 ·rintro ⟨t, hc, h⟩
  cases t
  ·obtain ⟨x, e', H', h, q⟩ := h; exact ⟨x, e', H', .cond hc h, q⟩
  ·obtain ⟨x, e', H', h, q⟩ := h; exact ⟨x, e', H', .cond hc h, q⟩
@[simp] theorem W_block (id : Nat) (c : SCode) : W G (.block id c) K e H Q = W G c (.block id :: K) e H Q := by
 apply propext
 constructor
 ·rintro ⟨x, e', H', h, q⟩; cases h with | block h => exact ⟨_, _, _, h, q⟩
 ·rintro ⟨x, e', H', h, q⟩; exact ⟨_, _, _, .block h, q⟩
@[simp] theorem W_exit (id : Nat) : W G (.exit id) K e H Q = Wr G (.exit id) K e H Q := by
 apply propext
 constructor
 ·rintro ⟨x, e', H', h, q⟩; cases h; exact q
 ·intro q; exact ⟨_, _, _, .exit, q⟩
@[simp] theorem W_ret : W G .ret K e H Q = Wr G .ret K e H Q := by
 apply propext
 constructor
 ·rintro ⟨x, e', H', h, q⟩; cases h; exact q
 ·intro q; exact ⟨_, _, _, .ret, q⟩
@[simp] theorem W_keep (l : List Nat) : W G (.keep l) K e H Q = Wr G .nx K (mkE (look e l)) H Q := by
 apply propext
 rw [← keepE_eq]
 constructor
 ·rintro ⟨x, e', H', h, q⟩; cases h; exact q
 ·intro q; exact ⟨_, _, _, .keep, q⟩
@[simp] theorem W_give (t : Nat) (off : Option Nat) : W G (.give t off) K e H Q = bindE (giveIt e H t off) G K Q := by
 apply propext
 constructor
 ·rintro ⟨x, e', H', h, q⟩; cases h with | give h => exact ⟨_, _, h, q⟩
 ·rintro ⟨e1, H1, hg, h⟩; exact ⟨_, _, _, .give hg, h⟩
@[simp] theorem W_rangeF (g : X) (l ps : List Nat) (as bo : SCode) : W G (.rangeF g l ps as bo) K e H Q = rangeW G (g.ev e) l ps as bo K e H Q := by
 apply propext
 constructor
 ·rintro ⟨x, e', H', h, q⟩
  cases h with
  | rangeF hg hf hb hst => exact ⟨_, _, hg, _, _, hf, _, _, _, _, _, _, hb, hst, q⟩
 ·rintro ⟨f, cap, hg, r, H1, hf, e0, ps', as', bo', st, x, hb, hst, q⟩
  exact ⟨_, _, _, .rangeF hg hf hb hst, q⟩
@[simp] theorem W_freeze (t : Nat) : W G (.freeze t) K e H Q = bindE (frzIt e H t) G K Q := by
 apply propext
 constructor
 ·rintro ⟨x, e', H', h, q⟩; cases h with | freeze h => exact ⟨_, _, h, q⟩
 ·rintro ⟨e1, H1, hg, h⟩; exact ⟨_, _, _, .freeze hg, h⟩
@[simp] theorem Wr_nil (x : Ex) : Wr G x [] e H Q = Q x e H := rfl
@[simp] theorem Wr_seq (c : SCode) : Wr G .nx (.seq c :: K) e H Q = W G c K e H Q := rfl
@[simp] theorem Wr_seq_exit (c : SCode) (id : Nat) : Wr G (.exit id) (.seq c :: K) e H Q = Wr G (.exit id) K e H Q := rfl
@[simp] theorem Wr_seq_ret (c : SCode) : Wr G .ret (.seq c :: K) e H Q = Wr G .ret K e H Q := rfl
@[simp] theorem Wr_block_nx (id : Nat) : Wr G .nx (.block id :: K) e H Q = Wr G .nx K e H Q := rfl
@[simp] theorem Wr_block_ret (id : Nat) : Wr G .ret (.block id :: K) e H Q = Wr G .ret K e H Q := rfl
@[simp] theorem Wr_block_exit (id k : Nat) : Wr G (.exit k) (.block id :: K) e H Q = Wr G (if k = id then .nx else .exit k) K e H Q := by
 simp only [Wr, Wk, Ex.exit.injEq]
def Ws (G : Tbl) (base : Nat) (o : SOper) (os : List SOper) (K : List Kt) (e : Env) (H : Heap) (Q : Ex → Env → Heap → Prop) : SOp → Prop
 | .pcall f xs => callP G f (outL (xs.map (X.ev e))) base o.dst os K e H Q
 | .scall f xs => callS G f (xs.map (X.ev e)) base o.dst os K e H Q
 | .scallA rs f xs => callL G rs f (xs.map (X.ev e)) base o.dst os K e H Q
 | .scallE f xs => callE G f (xs.map (X.ev e)) base o.dst os K e H Q
 | .kcall ro f xs => callK G ro f (xs.map (X.ev e)) base o.dst os K e H Q
 | .vcall ro fx xs => callV G ro (fx.ev e) (xs.map (X.ev e)) base o.dst os K e H Q
 | s => bindW (ev1 base e H s) G base o.dst os K e Q
def guardW (v : V) (want : Bool) (G : Tbl) (base : Nat) (o : SOper) (os : List SOper) (K : List Kt) (e : Env) (H : Heap) (Q : Ex → Env → Heap → Prop) : Prop :=
 (∃ t, v = .bool t ∧ if t = want then Ws G base o os K e H Q o.op else WO G base os K (e.put o.dst .skp) H Q) ∨ v = .skp ∧ WO G base os K (e.put o.dst .skp) H Q
@[simp] theorem WO_nil (base : Nat) : WO G base [] K e H Q = Wr G .nx K e H Q := by
 apply propext
 constructor
 ·rintro ⟨e', H', h, q⟩; cases h; exact q
 ·intro q; exact ⟨_, _, .nil, q⟩
theorem WO_cons (base : Nat) (o : SOper) (os : List SOper) : WO G base (o :: os) K e H Q = (match wanted e o with
  | some true => Ws G base o os K e H Q o.op
  | some false => WO G base os K (e.put o.dst .skp) H Q
  | none => False) := by
 apply propext
 constructor
 ·rintro ⟨e', H', h, q⟩
  cases h with
  | cons hs ho =>
   cases hs with
   | ev hw hv =>
    rw [hw]
    simp only
    cases hop : o.op <;> rw [hop] at hv <;> simp only [Ws]
    all_goals first
     | exact ⟨_, _, hv, _, _, ho, q⟩
     | (simp [ev1] at hv; done)
   | skip hw => rw [hw]; exact ⟨_, _, ho, q⟩
   | pcall hw hop hf => rw [hw]; simp only [hop, Ws]; exact ⟨_, _, hf, _, _, ho, q⟩
   | scall hw hop hf => rw [hw]; simp only [hop, Ws]; exact ⟨_, _, hf, _, _, ho, q⟩
   | scallA hw hop hf hlv => rw [hw]; simp only [hop, Ws]; exact ⟨_, _, hf, hlv, _, _, ho, q⟩
   | scallE hw hop hf hlv => rw [hw]; simp only [hop, Ws]; exact ⟨_, _, hf, hlv, _, _, ho, q⟩
   | kcall hw hop hf hro => rw [hw]; simp only [hop, Ws]; exact ⟨_, _, hf, hro, _, _, ho, q⟩
   | vcall hw hop hfx hf hro => rw [hw]; simp only [hop, Ws]; exact .inl ⟨_, _, hfx, _, _, hf, hro, _, _, ho, q⟩
   | ycall hw hop hfx hb hl ha hb1 hbo hb2 =>
    rw [hw]; simp only [hop, Ws]
    exact .inr ⟨rfl, _, _, _, _, _, hfx, hb, by simpa using hl, _, _, _, _, _, _, _, _, _, _, _, _, _, ha, hb1, hbo, hb2, _, _, ho, q⟩
 ·intro h
  split at h
  ·rename_i hw
   cases hop : o.op <;> rw [hop] at h <;> simp only [Ws] at h
   case pcall f xs => obtain ⟨r, H1, hf, e', H', ho, q⟩ := h; exact ⟨_, _, .cons (.pcall hw hop hf) ho, q⟩
   case scall f xs => obtain ⟨r, H1, hf, e', H', ho, q⟩ := h; exact ⟨_, _, .cons (.scall hw hop hf) ho, q⟩
   case scallA rs f xs => obtain ⟨r, H1, hf, hlv, e', H', ho, q⟩ := h; exact ⟨_, _, .cons (.scallA hw hop hf hlv) ho, q⟩
   case scallE f xs => obtain ⟨r, H1, hf, hlv, e', H', ho, q⟩ := h; exact ⟨_, _, .cons (.scallE hw hop hf hlv) ho, q⟩
   case kcall ro f xs => obtain ⟨r, H1, hf, hro, e', H', ho, q⟩ := h; exact ⟨_, _, .cons (.kcall hw hop hf hro) ho, q⟩
   case vcall ro fx xs =>
    rcases h with ⟨f, cap, hfx, r, H1, hf, hro, e', H', ho, q⟩ | ⟨rfl, id, e0, ps, as, bo, hfx, hb, hl, e1, H1, f0, fps, fas, fbo, x, e2, H2, g0, gps, gas, gbo, ha, hb1, hbo, hb2, e', H', ho, q⟩
    ·exact ⟨_, _, .cons (.vcall hw hop hfx hf hro) ho, q⟩
    ·exact ⟨_, _, .cons (.ycall hw hop hfx hb (by simpa using hl) ha hb1 hbo hb2) ho, q⟩
   all_goals
    obtain ⟨v, H1, hv, e', H', ho, q⟩ := h
    exact ⟨_, _, .cons (.ev hw (by rw [hop]; exact hv)) ho, q⟩
  ·rename_i hw; obtain ⟨e', H', ho, q⟩ := h; exact ⟨_, _, .cons (.skip hw) ho, q⟩
  ·exact h.elim
@[simp] theorem WO_op (base : Nat) (d : Option Nat) (s : SOp) (os : List SOper) : WO G base (⟨d, s, none⟩ :: os) K e H Q = Ws G base ⟨d, s, none⟩ os K e H Q s := by
 rw [WO_cons]; rfl
@[simp] theorem WO_guard (base : Nat) (d : Option Nat) (s : SOp) (g : Nat) (want : Bool) (os : List SOper) : WO G base (⟨d, s, some (g, want)⟩ :: os) K e H Q = guardW (e g) want G base ⟨d, s, none⟩ os K e H Q := by
 rw [WO_cons]
 have hs : Ws G base ⟨d, s, some (g, want)⟩ os K e H Q s = Ws G base ⟨d, s, none⟩ os K e H Q s := by cases s <;> rfl
 unfold wanted guardW
 simp only [hs]
 apply propext
 constructor
 ·intro h
  cases hg : e g <;> rw [hg] at h <;> simp only at h
  ·exact .inr ⟨rfl, h⟩
  ·rename_i t
   refine .inl ⟨t, rfl, ?_⟩
   cases t <;> cases want <;> simpa using h
 ·rintro (⟨t, hg, h⟩ | ⟨hg, h⟩)
  ·rw [hg]
   cases t <;> cases want <;> simpa using h
  ·rw [hg]; exact h
theorem guardW_bool (t want : Bool) (base : Nat) (o : SOper) (os : List SOper) : guardW (.bool t) want G base o os K e H Q = (if t = want then Ws G base o os K e H Q o.op else WO G base os K (e.put o.dst .skp) H Q) := by
 apply propext
 constructor
 ·rintro (⟨t', h, q⟩ | ⟨h, q⟩)
  ·cases h; exact q
  ·cases h
 ·exact fun q => .inl ⟨_, rfl, q⟩
@[simp] theorem guardW_skp (want : Bool) (base : Nat) (o : SOper) (os : List SOper) : guardW .skp want G base o os K e H Q = WO G base os K (e.put o.dst .skp) H Q := by
 apply propext
 constructor
 ·rintro (⟨t', h, q⟩ | ⟨h, q⟩)
  ·cases h
  ·exact q
 ·exact fun q => .inr ⟨rfl, q⟩
@[simp] theorem guardW_tt (base : Nat) (o : SOper) (os : List SOper) : guardW (.bool true) true G base o os K e H Q = Ws G base o os K e H Q o.op := by rw [guardW_bool]; simp
@[simp] theorem guardW_ff (base : Nat) (o : SOper) (os : List SOper) : guardW (.bool false) false G base o os K e H Q = Ws G base o os K e H Q o.op := by rw [guardW_bool]; simp
@[simp] theorem guardW_tf (base : Nat) (o : SOper) (os : List SOper) : guardW (.bool true) false G base o os K e H Q = WO G base os K (e.put o.dst .skp) H Q := by rw [guardW_bool]; simp
@[simp] theorem guardW_ft (base : Nat) (o : SOper) (os : List SOper) : guardW (.bool false) true G base o os K e H Q = WO G base os K (e.put o.dst .skp) H Q := by rw [guardW_bool]; simp
theorem W_loop {l : List Nat} {c : SCode} (I : Nat → Env → Heap → Prop) (k : Nat) (h0 : I k ((keepE l e).cl H.length) (trunc H.length H))
  (hr : ∀ k e' H', I k e' H' → W G c [] e' H' (fun x e1 H1 => match x with
   | .nx => ∃ j, j < k ∧ I j ((keepE l e1).cl H.length) (trunc H.length H1)
   | x => Wr G x K e1 H1 Q)) : W G (.loop l c) K e H Q := by
 have key : ∀ (k : Nat) (e0 : Env) (H0 : Heap), I k ((keepE l e0).cl H.length) (trunc H.length H0) → ∃ x e' H', Big G (.L H.length l c e0 H0 x e' H') ∧ Wk G K Q x e' H' := by
  intro k
  induction k using Nat.strongRecOn with
  | _ k ih =>
   intro e0 H0 hI
   obtain ⟨x, e1, H1, hb, hq⟩ := hr k _ _ hI
   cases x with
   | nx =>
    obtain ⟨j, hj, hI'⟩ := hq
    obtain ⟨x, e2, H2, hb2, hq2⟩ := ih j hj e1 H1 hI'
    exact ⟨x, e2, H2, .round hb hb2, hq2⟩
   | exit id => exact ⟨_, _, _, .last hb (by simp), hq⟩
   | ret => exact ⟨_, _, _, .last hb (by simp), hq⟩
 obtain ⟨x, e', H', hb, hq⟩ := key k e H h0
 exact ⟨x, e', H', .loop hb, hq⟩
def QG (res : List ResV) (r : V) (H' : Heap) (x : Ex) (e1 : Env) (H1 : Heap) : Prop := (x = .nx ∨ x = .ret) ∧ H1 = H' ∧ ∃ vs, evRess e1 H1 res = some vs ∧ resOf vs = r
@[simp] theorem QG_nx (res : List ResV) (r : V) (H' : Heap) (e1 : Env) (H1 : Heap) : QG res r H' .nx e1 H1 = (H1 = H' ∧ ∃ vs, evRess e1 H1 res = some vs ∧ resOf vs = r) := by simp [QG]
@[simp] theorem QG_ret (res : List ResV) (r : V) (H' : Heap) (e1 : Env) (H1 : Heap) : QG res r H' .ret e1 H1 = (H1 = H' ∧ ∃ vs, evRess e1 H1 res = some vs ∧ resOf vs = r) := by simp [QG]
theorem F_of {f nt : Nat} {body : SCode} {res : List ResV} {args : List V} {r : V} {H' : Heap} (hg : G f = some ⟨nt, body, res⟩) (hl : args.length ≤ nt)
  (h : W G body [] (mkE (idxE 0 args)) H (QG res r H')) : Big G (.F f args H r H') := by
 obtain ⟨x, e1, H1, hb, hx, rfl, vs, hvs, rfl⟩ := h
 rw [← envOf_eq] at hb
 exact .fn hg hl hb hx hvs
def FP (G : Tbl) (f : Nat) (args : List V) (r : V) : Prop := ∃ r' H', Big G (.F f args [] r' H') ∧ (frz H' r').out = r
def QF (res : List ResV) (R : V → Prop) (x : Ex) (e1 : Env) (H1 : Heap) : Prop := (x = .nx ∨ x = .ret) ∧ ∃ vs, evRess e1 H1 res = some vs ∧ R (frz H1 (resOf vs)).out
def endV (o : Option (List V)) (H1 : Heap) (R : V → Prop) : Prop := ∃ vs, o = some vs ∧ R (frz H1 (resOf vs)).out
@[simp] theorem endV_some (vs : List V) (H1 : Heap) (R : V → Prop) : endV (some vs) H1 R = R (frz H1 (resOf vs)).out := by simp [endV]
@[simp] theorem endV_none (H1 : Heap) (R : V → Prop) : endV none H1 R = False := by simp [endV]
@[simp] theorem QF_nx (res : List ResV) (R : V → Prop) (e1 : Env) (H1 : Heap) : QF res R .nx e1 H1 = endV (evRess e1 H1 res) H1 R := by simp [QF, endV]
@[simp] theorem QF_ret (res : List ResV) (R : V → Prop) (e1 : Env) (H1 : Heap) : QF res R .ret e1 H1 = endV (evRess e1 H1 res) H1 R := by simp [QF, endV]
theorem FP_of {f nt : Nat} {body : SCode} {res : List ResV} {args : List V} {r : V} (hg : G f = some ⟨nt, body, res⟩) (hl : args.length ≤ nt)
  (h : W G body [] (mkE (idxE 0 args)) [] (QF res (· = r))) : FP G f args r := by
 obtain ⟨x, e1, H1, hb, hx, vs, hvs, hr⟩ := h
 rw [← envOf_eq] at hb
 exact ⟨_, H1, .fn hg hl hb hx hvs, hr⟩
theorem callP_of {f : Nat} {args : List V} {r : V} {base : Nat} {d : Option Nat} {os : List SOper} (h : FP G f args r) (hr : WO G base os K (e.put d r) H Q) : callP G f args base d os K e H Q := by
 obtain ⟨r', H', hb, hc⟩ := h
 exact ⟨r', H', hb, by show WO G base os K (e.put d (frz H' r').out) H Q; rw [hc]; exact hr⟩
theorem callV_of {f : Nat} {cap args : List V} {r : V} {H1 : Heap} {ro : Bool} {base : Nat} {d : Option Nat} {os : List SOper} (h : Big G (.F f (args ++ cap) H r H1)) (hro : ro = true → trunc H.length H1 = H)
  (hr : WO G base os K (e.put d (r.cl H.length)) (trunc H.length H1) Q) : callV G ro (.fn f cap) args base d os K e H Q := .inl ⟨f, cap, rfl, r, H1, h, hro, hr⟩
theorem callS_of {f : Nat} {args : List V} {r : V} {H1 : Heap} {base : Nat} {d : Option Nat} {os : List SOper} (h : Big G (.F f args H r H1))
  (hr : WO G base os K (e.put d (r.cl H.length)) (trunc H.length H1) Q) : callS G f args base d os K e H Q := ⟨r, H1, h, hr⟩
end
end Go.Ev
/- Simplified code of Go functions, by scode.py. -/
namespace Go.Ev
/-- hurdle/word.Do -/
def c_word_Do : SFn := ⟨58,rS [mC 6 (.c (.int .u32 0)),mC 7 kF] (.seq (rS [mM 8 0] (.block 0 (rS [bX 10 .eql 8 (kI 4),mM 9 10] (cD 9 (rS [mM 11 1,mM 12 2,bT 13 .add 11 12,mM 6 13,mC 7 kT] .ret) (rS [bX 15 .eql 8 (kI 20),mM 14 15] (cD 14 (rS [mM 16 1,mM 17 2,bT 18 .sub 16 17,mM 6 18,mC 7 kT] .ret) (rS [bX 20 .eql 8 (kI 36),mM 19 20] (cD 19 (rS [mM 21 1,mM 22 2,bT 23 .mul 21 22,mM 6 23,mC 7 kT] .ret) (rS [bX 25 .eql 8 (kI 52),mM 24 25] (cD 24 (.seq (rS [mM 26 2,oS 27 (.bin .eql (.t 26) (.c (.int .u32 0)))] (cD 27 (rS [mC 6 (.c (.int .u32 0)),mC 7 kF] .ret) .skip)) (kS [1,2] (rS [mM 28 1,mM 29 2,bT 30 .quo 28 29,mM 6 30,mC 7 kT] .ret))) (rS [bX 32 .eql 8 (kI 68),mM 31 32] (cD 31 (rS [mM 33 1,mM 34 2,bT 35 .or 33 34,mM 6 35,mC 7 kT] .ret) (rS [bX 37 .eql 8 (kI 84),mM 36 37] (cD 36 (rS [mM 38 1,mM 39 2,bT 40 .and 38 39,mM 6 40,mC 7 kT] .ret) (rS [bX 42 .eql 8 (kI 100),mM 41 42] (cD 41 (rS [mM 43 1,mM 44 2,oS 45 (.bin .and (.t 44) (.c (.int .u32 31))),bT 46 .shl 43 45,mM 6 46,mC 7 kT] .ret) (rS [bX 48 .eql 8 (kI 116),mM 47 48] (cD 47 (rS [mM 49 1,mM 50 2,oS 51 (.bin .and (.t 50) (.c (.int .u32 31))),bT 52 .shr 49 51,mM 6 52,mC 7 kT] .ret) (rS [bX 54 .eql 8 (kI 164),mM 53 54] (cD 53 (rS [mM 55 1,mM 56 2,bT 57 .xor 55 56,mM 6 57,mC 7 kT] .ret) .skip)))))))))))))))))))) (kS [] (rS [mC 6 (.c (.int .u32 0)),mC 7 kF] .ret))),[.tmp 6,.tmp 7]⟩
end Go.Ev
