/- Code and functions: what the relation says is what the model does. -/
import Derived.Test.YtdomogpjchpbnaaEvM
import Derived.Scope
namespace Go.Ev
open Go Go.RowKit
set_option linter.unusedSimpArgs false
set_option linter.unusedVariables false

variable {P : Program} {M M' : Mm} {H H1 H2 : Heap} {w w' : World} {fm : Fm}

/-- Code without the scope around it. -/
def bodyOf : Code → Code
  | .scope c => c
  | c => c
theorem wp_bodyOf {P : Program} {c : Code} {Q : Exit → Act → World → Prop} {a : Act} {w : World} (h : (bodyOf c).wp P (Exit.noGoto Q) a w) : c.wp P Q a w := by
  have all : c.wp P (Exit.noGoto Q) a w → c.wp P Q a w := fun h b k cs => by
    obtain ⟨e, a1, w1, hq, harr⟩ := h b k cs
    refine ⟨e, a1, w1, ?_, harr⟩
    cases e <;> first | exact hq | exact hq.elim
  cases c <;> first | exact wp_scope_straight h | exact all h
/-- The checker of code. -/
def chkC (P : Program) (fm : Fm) (n : Nat) : SCode → Code → Bool
  | .seq (.keep _) s, c => chkC P fm n s c
  | .seq (.give _ _) s, c => chkC P fm n s c
  | .seq (.freeze _) s, c => chkC P fm n s c
  | .seq s1 s2, .seq c1 c2 => chkC P fm n s1 c1 && chkC P fm n s2 (bodyOf c2)
  | .skip, .skip => true
  | .skip, .label _ => true
  | .region _ ss, .region _ ops draw => chkOpers P fm n ops ops.toList ss && (!draw || drawOk ops ss)
  | .cond x s1 s2, .cond c c1 c2 => chkX fm c x && chkC P fm n s1 c1 && chkC P fm n s2 c2
  | .block id s, .block id' c => id == id' && chkC P fm n s c
  | .loop _ s, .loop c => chkC P fm n s c
  | .exit id, .exit id' => id == id'
  | .ret, .ret => true
  | _, _ => false

def exOf : Ex → Exit
  | .nx => .normal
  | .exit id => .exit id
  | .ret => .ret

/-- What is to be shown behind code. -/
def Post (M : Mm) (H : Heap) (w : World) (n : Nat) (k : Nat) (x : Ex) (e' : Env) (H' : Heap) (Q : Exit → Act → World → Prop) : Prop :=
  ∀ a' w' M', RelT M' w' e' a' n → HRel M' w' H' → Stp M H w M' H' w' → Ids M M' k → Q (exOf x) a' w'

def COK (P : Program) (fm : Fm) (s : SCode) (e : Env) (H : Heap) (x : Ex) (e' : Env) (H' : Heap) : Prop :=
  H.length ≤ H'.length ∧ ∀ (n : Nat) (c : Code) (M : Mm) (w : World) (a : Act) (Q : Exit → Act → World → Prop), chkC P fm n s c = true → RelT M w e a n → HRel M w H → M.fm = fm →
    Post M H w n H.length x e' H' Q → c.wp P Q a w

/-- A loop's next round, from its head. -/
def LoopWp (P : Program) (c : Code) (Q : Exit → Act → World → Prop) (a : Act) (w : World) : Prop :=
  ∀ (b : Frame) (k : List Item) (cs : List Frame), ∃ e a' w', Q e a' w' ∧ Arrives P (lone (b.at a (.code c :: .inLoop c :: k)) cs w) b k cs e a' w'

def LOK (P : Program) (fm : Fm) (m : Nat) (s : SCode) (e : Env) (H : Heap) (x : Ex) (e' : Env) (H' : Heap) : Prop :=
  m ≤ H.length → (m ≤ H'.length ∧ ∀ (n : Nat) (c : Code) (M : Mm) (w : World) (a : Act) (Q : Exit → Act → World → Prop), chkC P fm n s c = true → RelT M w e a n → HRel M w H → M.fm = fm →
    Post M H w n m x e' H' Q → LoopWp P c Q a w)

def Mot (P : Program) (fm : Fm) : J → Prop
  | .F f args H r H' => FOK P fm f args H r H'
  | .S base o e H e' H' => SS P fm base o e H e' H'
  | .O base os e H e' H' => OO P fm base os e H e' H'
  | .C s e H x e' H' => COK P fm s e H x e' H'
  | .L m l s e H x e' H' => LOK P fm m s e H x e' H'

def chkRes (P : Program) : List ResultVar → List ResV → Bool
  | [], [] => true
  | .tmp t :: rs, .tmp t' :: ss => t == t' && chkRes P rs ss
  | .cell t ty :: rs, .cell t' sz ag :: ss => t == t' && tyOk P ty sz ag && chkRes P rs ss
  | _, _ => false

theorem wp_label {P : Program} {l : Nat} {Q : Exit → Act → World → Prop} {a : Act} {w : World} (h : Q .normal a w) : (Code.label l).wp P Q a w := fun b k cs =>
  ⟨.normal, a, w, h, .one (step_lone_go (by simp [stepG, stepG.exec, Frame.at]))⟩
def chkFn (P : Program) (fm : Fm) (fid : FuncId) (fn : SFn) : Bool :=
  match P.funcs[fid]? with
  | some F => match F.body with
    | some c => F.ntmps == fn.nt && F.name != "runtime.NumGoroutine" && chkRes P F.results.toList fn.res && chkC P fm fn.nt fn.body (bodyOf c)
    | none => false
  | none => false

theorem relT_keep {e : Env} {a : Act} {n : Nat} (l : List Nat) (ht : RelT M w e a n) : RelT M w (keepE l e) a n :=
  ⟨ht.size, ht.defers, fun i => by
    by_cases h : i ∈ l
    · have : keepE l e i = e i := by simp only [keepE, h, if_true]
      rw [this]; exact ht.rel i
    · have : keepE l e i = .undef := by simp only [keepE, h, if_false]
      rw [this]; simp only [Enc], ht.glo⟩
theorem relT_upto {e : Env} {a : Act} {n m : Nat} (ht : RelT M w e a n) : RelT (M.upto m) w (e.cl m) a n :=
  ⟨ht.size, ht.defers, fun i => Enc.upto m (ht.rel i), fun g cs hg => by have := Enc.upto m (ht.glo g cs hg); simpa only [V.cl] using this⟩

theorem chk_ghost {n : Nat} {s1 s2 : SCode} {c : Code} (h : chkC P fm n (.seq s1 s2) c = true) :
    ((∃ l, s1 = .keep l) ∨ (∃ t o, s1 = .give t o) ∨ (∃ t, s1 = .freeze t)) ∧ chkC P fm n s2 c = true ∨ ∃ c1 c2, c = .seq c1 c2 ∧ chkC P fm n s1 c1 = true ∧ chkC P fm n s2 (bodyOf c2) = true := by
  cases s1
  case keep l => simp only [chkC] at h; exact .inl ⟨.inl ⟨l, rfl⟩, h⟩
  case give t o => simp only [chkC] at h; exact .inl ⟨.inr (.inl ⟨t, o, rfl⟩), h⟩
  case freeze t => simp only [chkC] at h; exact .inl ⟨.inr (.inr ⟨t, rfl⟩), h⟩
  all_goals
    right
    cases c <;> simp only [chkC, Bool.false_eq_true, Bool.and_eq_true] at h
    exact ⟨_, _, rfl, h.1, h.2⟩

theorem give_sound {e e1 : Env} {t : Nat} {off : Option Nat} {a : Act} {n : Nat} (h : giveIt e H t off = some (e1, H1)) (ht : RelT M w e a n) (hr : HRel M w H) (htn : ∀ v, e t = v → v ≠ .undef → True) :
    ∃ M', RelT M' w e1 a n ∧ HRel M' w H1 ∧ Stp M H w M' H1 w ∧ Ids M M' H.length ∧ H.length ≤ H1.length := by
  have hpad := hrel_pad hr 1
  have spad := stp_pad M H w 1
  have hrep : List.replicate 1 (none : Option Blk) = [none] := rfl
  rw [hrep] at hpad spad
  have hfree : isFree (H ++ [none]) H.length = true := by rw [isFree_iff]; simp
  have hal := free_al hpad hfree
  have hbl0 : blOf M (H ++ [none]) H.length = none := by unfold blOf; simp
  have zone : ∀ k, Stp M H w (M.zon H.length ⟨k, none, k, 0⟩) (H ++ [some (.zone k)]) w ∧ Ids M (M.zon H.length ⟨k, none, k, 0⟩) H.length ∧ HRel (M.zon H.length ⟨k, none, k, 0⟩) w (H ++ [some (.zone k)]) := by
    intro k
    obtain ⟨s, i, r⟩ := stp_zone (w' := w) (id := H.length) (z := ⟨k, none, k, 0⟩) hpad (.inl hfree) rfl rfl rfl (Nat.le_refl _) (fun _ _ _ => rfl) (fun _ _ _ _ _ _ => rfl) (fun b hb => by cases hb) (fun b l _ hb _ => by cases hb)
      (fun ha => by rw [hal] at ha; cases ha) rfl
    have hset : (H ++ [none]).set H.length (some (Blk.zone k)) = H ++ [some (.zone k)] := by simp
    rw [hset] at s r
    exact ⟨spad.trans s, i.mono (by simp), r⟩
  have encOwn : ∀ {es : List (List V)} {x : Value}, Enc M w (.vs es .full) x → Enc (M.zon H.length ⟨es.length, none, es.length, 0⟩) w (.vs es (.own H.length)) x := by
    intro es x he
    obtain ⟨s, i, r⟩ := zone es.length
    have he' := Enc.step s hr i he
    simp only [Enc] at he' ⊢
    obtain ⟨p, ad, cap, hv, hc, hs, ht⟩ := he'
    refine ⟨p, ad, cap, hv, hc, hs, ?_⟩
    simp only [TkOk] at ht ⊢
    simp only [Mm.zon, decide_true, Bool.true_or, if_true, true_and]
    exact ⟨Nat.le_refl _, fun _ => ⟨ht, ht⟩⟩
  cases off with
  | none =>
    simp only [giveIt] at h
    split at h
    · rename_i es hes
      cases h
      obtain ⟨s, i, r⟩ := zone es.length
      refine ⟨_, ⟨ht.size, ht.defers, fun j => ?_, ht.glo.step s hr i⟩, r, s, i, by simp⟩
      simp only [Env.put_some]
      split
      · rename_i hj
        subst hj
        have := ht.rel j
        rw [hes] at this
        exact encOwn this
      · exact Enc.step s hr i (ht.rel j)
    · rename_i es q hes
      cases h
      refine ⟨M, ⟨ht.size, ht.defers, fun j => ?_, ht.glo⟩, hr, Stp.refl _ _ _, Ids.refl _ _, Nat.le_refl _⟩
      simp only [Env.put_some]
      split
      · rename_i hj; subst hj; rw [← hes]; exact ht.rel j
      · exact ht.rel j
    · cases h
  | some off =>
    simp only [giveIt] at h
    split at h
    case h_2 => cases h
    rename_i id o hp
    split at h
    case h_2 => cases h
    rename_i cs hb
    split at h
    case h_3 => cases h
    · rename_i es hes
      cases h
      obtain ⟨s, i, r⟩ := zone es.length
      have hlt : id < H.length := (List.getElem?_eq_some_iff.1 hb).1
      have hb' : (H ++ [some (Blk.zone es.length)])[id]? = some (some (.cells cs)) := by rw [List.getElem?_append_left hlt]; exact hb
      have h0 := r.rel id _ hb'
      simp only [BRel] at h0
      obtain ⟨hsc, hl0, xs, te, hh, he⟩ := h0
      have hb0 := hr.rel id _ hb
      simp only [BRel] at hb0
      obtain ⟨_, _, xs0, te0, hh0, he0⟩ := hb0
      have hj : (M.zon H.length ⟨es.length, none, es.length, 0⟩).j id = M.j id := rfl
      rw [hj] at hh
      have hxx : xs0 = xs := by rw [hh0] at hh; cases hh; rfl
      subst hxx
      have hcs : EncL (M.zon H.length ⟨es.length, none, es.length, 0⟩) w (cs.set (o + off) (.vs es (.own H.length))) xs0.toList := by
        refine encL_of (by have := encL_length he; simpa using this) fun k c x hc hx => ?_
        rw [List.getElem?_set] at hc
        split at hc
        · rename_i hk
          subst hk
          split at hc
          · cases hc
            obtain ⟨x', hx', hex⟩ := encL_get he0 hes
            rw [hx] at hx'; cases hx'
            exact encOwn hex
          · cases hc
        · obtain ⟨x', hx', hex⟩ := encL_get he hc
          rw [hx] at hx'; cases hx'
          exact hex
      obtain ⟨s2, i2, r2⟩ := stp_set (w := w) (ys := xs0) r hb' (by rw [hj]; exact hh0) hcs (fun c hc => by
        rcases List.mem_or_eq_of_mem_set hc with hc | hc
        · exact hsc c hc
        · rw [hc]; rfl)
      have hself : w.setRow ((M.zon H.length ⟨es.length, none, es.length, 0⟩).j id) xs0 = w := by rw [hj]; exact setRow_self w (M.j id) xs0 te0 (0, 0) hh0
      rw [hself] at s2 r2
      have hset : (H ++ [some (Blk.zone es.length)]).set id (some (.cells (cs.set (o + off) (.vs es (.own H.length))))) = H.set id (some (.cells (cs.set (o + off) (.vs es (.own H.length))))) ++ [some (.zone es.length)] := by
        rw [List.set_append_left _ _ hlt]
      rw [hset] at s2 r2
      refine ⟨_, ⟨ht.size, ht.defers, fun j => Enc.step s2 r i2 (Enc.step s hr i (ht.rel j)), (ht.glo.step s hr i).step s2 r i2⟩, r2, s.trans s2, i.trans i2 (by simp), by simp⟩
    · cases h
      exact ⟨M, ht, hr, Stp.refl _ _ _, Ids.refl _ _, Nat.le_refl _⟩

/-- One block is frozen. -/
theorem froz_one {id : Nat} {ds : List V} (hr : HRel M w H) (hb : H[id]? = some (some (.cells ds))) (hp : ∀ c ∈ ds, c.pure = true) :
    Stp M H w (M.limit (M.j id) ds.length) (H.set id (some (.froz ds))) w ∧ Ids M (M.limit (M.j id) ds.length) H.length ∧ HRel (M.limit (M.j id) ds.length) w (H.set id (some (.froz ds))) := by
  have hb' := hr.rel id _ hb
  simp only [BRel] at hb'
  obtain ⟨hsc, hl0, xs, te, hh, he⟩ := hb'
  refine stp_put hr hb rfl rfl hl0 ds.length rfl rfl rfl rfl (fun _ _ => rfl) fun hst hid => ?_
  simp only [BRel]
  exact ⟨hp, by simp [Mm.limit], xs, te, hh, EncL.step hst hr hid he⟩
/-- A slice of a frozen block. -/
theorem froz_vs {id off k sz : Nat} {ds : List V} {x : Value} (hr : HRel M w H) (hb : H[id]? = some (some (.froz ds))) (hle : off + k * sz ≤ ds.length) (h : Enc M w (.rs id off k sz) x) :
    Enc M w (.vs (chunks sz k (ds.drop off)) .no) x := by
  have hb' := hr.rel id _ hb
  simp only [BRel] at hb'
  obtain ⟨hp, hl, xs, te, hh, hE⟩ := hb'
  simp only [Enc] at h
  obtain ⟨ha, cap, rfl, hcap⟩ := h
  obtain ⟨h1, h2, h3⟩ := chunks_flat (sz := sz) (k := k) (cs := ds.drop off) (by rw [List.length_drop]; omega)
  simp only [Enc]
  refine ⟨fun e he c hc => hp c (List.mem_of_mem_drop ((h3 e he).2 c hc)), some ⟨M.j id, off, none⟩, cap, by rw [h2], by rw [h2]; exact hcap, ⟨.inr rfl, ⟨sz, fun e he => (h3 e he).1⟩, ?_⟩, trivial⟩
  rw [encRows_iff, h1]
  refine encRow_of fun i c hc => ?_
  rw [List.getElem?_take] at hc
  split at hc
  · rw [List.getElem?_drop] at hc
    obtain ⟨x, hx, hex⟩ := encL_get hE hc
    refine ⟨x, ?_, fun l hl2 => ?_, hex⟩
    · rw [cell_of_row w (M.j id) (off + i) xs te (0, 0) hh]
      simpa using hx
    · rw [hl] at hl2; cases hl2; exact (List.getElem?_eq_some_iff.1 hc).1
  · cases hc

theorem frzL_sound : ∀ {cs : List V} {xs : List Value} {H H1 : Heap} {M : Mm} {cs' : List V}, frzL H cs = some (cs', H1) → HRel M w H → EncL M w cs xs →
    ∃ M', Stp M H w M' H1 w ∧ Ids M M' H.length ∧ HRel M' w H1 ∧ H.length = H1.length ∧ EncL M' w cs' xs ∧ ((∀ c ∈ cs, c.scal = true) → ∀ c ∈ cs', c.scal = true)
  | [], xs, H, H1, M, cs', h, hr, he => by
    simp only [frzL, Option.some.injEq, Prod.mk.injEq] at h
    obtain ⟨rfl, rfl⟩ := h
    exact ⟨M, Stp.refl _ _ _, Ids.refl _ _, hr, rfl, he, fun _ => by simp⟩
  | c :: cs, xs, H, H1, M, cs', h, hr, he => by
    simp only [EncL] at he
    obtain ⟨x, xs', rfl, he1, he2⟩ := he
    have plain : ∀ (r : List V × Heap), frzL H cs = some r → cs' = c :: r.1 → H1 = r.2 →
        ∃ M', Stp M H w M' H1 w ∧ Ids M M' H.length ∧ HRel M' w H1 ∧ H.length = H1.length ∧ EncL M' w cs' (x :: xs') ∧ ((∀ d ∈ c :: cs, d.scal = true) → ∀ d ∈ cs', d.scal = true) := by
      rintro ⟨cs2, H2⟩ hf rfl rfl
      obtain ⟨M', s1, i1, r1, l1, e1, p1⟩ := frzL_sound hf hr he2
      refine ⟨M', s1, i1, r1, l1, by simp only [EncL]; exact ⟨x, xs', rfl, Enc.step s1 hr i1 he1, e1⟩, fun hs d hd => ?_⟩
      simp only [List.mem_cons] at hd
      rcases hd with rfl | hd
      · exact hs _ (by simp)
      · exact p1 (fun d hd => hs d (by simp [hd])) d hd
    cases c with
    | rs id off k sz =>
      simp only [frzL] at h
      split at h
      · rename_i ds hb
        split at h
        case isFalse => cases h
        rename_i hc
        obtain ⟨hle, hpu⟩ := hc
        split at h
        case h_2 => cases h
        rename_i cs2 H2 hf
        cases h
        obtain ⟨s0, i0, r0⟩ := froz_one hr hb (List.all_eq_true.1 hpu)
        have hlt : id < H.length := (List.getElem?_eq_some_iff.1 hb).1
        have hb2 : (H.set id (some (Blk.froz ds)))[id]? = some (some (.froz ds)) := List.getElem?_set_self hlt
        obtain ⟨M', s1, i1, r1, l1, e1, p1⟩ := frzL_sound hf r0 (EncL.step s0 hr i0 he2)
        have hv := froz_vs r0 hb2 hle (Enc.step s0 hr i0 he1)
        refine ⟨M', s0.trans s1, i0.trans i1 (by simp), r1, by rw [← l1]; simp, by simp only [EncL]; exact ⟨x, xs', rfl, Enc.step s1 r0 i1 hv, e1⟩, fun hs d hd => ?_⟩
        simp only [List.mem_cons] at hd
        rcases hd with rfl | hd
        · rfl
        · exact p1 (fun d hd => hs d (by simp [hd])) d hd
      · rename_i ds hb
        split at h
        case isFalse => cases h
        rename_i hle
        split at h
        case h_2 => cases h
        rename_i cs2 H2 hf
        cases h
        obtain ⟨M', s1, i1, r1, l1, e1, p1⟩ := frzL_sound hf hr he2
        have hv := froz_vs hr hb hle he1
        refine ⟨M', s1, i1, r1, l1, by simp only [EncL]; exact ⟨x, xs', rfl, Enc.step s1 hr i1 hv, e1⟩, fun hs d hd => ?_⟩
        simp only [List.mem_cons] at hd
        rcases hd with rfl | hd
        · rfl
        · exact p1 (fun d hd => hs d (by simp [hd])) d hd
      · cases h
    | _ =>
      simp only [frzL] at h
      split at h
      · rename_i cs2 H2 hf
        cases h
        exact plain _ hf rfl rfl
      · cases h

/-- A block's cells, told in another way. -/
theorem hrel_swap (hr : HRel M w H) {id : Nat} {cs ds : List V} {xs : Array Value} {te : TypeId} (hb : H[id]? = some (some (.cells ds))) (hx : w.heap[M.j id]? = some (.cells xs te (0, 0))) (he : EncL M w cs xs.toList) (hs : ∀ c ∈ cs, c.scal = true) :
    HRel M w (H.set id (some (.cells cs))) ∧ Stp M H w M (H.set id (some (.cells cs))) w := by
  have hlt : id < H.length := (List.getElem?_eq_some_iff.1 hb).1
  have hbl : ∀ i, blOf M (H.set id (some (.cells cs))) i = blOf M H i := by
    intro i
    by_cases e : i = id
    · subst e
      unfold blOf
      rw [List.getElem?_set_self hlt, hb]
    · unfold blOf; rw [getElem?_set_ne e]
  have hl : M.lim (M.j id) = some 0 := by have := hr.rel id _ hb; simp only [BRel] at this; exact this.2.1
  refine ⟨⟨fun i => ?_, fun i blk h => ?_, fun i i' b h1 h2 => ?_, hr.glo⟩, ?_⟩
  · by_cases e : i = id
    · subst e
      rw [List.getElem?_set_self hlt]
      have := hr.dom i
      rw [hb] at this
      exact ⟨fun _ => ⟨_, rfl⟩, fun _ => this.2 ⟨_, rfl⟩⟩
    · rw [getElem?_set_ne e]; exact hr.dom i
  · by_cases e : i = id
    · subst e
      rw [List.getElem?_set_self hlt] at h
      cases h
      simp only [BRel]
      exact ⟨hs, hl, xs, te, hx, he⟩
    · rw [getElem?_set_ne e] at h; exact hr.rel i blk h
  · rw [hbl] at h1 h2; exact hr.inj i i' b h1 h2
  · exact ⟨rfl, rfl, rfl, Nat.le_refl _, fun _ _ _ => rfl, fun _ _ _ _ _ _ => rfl, fun _ _ h => h, fun _ l _ h => ⟨l, h, Nat.le_refl _⟩, fun _ _ _ => rfl, fun b _ ho => by obtain ⟨i, hi⟩ := ho; rw [hbl] at hi; exact ⟨i, hi⟩, rfl⟩

theorem freeze_sound {e e1 : Env} {t : Nat} {a : Act} {n : Nat} (h : frzIt e H t = some (e1, H1)) (ht : RelT M w e a n) (hr : HRel M w H) :
    ∃ M', RelT M' w e1 a n ∧ HRel M' w H1 ∧ Stp M H w M' H1 w ∧ Ids M M' H.length ∧ H.length ≤ H1.length := by
  have h0 := ht.rel t
  have put : ∀ (M' : Mm) (H1 : Heap) (v : V), Stp M H w M' H1 w → Ids M M' H.length → Enc M' w v (a.tmps.getD t undef) → RelT M' w (e.put (some t) v) a n := by
    intro M' H1 v s1 i1 hv
    refine ⟨ht.size, ht.defers, fun j => ?_, ht.glo.step s1 hr i1⟩
    simp only [Env.put_some]
    split
    · rename_i hj; subst hj; exact hv
    · exact Enc.step s1 hr i1 (ht.rel j)
  unfold frzIt at h
  split at h
  · rename_i cs hcs
    split at h
    case h_2 => cases h
    rename_i cs' H' hf
    cases h
    rw [hcs] at h0
    simp only [Enc] at h0
    obtain ⟨hsc, xs, hx, he⟩ := h0
    obtain ⟨M', s1, i1, r1, l1, e1, p1⟩ := frzL_sound hf hr he
    exact ⟨M', put M' _ _ s1 i1 (by simp only [Enc]; exact ⟨p1 hsc, xs, hx, e1⟩), r1, s1, i1, Nat.le_of_eq l1⟩
  · rename_i id off hcs
    split at h
    case h_2 => cases h
    rename_i cs hb
    split at h
    case h_2 => cases h
    rename_i cs' H' hf
    split at h
    case h_2 => cases h
    rename_i ds hb'
    cases h
    have hb0 := hr.rel id _ hb
    simp only [BRel] at hb0
    obtain ⟨hsc, _, xs, te, hh, he⟩ := hb0
    obtain ⟨M', s1, i1, r1, l1, e1, p1⟩ := frzL_sound hf hr he
    have hlt : id < H.length := (List.getElem?_eq_some_iff.1 hb).1
    have hj : M'.j id = M.j id := (i1 id hlt ((hr.dom id).2 ⟨_, hb⟩)).2.1
    obtain ⟨r2, s2⟩ := hrel_swap r1 hb' (by rw [hj]; exact hh) e1 (p1 hsc)
    refine ⟨M', ⟨ht.size, ht.defers, fun j => Enc.step s1 hr i1 (ht.rel j), ht.glo.step s1 hr i1⟩, r2, s1.trans s2, i1, ?_⟩
    rw [List.length_set]
    exact Nat.le_of_eq l1
  · split at h
    case h_2 => cases h
    rename_i v' H' hf
    cases h
    obtain ⟨M', s1, i1, r1, l1, e1, p1⟩ := frzL_sound (xs := [a.tmps.getD t undef]) hf hr (by simp only [EncL]; exact ⟨_, _, rfl, h0, rfl⟩)
    simp only [EncL] at e1
    obtain ⟨x, xs', hx, e2, _⟩ := e1
    cases hx
    exact ⟨M', put M' _ _ s1 i1 e2, r1, s1, i1, Nat.le_of_eq l1⟩

theorem frzL_len : ∀ {cs : List V} {H H1 : Heap} {cs' : List V}, frzL H cs = some (cs', H1) → H1.length = H.length
  | [], H, H1, cs', h => by simp only [frzL, Option.some.injEq, Prod.mk.injEq] at h; rw [h.2]
  | c :: cs, H, H1, cs', h => by
    cases c <;> simp only [frzL] at h
    all_goals
      repeat' split at h
      all_goals first
        | (cases h; done)
        | (rename_i hf; cases h; have := frzL_len hf; simpa using this)
theorem freeze_len {e e1 : Env} {t : Nat} (h : frzIt e H t = some (e1, H1)) : H.length ≤ H1.length := by
  unfold frzIt at h
  repeat' split at h
  all_goals first
    | (cases h; done)
    | (rename_i hf; cases h; exact Nat.le_of_eq (frzL_len hf).symm)
    | (rename_i hf _ _ _; cases h; rw [List.length_set]; exact Nat.le_of_eq (frzL_len hf).symm)
theorem give_len {e e1 : Env} {t : Nat} {off : Option Nat} (h : giveIt e H t off = some (e1, H1)) : H.length ≤ H1.length := by
  cases off <;> simp only [giveIt] at h
  all_goals
    revert h
    repeat' split
    all_goals intro h
    all_goals first
      | (cases h; done)
      | (cases h; simp; done)

theorem run_loadVar_mk {t : TypeId} {sz : Nat} {ag : Bool} {b off : Nat} {xs : List Value} (hty : tyOk P t sz ag = true) (hl : xs.length = sz) (hc : w.rangeAt b off xs) :
    (loadVar t ⟨b, off, none⟩).run P w = .ok (mkR ag xs) w := by
  have := run_load_mk (P := P) hty hl hc
  simpa [Instr.loadAt, Instr.sureAddr] using this

def resM (tmps : Array Value) : ResultVar → Sem Value
  | .tmp t => pure (tmps.getD t undef)
  | .cell a t => do loadVar t (← asAddr (tmps.getD a undef))

theorem res_ok {e : Env} {a : Act} {n : Nat} (ht : RelT M w e a n) (hr : HRel M w H) : ∀ {rs : List ResultVar} {ss : List ResV} {vs : List V}, chkRes P rs ss = true → evRess e H ss = some vs →
    ∃ xs, (rs.mapM (resM a.tmps)).run P w = .ok xs w ∧ EncL M w vs xs
  | [], [], vs, _, h => by
    simp only [evRess, Option.some.injEq] at h
    subst h
    exact ⟨[], by simp, by simp only [EncL]⟩
  | [], _ :: _, _, h, _ => by simp [chkRes] at h
  | r :: rs, [], _, h, _ => by cases r <;> simp [chkRes] at h
  | r :: rs, s :: ss, vs, hc, h => by
    simp only [evRess] at h
    split at h
    case h_2 => cases h
    rename_i v vs' hv hvs
    simp only [Option.some.injEq] at h
    subst h
    have hone : chkRes P rs ss = true ∧ ∃ x, (resM a.tmps r).run P w = .ok x w ∧ Enc M w v x := by
      cases r <;> cases s <;> simp only [chkRes, Bool.false_eq_true, Bool.and_eq_true, beq_iff_eq] at hc
      · obtain ⟨rfl, hc⟩ := hc
        simp only [evRes, Option.some.injEq] at hv
        subst hv
        exact ⟨hc, _, rfl, ht.rel _⟩
      · rename_i t ty t' sz ag
        obtain ⟨⟨rfl, hty⟩, hc⟩ := hc
        refine ⟨hc, ?_⟩
        simp only [evRes] at hv
        split at hv
        case h_2 => cases hv
        rename_i id off hp
        split at hv
        case h_2 => cases hv
        rename_i cs hb
        split at hv
        case isFalse => cases hv
        rename_i hle
        have h1 := ht.rel t
        rw [hp] at h1
        simp only [Enc] at h1
        have h0 := hr.rel id _ hb
        simp only [BRel] at h0
        obtain ⟨hs, _, xs, te, hh, he⟩ := h0
        have hlen := encL_length he
        refine ⟨mkR ag ((xs.toList.drop off).take sz), ?_, mk_enc hv (encL_take (encL_drop he off) sz) (fun c hc => hs c (List.mem_of_mem_drop (List.mem_of_mem_take hc)))⟩
        have := run_loadVar_mk (P := P) (w := w) (b := M.j id) (off := off) (xs := (xs.toList.drop off).take sz) hty (by simp at hlen ⊢; omega) (fun j u hu => by
            rw [List.getElem?_take] at hu
            split at hu
            · rw [List.getElem?_drop] at hu
              rw [cell_of_row w (M.j id) (off + j) xs te (0, 0) hh]
              simpa using hu
            · cases hu)
        simp only [resM, h1.2, asAddr, Sem.run_bind, Sem.run_pure, Result.andThen_ok, this]
    obtain ⟨hc', x, hx, he⟩ := hone
    obtain ⟨xs, hxs, hes⟩ := res_ok ht hr hc' hvs
    refine ⟨x :: xs, ?_, by simp only [EncL]; exact ⟨x, xs, rfl, he, hes⟩⟩
    rw [List.mapM_cons, Sem.run_bind, hx, Result.andThen_ok, Sem.run_bind, hxs, Result.andThen_ok, Sem.run_pure]

theorem results_ok {e : Env} {a : Act} {n : Nat} {F : Func} {ss : List ResV} {vs : List V} (ht : RelT M w e a n) (hr : HRel M w H) (hc : chkRes P F.results.toList ss = true) (h : evRess e H ss = some vs) :
    ∃ x, (results F a.tmps).run P w = .ok x w ∧ Enc M w (resOf vs) x := by
  obtain ⟨xs, hxs, he⟩ := res_ok ht hr hc h
  have hA : (F.results.mapM (resM a.tmps)).run P w = .ok xs.toArray w := by
    rw [Array.mapM_eq_mapM_toList, Sem.run_map, hxs]
    rfl
  have hres : (results F a.tmps).run P w = .ok (if h : xs.toArray.size = 1 then xs.toArray[0] else .tuple xs.toArray) w := by
    have : results F a.tmps = (do let vs ← F.results.mapM (resM a.tmps); pure (if h : vs.size = 1 then vs[0] else .tuple vs)) := by
      unfold results
      congr 1
    rw [this, Sem.run_bind, hA, Result.andThen_ok, Sem.run_pure]
  refine ⟨_, hres, ?_⟩
  have hl := encL_length he
  match vs, he with
  | [], he =>
    simp only [EncL] at he
    subst he
    simp only [resOf, Enc]
    exact ⟨[], by simp, by simp only [EncL]⟩
  | [v], he =>
    simp only [EncL] at he
    obtain ⟨x, xs', rfl, h1, rfl⟩ := he
    simpa [resOf] using h1
  | v :: u :: vs, he =>
    have : ¬ xs.toArray.size = 1 := by simp at hl ⊢; omega
    rw [dif_neg this]
    simp only [resOf, Enc]
    exact ⟨xs, rfl, he⟩

/-- WHAT THE RELATION SAYS IS WHAT THE MODEL DOES. -/
theorem sound {G : Nat → Option SFn} (hG : ∀ f fn, G f = some fn → chkFn P fm (fm f) fn = true) {j : J} (h : Big G j) : Mot P fm j := by
  induction h with
  | fn hg hlen hb hx hres ih =>
    rename_i f fn args H x e' H' vs
    simp only [Mot] at ih ⊢
    refine ⟨ih.1, fun M w vargs hm hr hargs => ?_⟩
    have hc := hG f fn hg
    unfold chkFn at hc
    split at hc
    case h_2 => cases hc
    rename_i F hF
    split at hc
    case h_2 => cases hc
    rename_i c hbody
    simp only [Bool.and_eq_true, beq_iff_eq, bne_iff_ne] at hc
    obtain ⟨⟨⟨hnt, hname⟩, hcres⟩, hcc⟩ := hc
    refine ⟨⟨F, hF, by rw [hbody]; rfl, hname⟩, ?_⟩
    have hal := encL_length hargs
    refine calls_of_wp hF hbody ?_
    refine wp_bodyOf ?_
    refine ih.2 fn.nt (bodyOf c) M w _ _ hcc ⟨?_, rfl, fun i => ?_, hr.glo⟩ hr hm ?_
    · simp only [Array.size_append, List.size_toArray, Array.size_replicate, hnt, hal]
      omega
    · simp only [envOf]
      cases hi : args[i]? with
      | none =>
        simp only [List.getD, hi, Option.getD_none, Enc]
      | some v =>
        obtain ⟨x, hx, he⟩ := encL_get hargs hi
        have hil : i < vargs.length := (List.getElem?_eq_some_iff.1 hx).1
        rw [Array.getD_eq_getD_getElem?, Array.getElem?_append, if_pos (by simpa using hil)]
        simp only [List.getD, hi, Option.getD_some, List.getElem?_toArray, hx]
        exact he
    · intro a' w' M' t1 r1 s1 i1
      obtain ⟨y, hy, hey⟩ := results_ok t1 r1 hcres hres
      have : bodyPost P F (fun en w' => ∃ rv M', en = .returned rv ∧ Enc M' w' (resOf vs) rv ∧ Stp M H w M' H' w' ∧ Ids M M' H.length ∧ HRel M' w' H') .ret a' w' :=
        ⟨t1.defers, y, hy, y, M', rfl, hey, s1, i1, r1⟩
      rcases hx with rfl | rfl <;> exact this
  | ev hw hv => exact SS.ev hw hv
  | skip hw => exact SS.skip hw
  | pcall hw hop _ ih => exact SS.pcall hw hop ih
  | scall hw hop _ ih => exact SS.scall hw hop ih
  | scallA hw hop _ hlv ih => exact SS.scallA hw hop ih hlv
  | kcall hw hop _ hro ih => exact SS.kcall hw hop ih hro
  | vcall hw hop hfx _ hro ih => exact SS.vcall hw hop hfx ih hro
  | nil => exact OO.nil
  | cons _ _ ih1 ih2 => exact OO.cons ih1 ih2
  | cskip =>
    refine ⟨Nat.le_refl _, fun n c M w a Q hc ht hr hm hq => ?_⟩
    cases c <;> simp only [chkC, Bool.false_eq_true] at hc
    · exact wp_skip (hq a w M ht hr (Stp.refl _ _ _) (Ids.refl _ _))
    · exact wp_label (hq a w M ht hr (Stp.refl _ _ _) (Ids.refl _ _))
  | region _ ih =>
    rename_i m ops e H e' H' _
    simp only [Mot] at ih ⊢
    have hlen := ih.len
    refine ⟨Nat.le_trans (by simp) hlen, fun n c M w a Q hc ht hr hm hq => ?_⟩
    cases c <;> simp only [chkC, Bool.false_eq_true, Bool.and_eq_true, Bool.or_eq_true, Bool.not_eq_true'] at hc
    rename_i id rops draw
    obtain ⟨hc, hd⟩ := hc
    have post : ∀ a' w' M', RelT M' w' e' a' n → HRel M' w' H' → Stp M (H ++ List.replicate m none) w M' H' w' → Ids M M' (H ++ List.replicate m none).length → Q .normal a' w' :=
      fun a' w' M' t1 r1 s1 i1 => hq a' w' M' t1 r1 ((stp_pad M H w m).trans s1) (i1.mono (by simp))
    cases draw with
    | false =>
      refine wp_region_list ?_
      exact OO.text ih hc ht (hrel_pad hr m) hm post
    | true =>
      rcases hd with hd | hd
      · cases hd
      · exact region_drawn ih hc hd ht (hrel_pad hr m) hm post
  | seqN hb1 _ ih1 ih2 =>
    rename_i s1 s2 e H e1 H1 x e2 H2 _
    simp only [Mot] at ih1 ih2 ⊢
    refine ⟨Nat.le_trans ih1.1 ih2.1, fun n c M w a Q hc ht hr hm hq => ?_⟩
    rcases chk_ghost hc with ⟨hgh, hc⟩ | ⟨c1, c2, rfl, hc1, hc2⟩
    · rcases hgh with ⟨l, rfl⟩ | ⟨t, o, rfl⟩ | ⟨t, rfl⟩
      · cases hb1
        exact ih2.2 n c M w a Q hc (relT_keep l ht) hr hm hq
      · cases hb1 with
        | give hg =>
          obtain ⟨M1, t1, r1, s1, i1, hl⟩ := give_sound hg ht hr (fun _ _ _ => trivial)
          refine ih2.2 n c M1 w a Q hc t1 r1 (s1.fm.trans hm) fun a' w' M' t2 r2 s2 i2 => ?_
          exact hq a' w' M' t2 r2 (s1.trans s2) (i1.trans i2 hl)
      · cases hb1 with
        | freeze hg =>
          obtain ⟨M1, t1, r1, s1, i1, hl⟩ := freeze_sound hg ht hr
          refine ih2.2 n c M1 w a Q hc t1 r1 (s1.fm.trans hm) fun a' w' M' t2 r2 s2 i2 => ?_
          exact hq a' w' M' t2 r2 (s1.trans s2) (i1.trans i2 hl)
    · refine wp_seq (ih1.2 n c1 M w a _ hc1 ht hr hm fun a' w' M' t1 r1 s1 i1 => ?_)
      refine wp_bodyOf (ih2.2 n (bodyOf c2) M' w' a' (Exit.noGoto Q) hc2 t1 r1 (s1.fm.trans hm) fun a'' w'' M'' t2 r2 s2 i2 => ?_)
      have := hq _ _ _ t2 r2 (s1.trans s2) (i1.trans i2 ih1.1)
      cases x <;> exact this
  | seqX hb1 hx ih1 =>
    rename_i s1 s2 e H x e1 H1
    simp only [Mot] at ih1 ⊢
    refine ⟨ih1.1, fun n c M w a Q hc ht hr hm hq => ?_⟩
    rcases chk_ghost hc with ⟨hgh, hc⟩ | ⟨c1, c2, rfl, hc1, hc2⟩
    · exfalso
      rcases hgh with ⟨l, rfl⟩ | ⟨t, o, rfl⟩ | ⟨t, rfl⟩
      · cases hb1; exact hx rfl
      · cases hb1; exact hx rfl
      · cases hb1; exact hx rfl
    · refine wp_seq (ih1.2 n c1 M w a _ hc1 ht hr hm fun a' w' M' t1 r1 s1 i1 => ?_)
      have := hq a' w' M' t1 r1 s1 i1
      cases x <;> first | exact absurd rfl hx | exact this
  | cond hcv _ ih =>
    rename_i x s1 s2 e H t ex e1 H1 _
    simp only [Mot] at ih ⊢
    refine ⟨ih.1, fun n c M w a Q hc ht hr hm hq => ?_⟩
    cases c <;> simp only [chkC, Bool.false_eq_true, Bool.and_eq_true] at hc
    rename_i co c1 c2
    obtain ⟨⟨hx, h1⟩, h2⟩ := hc
    have hv := chkX_enc (M := M) (w := w) (by rw [hm]; exact hx) ht
    rw [hcv] at hv
    simp only [Enc] at hv
    refine wp_cond hv ?_
    refine ih.2 n _ M w a Q ?_ ht hr hm hq
    cases t
    · exact h2
    · exact h1
  | block _ ih =>
    rename_i id s e H x e1 H1 _
    simp only [Mot] at ih ⊢
    refine ⟨ih.1, fun n c M w a Q hc ht hr hm hq => ?_⟩
    cases c <;> simp only [chkC, Bool.false_eq_true, Bool.and_eq_true, beq_iff_eq] at hc
    rename_i id' c
    obtain ⟨rfl, hc⟩ := hc
    refine wp_block (ih.2 n c M w a _ hc ht hr hm fun a' w' M' t1 r1 s1 i1 => ?_)
    have := hq a' w' M' t1 r1 s1 i1
    cases x with
    | nx => simpa [exOf, Exit.inBlock] using this
    | ret => simpa [exOf, Exit.inBlock] using this
    | exit k =>
      simp only [exOf, Exit.inBlock]
      by_cases hk : k = id
      · subst hk; simpa [exOf] using this
      · rw [if_neg hk]
        rw [if_neg (by simpa using hk)] at this
        exact this
  | loop _ ih =>
    rename_i l s e H x e1 H1 _
    simp only [Mot] at ih ⊢
    obtain ⟨hl, ih⟩ := ih (Nat.le_refl _)
    refine ⟨hl, fun n c M w a Q hc ht hr hm hq => ?_⟩
    cases c <;> simp only [chkC, Bool.false_eq_true] at hc
    rename_i c
    intro b k cs
    obtain ⟨ex, a', w', hQ, harr⟩ := ih n c M w a Q hc ht hr hm hq b k cs
    exact ⟨ex, a', w', hQ, .of_steps (.one step_loop) harr⟩
  | round _ _ ih1 ih2 =>
    rename_i m l s e H e1 H1 x e2 H2 _ _
    simp only [Mot] at ih1 ih2 ⊢
    intro hm0
    have htl : (trunc m H).length = m := by simp [trunc]; omega
    have h1 := ih1.1
    rw [htl] at h1
    obtain ⟨hl2, ih2⟩ := ih2 h1
    refine ⟨hl2, fun n c M w a Q hc ht hr hm hq => ?_⟩
    intro b k cs
    obtain ⟨s0, i0, r0⟩ := stp_upto hr m
    obtain ⟨ex, a1, w1, hQ, harr⟩ := ih1.2 n c (M.upto m) w a (Exit.then (fun a' w' => LoopWp P c Q a' w') Q) hc (relT_upto (relT_keep l ht)) r0 hm (fun a' w' M' t1 r1 s1 i1 => by
      refine ih2 n c M' w' a' Q hc t1 r1 (s1.fm.trans hm) fun a'' w'' M'' t2 r2 s2 i2 => ?_
      refine hq _ _ _ t2 r2 ((s0.trans s1).trans s2) ?_
      rw [htl] at i1
      exact (i0.trans i1 (Nat.le_refl _)).trans i2 (Nat.le_refl _)) b (.inLoop c :: k) cs
    cases ex with
    | normal =>
      obtain ⟨e2, a2, w2, hq2, harr2⟩ := hQ b k cs
      exact ⟨e2, a2, w2, hq2, .of_steps (Steps.trans harr (.one step_inLoop)) harr2⟩
    | exit id => exact ⟨_, a1, w1, hQ, .pass (x := .inLoop c) rfl (fun _ _ => .inl (by simp)) harr⟩
    | goto l => exact ⟨_, a1, w1, hQ, .pass (x := .inLoop c) rfl (fun _ _ => .inl (by simp)) harr⟩
    | ret => exact ⟨_, a1, w1, hQ, .pass (x := .inLoop c) rfl (fun _ _ => .inl (by simp)) harr⟩
    | panic ch => exact ⟨_, a1, w1, hQ, .pass (x := .inLoop c) rfl (fun _ _ => .inl (by simp)) harr⟩
    | outgrown => exact ⟨_, a1, w1, hQ, .pass (x := .inLoop c) rfl (fun _ _ => .inl (by simp)) harr⟩
  | last _ hx ih1 =>
    rename_i m l s e H x e1 H1 _
    simp only [Mot] at ih1 ⊢
    intro hm0
    have htl : (trunc m H).length = m := by simp [trunc]; omega
    have h1 := ih1.1
    rw [htl] at h1
    refine ⟨h1, fun n c M w a Q hc ht hr hm hq => ?_⟩
    intro b k cs
    obtain ⟨s0, i0, r0⟩ := stp_upto hr m
    obtain ⟨ex, a1, w1, hQ, harr⟩ := ih1.2 n c (M.upto m) w a (Exit.then (fun a' w' => LoopWp P c Q a' w') Q) hc (relT_upto (relT_keep l ht)) r0 hm (fun a' w' M' t1 r1 s1 i1 => by
      rw [htl] at i1
      have := hq a' w' M' t1 r1 (s0.trans s1) (i0.trans i1 (Nat.le_refl _))
      cases x <;> first | exact absurd rfl hx | exact this) b (.inLoop c :: k) cs
    cases ex with
    | normal =>
      obtain ⟨e2, a2, w2, hq2, harr2⟩ := hQ b k cs
      exact ⟨e2, a2, w2, hq2, .of_steps (Steps.trans harr (.one step_inLoop)) harr2⟩
    | exit id => exact ⟨_, a1, w1, hQ, .pass (x := .inLoop c) rfl (fun _ _ => .inl (by simp)) harr⟩
    | goto l => exact ⟨_, a1, w1, hQ, .pass (x := .inLoop c) rfl (fun _ _ => .inl (by simp)) harr⟩
    | ret => exact ⟨_, a1, w1, hQ, .pass (x := .inLoop c) rfl (fun _ _ => .inl (by simp)) harr⟩
    | panic ch => exact ⟨_, a1, w1, hQ, .pass (x := .inLoop c) rfl (fun _ _ => .inl (by simp)) harr⟩
    | outgrown => exact ⟨_, a1, w1, hQ, .pass (x := .inLoop c) rfl (fun _ _ => .inl (by simp)) harr⟩
  | exit =>
    refine ⟨Nat.le_refl _, fun n c M w a Q hc ht hr hm hq => ?_⟩
    cases c <;> simp only [chkC, Bool.false_eq_true, beq_iff_eq] at hc
    subst hc
    exact wp_exit (hq a w M ht hr (Stp.refl _ _ _) (Ids.refl _ _))
  | ret =>
    refine ⟨Nat.le_refl _, fun n c M w a Q hc ht hr hm hq => ?_⟩
    cases c <;> simp only [chkC, Bool.false_eq_true] at hc
    exact wp_ret (hq a w M ht hr (Stp.refl _ _ _) (Ids.refl _ _))
  | keep =>
    refine ⟨Nat.le_refl _, fun n c M w a Q hc ht hr hm hq => ?_⟩
    cases c <;> simp only [chkC, Bool.false_eq_true] at hc
  | give hg =>
    refine ⟨give_len hg, fun n c M w a Q hc ht hr hm hq => ?_⟩
    cases c <;> simp only [chkC, Bool.false_eq_true] at hc
  | freeze hg =>
    refine ⟨freeze_len hg, fun n c M w a Q hc ht hr hm hq => ?_⟩
    cases c <;> simp only [chkC, Bool.false_eq_true] at hc

end Go.Ev
