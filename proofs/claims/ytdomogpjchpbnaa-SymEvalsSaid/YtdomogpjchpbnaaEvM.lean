/- Regions: in the text's order, and in whatever order is drawn. -/
import Derived.Test.YtdomogpjchpbnaaEvL
namespace Go.Ev
open Go Go.RowKit
set_option linter.unusedSimpArgs false
set_option linter.unusedVariables false

variable {P : Program} {M M' : Mm} {H H1 H2 : Heap} {w w' : World} {fm : Fm}

inductive OO (P : Program) (fm : Fm) (base : Nat) : List SOper → Env → Heap → Env → Heap → Prop
  | nil {e H} : OO P fm base [] e H e H
  | cons {o os e H e1 H1 e2 H2} : SS P fm base o e H e1 H1 → OO P fm base os e1 H1 e2 H2 → OO P fm base (o :: os) e H e2 H2

theorem OO.len {base : Nat} {os : List SOper} {e e' : Env} {H H' : Heap} (h : OO P fm base os e H e' H') : H.length ≤ H'.length := by
  induction h with
  | nil => exact Nat.le_refl _
  | cons hs _ ih => exact Nat.le_trans hs.len ih

def chkOpers (P : Program) (fm : Fm) (n : Nat) (ops : Array Oper) : List Oper → List SOper → Bool
  | [], [] => true
  | o :: os, s :: ss => chkOper P fm n ops o s && chkOpers P fm n ops os ss
  | _, _ => false
theorem chkOpers_len {n : Nat} {ops : Array Oper} : ∀ {os : List Oper} {ss : List SOper}, chkOpers P fm n ops os ss = true → ss.length = os.length
  | [], [], _ => rfl
  | [], _ :: _, h => by simp [chkOpers] at h
  | _ :: _, [], h => by simp [chkOpers] at h
  | o :: os, s :: ss, h => by
    simp only [chkOpers, Bool.and_eq_true] at h
    simp [chkOpers_len h.2]
theorem chkOpers_get {n : Nat} {ops : Array Oper} : ∀ {os : List Oper} {ss : List SOper}, chkOpers P fm n ops os ss = true → ∀ {i : Nat} {o : Oper} {s : SOper}, os[i]? = some o → ss[i]? = some s → chkOper P fm n ops o s = true
  | [], [], _, i, _, _, h, _ => by simp at h
  | [], _ :: _, h, _, _, _, _, _ => by simp [chkOpers] at h
  | _ :: _, [], h, _, _, _, _, _ => by simp [chkOpers] at h
  | o :: os, s :: ss, h, i, o', s', h1, h2 => by
    simp only [chkOpers, Bool.and_eq_true] at h
    cases i with
    | zero => simp at h1 h2; subst h1; subst h2; exact h.1
    | succ i => simp at h1 h2; exact chkOpers_get h.2 h1 h2

theorem OO.text {base n : Nat} {ops : Array Oper} {ss : List SOper} {e e' : Env} {H H' : Heap} (h : OO P fm base ss e H e' H') : ∀ {l : List Oper} {M : Mm} {w : World} {a : Act} {Q : Exit → Act → World → Prop},
    chkOpers P fm n ops l ss = true → RelT M w e a n → HRel M w H → M.fm = fm →
    (∀ a' w' M', RelT M' w' e' a' n → HRel M' w' H' → Stp M H w M' H' w' → Ids M M' H.length → Q .normal a' w') → wpList P ops Q l a w := by
  induction h with
  | nil =>
    intro l M w a Q hc ht hr hm hq
    cases l with
    | nil => exact hq a w M ht hr (Stp.refl _ _ _) (Ids.refl _ _)
    | cons o l => simp [chkOpers] at hc
  | cons hs _ ih =>
    intro l M w a Q hc ht hr hm hq
    cases l with
    | nil => simp [chkOpers] at hc
    | cons o l =>
      simp only [chkOpers, Bool.and_eq_true] at hc
      refine wpList_step fun K hK => ?_
      refine hs.sound hc.1 ht hr hm fun a' w' M' t1 r1 s1 i1 => hK _ _ ?_
      refine ih hc.2 t1 r1 (s1.fm.trans hm) fun a'' w'' M'' t2 r2 s2 i2 => ?_
      exact hq _ _ _ t2 r2 (s1.trans s2) (i1.trans i2 hs.len)

/-- What is before an operation, by the edges that always bind, at most so many deep. -/
def ordered (ops : Array Oper) : Nat → Nat → Nat → Bool
  | 0, _, _ => false
  | k + 1, h, i => match ops[i]? with
    | some o => o.after.toList.any fun e => Region.binds .any e && (e.on == h || ordered ops k h e.on)
    | none => false

def sget (ss : List SOper) (i : Nat) : SOper := ss.getD i ⟨none, .mv (.t 0), none⟩

/-- Whatever comes in another order may. -/
def pairsOk (ops : Array Oper) (ss : List SOper) : Bool :=
  (List.range ops.size).all fun i => (List.range i).all fun h => indep (sget ss h) (sget ss i) || ordered ops 4 h i

/-- An order that keeps all edges: all operations come up in it. -/
def topoGo (md : Region.Mode) (ops : Array Oper) : List Nat → List Nat → Bool
  | _, [] => true
  | done, i :: rest => (match ops[i]? with | some o => o.after.toList.all fun e => !Region.binds md e || done.contains e.on | none => false) && topoGo md ops (i :: done) rest
def topoOk (md : Region.Mode) (ops : Array Oper) (σ : List Nat) : Bool :=
  topoGo md ops [] σ && (List.range ops.size).all (σ.contains ·)
def drawOk (ops : Array Oper) (ss : List SOper) : Bool :=
  pairsOk ops ss && topoOk .any ops (Region.linearise .any ops 0) && (!Region.departs ops || (topoOk .text ops (Region.linearise .text ops 0) && topoOk .gc ops (Region.linearise .gc ops 0)))

/-- What is still to come, in the text's order. -/
def rem (n : Nat) (listed : Array Bool) : List Nat := (List.range n).filter fun i => !listed.getD i true

theorem OO.front {base : Nat} {o : SOper} : ∀ {pre post : List SOper} {e e' : Env} {H H' : Heap}, OO P fm base (pre ++ o :: post) e H e' H' → (∀ p ∈ pre, indep p o = true) → OO P fm base (o :: (pre ++ post)) e H e' H'
  | [], _, _, _, _, _, h, _ => h
  | p :: pre, post, e, e', H, H', h, hi => by
    simp only [List.cons_append] at h
    cases h with
    | cons h1 h2 =>
      have h3 := OO.front h2 (fun q hq => hi q (by simp [hq]))
      cases h3 with
      | cons h4 h5 =>
        obtain ⟨f, Hb, h6, h7⟩ := SS.swap h1 h4 (hi p (by simp))
        exact .cons h6 (.cons h7 h5)

def Down (ops : Array Oper) (listed : Array Bool) : Prop := ∀ (i : Nat) (o : Oper), listed.getD i false = true → ops[i]? = some o → ∀ e ∈ o.after.toList, Region.binds .any e = true → listed.getD e.on false = true

theorem ordered_listed {ops : Array Oper} {listed : Array Bool} (hd : Down ops listed) : ∀ {k h i : Nat} {o : Oper}, ops[i]? = some o → (∀ e ∈ o.after.toList, Region.binds .any e = true → listed.getD e.on false = true) →
    ordered ops k h i = true → listed.getD h false = true
  | 0, _, _, _, _, _, ho => by simp [ordered] at ho
  | k + 1, h, i, o, hi, hl, ho => by
    simp only [ordered, hi, List.any_eq_true, Bool.and_eq_true, Bool.or_eq_true, beq_iff_eq] at ho
    obtain ⟨e, he, hb, ho⟩ := ho
    have hle := hl e he hb
    rcases ho with rfl | ho
    · exact hle
    · cases hop : ops[e.on]? with
      | none => cases k <;> simp [ordered, hop] at ho
      | some o' => exact ordered_listed hd hop (fun e' he' hb' => hd e.on o' hle hop e' he' hb') ho

theorem binds_any {md : Region.Mode} {e : Edge} (h : Region.binds .any e = true) : Region.binds md e = true := by
  unfold Region.binds at *
  split at h
  · simp at h
  · simp at h
  · rfl

theorem topo_ready {md : Region.Mode} {ops : Array Oper} {listed : Array Bool} (hsz : listed.size = ops.size) : ∀ {σ done : List Nat}, topoGo md ops done σ = true → (∀ i ∈ done, listed.getD i false = true) →
    (∃ i ∈ σ, i < ops.size ∧ listed.getD i true = false) → Region.ready md ops listed ≠ []
  | [], _, _, _, ⟨i, hi, _⟩ => by cases hi
  | j :: σ, done, ht, hd, ⟨i, hi, hlt, hl⟩ => by
    simp only [topoGo, Bool.and_eq_true] at ht
    obtain ⟨hj, ht⟩ := ht
    by_cases hlj : listed.getD j true = true
    · by_cases hjs : j < ops.size
      · refine topo_ready hsz ht (fun k hk => ?_) ⟨i, ?_, hlt, hl⟩
        · simp only [List.mem_cons] at hk
          rcases hk with rfl | hk
          · rw [Array.getD_eq_getD_getElem?, Array.getElem?_eq_getElem (by omega)] at hlj ⊢
            simpa using hlj
          · exact hd k hk
        · simp only [List.mem_cons] at hi
          rcases hi with rfl | hi
          · rw [hl] at hlj; cases hlj
          · exact hi
      · rw [Array.getElem?_eq_none (by omega)] at hj
        simp at hj
    · have hlj' : listed.getD j true = false := by simpa using hlj
      have hjs : j < listed.size := by
        rcases Nat.lt_or_ge j listed.size with h | h
        · exact h
        · rw [Array.getD_eq_getD_getElem?, Array.getElem?_eq_none h] at hlj'; simp at hlj'
      intro hn
      have : j ∈ Region.ready md ops listed := by
        unfold Region.ready
        rw [List.mem_filter]
        refine ⟨List.mem_range.2 (by omega), ?_⟩
        cases ho : ops[j]? with
        | none => rw [ho] at hj; cases hj
        | some o =>
          rw [ho] at hj
          simp only [List.all_eq_true, Bool.or_eq_true, Bool.not_eq_true'] at hj
          simp only [hlj', Bool.not_false, Bool.true_and, Option.map_some, Option.getD_some]
          rw [Array.all_eq_true_iff_forall_mem]
          intro e he
          rcases hj e (by simpa using he) with h | h
          · simp [h]
          · simp [hd e.on (by simpa using h)]
      rw [hn] at this
      cases this

theorem getD_set {listed : Array Bool} {i j : Nat} {d : Bool} (hi : i < listed.size) : (listed.setIfInBounds i true).getD j d = if j = i then true else listed.getD j d := by
  rw [Array.getD_eq_getD_getElem?, Array.getD_eq_getD_getElem?]
  by_cases h : j = i
  · subst h; simp [hi]
  · rw [if_neg h, Array.getElem?_setIfInBounds_ne (by omega)]

theorem OO.drawn {base n : Nat} {ops : Array Oper} {ss : List SOper} {md : Region.Mode} {σ : List Nat} {e' : Env} {H' : Heap} (hc : chkOpers P fm n ops ops.toList ss = true) (hp : pairsOk ops ss = true) (htopo : topoOk md ops σ = true)
    {Q : Exit → Act → World → Prop} : ∀ (fuel : Nat) {listed : Array Bool} {M : Mm} {w : World} {a : Act} {e : Env} {H : Heap}, listed.size = ops.size → (rem ops.size listed).length = fuel → Down ops listed →
    OO P fm base ((rem ops.size listed).map (sget ss)) e H e' H' → RelT M w e a n → HRel M w H → M.fm = fm →
    (∀ a' w' M', RelT M' w' e' a' n → HRel M' w' H' → Stp M H w M' H' w' → Ids M M' H.length → Q .normal a' w') → wpAny P md ops Q fuel listed a w := by
  have hsl : ss.length = ops.size := by have := chkOpers_len hc; simpa using this
  have rem0 : ∀ {listed : Array Bool}, listed.size = ops.size → Region.ready md ops listed = [] → rem ops.size listed = [] := by
    intro listed hsz hr
    cases hrem : rem ops.size listed with
    | nil => rfl
    | cons i l =>
      exfalso
      have hi : i ∈ rem ops.size listed := by rw [hrem]; simp
      unfold rem at hi
      rw [List.mem_filter, List.mem_range] at hi
      simp only [topoOk, Bool.and_eq_true, List.all_eq_true, List.mem_range] at htopo
      exact topo_ready hsz htopo.1 (fun j hj => by cases hj) ⟨i, by simpa using htopo.2 i hi.1, hi.1, by simpa using hi.2⟩ hr
  intro fuel
  induction fuel with
  | zero =>
    intro listed M w a e H hsz hf hd ho ht hr hm hq
    have hrem : rem ops.size listed = [] := List.eq_nil_of_length_eq_zero hf
    rw [hrem] at ho
    cases ho
    refine ⟨?_, hq a w M ht hr (Stp.refl _ _ _) (Ids.refl _ _)⟩
    cases hrd : Region.ready md ops listed with
    | nil => rfl
    | cons i l =>
      exfalso
      have hi : i ∈ Region.ready md ops listed := by rw [hrd]; simp
      unfold Region.ready at hi
      rw [List.mem_filter] at hi
      simp only [Bool.and_eq_true] at hi
      have : i ∈ rem ops.size listed := by
        unfold rem
        rw [List.mem_filter]
        exact ⟨hi.1, hi.2.1⟩
      rw [hrem] at this
      cases this
  | succ fuel ih =>
    intro listed M w a e H hsz hf hd ho ht hr hm hq
    refine ⟨fun hr0 => ?_, fun i hi => ?_⟩
    · have := rem0 hsz hr0
      rw [this] at hf
      simp at hf
    · unfold Region.ready at hi
      rw [List.mem_filter, List.mem_range] at hi
      simp only [Bool.and_eq_true, Bool.not_eq_true'] at hi
      obtain ⟨hlt, hnl, hedges⟩ := hi
      have hoi : ops[i]? = some ops[i] := Array.getElem?_eq_getElem hlt
      rw [hoi] at hedges
      simp only [Option.map_some, Option.getD_some] at hedges
      rw [Array.all_eq_true_iff_forall_mem] at hedges
      have hany : ∀ e ∈ (ops[i]).after.toList, Region.binds .any e = true → listed.getD e.on false = true := by
        intro e he hb
        have := hedges e (by simpa using he)
        simpa [binds_any hb] using this
      -- its place among what is still to come
      have hmem : i ∈ rem ops.size listed := by
        unfold rem
        rw [List.mem_filter, List.mem_range]
        exact ⟨hlt, by simp [hnl]⟩
      obtain ⟨pre, post, hsplit⟩ := List.append_of_mem hmem
      have hsorted : (rem ops.size listed).Pairwise (· < ·) := List.Pairwise.filter _ (List.pairwise_lt_range)
      have hpre : ∀ h ∈ pre, h < i ∧ listed.getD h true = false := by
        intro h hh
        rw [hsplit, List.pairwise_append] at hsorted
        refine ⟨hsorted.2.2 h hh i (by simp), ?_⟩
        have : h ∈ rem ops.size listed := by rw [hsplit]; simp [hh]
        unfold rem at this
        rw [List.mem_filter] at this
        simpa using this.2
      have hind : ∀ p ∈ pre.map (sget ss), indep p (sget ss i) = true := by
        intro p hp'
        obtain ⟨h, hh, rfl⟩ := List.mem_map.1 hp'
        obtain ⟨hlt', hnl'⟩ := hpre h hh
        simp only [pairsOk, List.all_eq_true, List.mem_range, Bool.or_eq_true] at hp
        rcases hp i hlt h hlt' with h1 | h1
        · exact h1
        · exfalso
          have := ordered_listed hd hoi hany h1
          rw [Array.getD_eq_getD_getElem?, Array.getElem?_eq_getElem (by omega)] at this hnl'
          simp at this hnl'
          rw [this] at hnl'
          cases hnl'
      rw [hsplit, List.map_append, List.map_cons] at ho
      have ho2 := OO.front ho hind
      cases ho2 with
      | cons hs hrest =>
        have hsi : ss[i]? = some (sget ss i) := by
          rw [List.getElem?_eq_getElem (by omega)]
          simp [sget, List.getD, List.getElem?_eq_getElem (by omega : i < ss.length)]
        have hck := chkOpers_get hc (i := i) (by rw [Array.getElem?_toList]; exact hoi) hsi
        have hset : ∀ j d, (listed.setIfInBounds i true).getD j d = if j = i then true else listed.getD j d := fun j d => getD_set (by omega)
        have hrem' : rem ops.size (listed.setIfInBounds i true) = pre ++ post := by
          have h1 : rem ops.size (listed.setIfInBounds i true) = (rem ops.size listed).filter (fun j => decide (j ≠ i)) := by
            unfold rem
            rw [List.filter_filter]
            apply List.filter_congr
            intro j _
            rw [hset]
            by_cases hji : j = i <;> simp [hji]
          rw [h1, hsplit, List.filter_append, List.filter_cons]
          simp only [ne_eq, not_true_eq_false, decide_false, Bool.false_eq_true, if_false]
          rw [hsplit, List.pairwise_append, List.pairwise_cons] at hsorted
          rw [List.filter_eq_self.2 (fun j hj => by have := (hpre j hj).1; simp; omega), List.filter_eq_self.2 (fun j hj => by have := hsorted.2.1.1 j hj; simp; omega)]
        have key : if Region.wanted ops[i] (yielded ops a.tmps) = true then (ops[i]).wp P a w (wpAny P md ops Q fuel (listed.setIfInBounds i true)) Q else wpAny P md ops Q fuel (listed.setIfInBounds i true) (a.put (ops[i]).dst undef) w := by
          refine hs.sound hck ht hr hm fun a' w' M' t1 r1 s1 i1 => ?_
          refine ih (by simpa using hsz) ?_ ?_ ?_ t1 r1 (s1.fm.trans hm) ?_
          · rw [hrem']
            rw [hsplit] at hf
            simp only [List.length_append, List.length_cons] at hf ⊢
            omega
          · intro j o hj hoj e he hb
            rw [hset] at hj ⊢
            by_cases hji : j = i
            · subst hji
              rw [hoi] at hoj; cases hoj
              split
              · rfl
              · exact hany e he hb
            · rw [if_neg hji] at hj
              split
              · rfl
              · exact hd j o hj hoj e he hb
          · rw [hrem', List.map_append]; exact hrest
          · intro a'' w'' M'' t2 r2 s2 i2
            exact hq _ _ _ t2 r2 (s1.trans s2) (i1.trans i2 hs.len)
        unfold wpOp
        rw [hoi]
        simp only
        split
        · rename_i hw; rw [if_pos hw] at key; exact .inl key
        · rename_i hw; rw [if_neg hw] at key; exact key

theorem region_drawn {base n id : Nat} {ops : Array Oper} {ss : List SOper} {e e' : Env} {H H' : Heap} {a : Act} {Q : Exit → Act → World → Prop} (h : OO P fm base ss e H e' H') (hc : chkOpers P fm n ops ops.toList ss = true) (hd : drawOk ops ss = true)
    (ht : RelT M w e a n) (hr : HRel M w H) (hm : M.fm = fm)
    (hq : ∀ a' w' M', RelT M' w' e' a' n → HRel M' w' H' → Stp M H w M' H' w' → Ids M M' H.length → Q .normal a' w') : (Code.region id ops true).wp P Q a w := by
  unfold drawOk at hd
  simp only [Bool.and_eq_true, Bool.or_eq_true, Bool.not_eq_true'] at hd
  obtain ⟨⟨hp, h1⟩, h2⟩ := hd
  have hsl : ss.length = ops.size := by have := chkOpers_len hc; simpa using this
  have g := Grew.drew w
  obtain ⟨s0, i0, r0⟩ := stp_same (w' := w.drew) (M' := M) hr g (Same.refl M _)
  have hrem : rem ops.size (Array.replicate ops.size false) = List.range ops.size := by
    unfold rem
    apply List.filter_eq_self.2
    intro i hi
    rw [List.mem_range] at hi
    rw [Array.getD_eq_getD_getElem?, Array.getElem?_replicate, if_pos hi]
    rfl
  have hss : (List.range ops.size).map (sget ss) = ss := by
    apply List.ext_getElem?
    intro i
    rw [List.getElem?_map]
    by_cases hi : i < ops.size
    · rw [List.getElem?_range hi, List.getElem?_eq_getElem (by omega : i < ss.length)]
      simp [sget, List.getD, List.getElem?_eq_getElem (by omega : i < ss.length)]
    · rw [List.getElem?_eq_none (by simp; omega), List.getElem?_eq_none (by omega : ss.length ≤ i)]
      rfl
  have main : ∀ md σ, topoOk md ops σ = true → ∀ t, wpOps P ops Q (Region.linearise md ops t) a w.drew := by
    intro md σ hσ t
    have := OO.drawn (P := P) (fm := fm) (base := base) (md := md) (σ := σ) (Q := Q) (e' := e') (H' := H') (ss := ss) hc hp hσ ops.size (listed := Array.replicate ops.size false) (M := M) (w := w.drew) (a := a) (e := e) (H := H)
      (by simp) (by rw [hrem]; simp) (fun i o hi _ => by
        rw [Array.getD_eq_getD_getElem?, Array.getElem?_replicate] at hi
        split at hi <;> simp at hi) (by rw [hrem, hss]; exact h) (RelT.step s0 hr i0 ht) r0 hm
      (fun a' w' M' t1 r1 s1 i1 => hq a' w' M' t1 r1 (s0.trans s1) (i0.trans i1 (Nat.le_refl _)))
    exact wpAny_sound _ t _ _ _ this
  refine wp_region_draw fun t => ?_
  change wpOps P ops Q _ a w.drew
  unfold Region.schedule
  split
  · exact main .any _ h1 t
  · rename_i hmix
    rcases h2 with h2 | ⟨h2, h3⟩
    · exfalso; apply hmix; simp [h2]
    · split
      · exact main .text _ h2 _
      · exact main .gc _ h3 _

end Go.Ev
