/- Steps of memory: a new block, a store into a block, a zone that grows; each keeps what is said of all else. -/
import Derived.Test.YtdomogpjchpbnaaEvB
namespace Go.Ev
open Go Go.RowKit

variable {M M' : Mm} {H H' : Heap} {w w' : World}

theorem getElem?_set_ne {α : Type} {l : List α} {i j : Nat} {a : α} (h : j ≠ i) : (l.set i a)[j]? = l[j]? := by
  rw [List.getElem?_set]; rw [if_neg (fun e => h e.symm)]

theorem isFree_iff {i : Nat} : isFree H i = true ↔ H[i]? = some none := by
  unfold isFree
  split <;> simp_all

/-- A block that was written stays readable as it was: what a block says, said later. -/
theorem BRel.step (h : Stp M H w M' H' w') (hr : HRel M w H) (hi : Ids M M' H.length) {id : Nat} {blk : Blk} (hb : H[id]? = some (some blk))
    (hs : ∀ b, blOf M H id = some b → w'.heap[b]? = w.heap[b]? ∧ M'.lim b = M.lim b) (hz : M'.z id = M.z id) : BRel M' w' id blk := by
  have ha : M.al id = true := (hr.dom id).2 ⟨blk, hb⟩
  have hl := hr.lt ha
  obtain ⟨_, hj, _⟩ := hi id hl ha
  have h0 := hr.rel id blk hb
  cases blk with
  | cells cs =>
    simp only [BRel] at h0 ⊢
    obtain ⟨a, b, xs, e, c, d⟩ := h0
    have := hs (M.j id) (by simp [blOf, hb])
    rw [hj]
    exact ⟨a, this.2.trans b, xs, e, this.1.trans c, EncL.step h hr hi d⟩
  | zone n =>
    simp only [BRel] at h0 ⊢
    rw [hz]
    refine ⟨h0.1, ?_⟩
    have h1 := h0.2
    cases hbk : (M.z id).blk with
    | none => simp only [hbk] at h1 ⊢; exact h1
    | some b =>
      simp only [hbk] at h1 ⊢
      have := hs b (by simp [blOf, hb, hbk])
      rw [this.1, this.2]
      exact h1
  | froz cs =>
    simp only [BRel] at h0 ⊢
    obtain ⟨a, b, xs, e, c, d⟩ := h0
    have := hs (M.j id) (by simp [blOf, hb])
    rw [hj]
    exact ⟨a, this.2.trans b, xs, e, this.1.trans c, EncL.step h hr hi d⟩
  | map es =>
    simp only [BRel] at h0 ⊢
    obtain ⟨b, ents, c, d, d', f⟩ := h0
    have := hs (M.j id) (by simp [blOf, hb])
    rw [hj]
    exact ⟨this.2.trans b, ents, this.1.trans c, EncL.step h hr hi d, EncL.step h hr hi d', f⟩
  | siter t pos =>
    simp only [BRel] at h0 ⊢
    have := hs (M.j id) (by simp [blOf, hb])
    rw [hj]
    exact ⟨this.2.trans h0.1, this.1.trans h0.2⟩

/-- Memory that only grew. -/
structure Grew (w w' : World) : Prop where
  os : w'.os = w.os
  tape : w'.tape = w.tape
  output : w'.output = w.output
  size : w.heap.size ≤ w'.heap.size
  block : ∀ b, b < w.heap.size → w'.heap[b]? = w.heap[b]?

theorem Grew.refl (w : World) : Grew w w := ⟨rfl, rfl, rfl, Nat.le_refl _, fun _ _ => rfl⟩
theorem Grew.drew (w : World) : Grew w w.drew := ⟨rfl, rfl, rfl, Nat.le_refl _, fun _ _ => rfl⟩
theorem Grew.alloc (w : World) (o : Obj) : Grew w (w.alloc o) := ⟨rfl, rfl, rfl, by simp, fun b hb => Below.heap_alloc w o b hb⟩
theorem Grew.trans {a b c : World} (h : Grew a b) (k : Grew b c) : Grew a c :=
  ⟨k.os.trans h.os, k.tape.trans h.tape, k.output.trans h.output, Nat.le_trans h.size k.size, fun i hi => (k.block i (Nat.lt_of_lt_of_le hi h.size)).trans (h.block i hi)⟩

theorem Grew.cell (h : Grew w w') {b o : Nat} (hb : b < w.heap.size) : w'.cell? ⟨b, o, none⟩ = w.cell? ⟨b, o, none⟩ :=
  World.cell?_of_block (w := w) (h.block b hb)

/-- A block that is owned lies in memory. -/
theorem HRel.owned_lt (h : HRel M w H) {b : Nat} (ho : Owned M H b) : b < w.heap.size := by
  obtain ⟨id, hid⟩ := ho
  unfold blOf at hid
  split at hid
  · rename_i n hb
    have := h.rel id _ hb
    simp only [BRel, hid] at this
    obtain ⟨_, _, _, _, _, xs, e, hc, _⟩ := this
    exact (Array.getElem?_eq_some_iff.1 hc).1
  · rename_i blk hn hb
    have := h.rel id _ hb
    simp only [Option.some.injEq] at hid
    subst hid
    cases blk with
    | zone n => exact absurd rfl (hn n)
    | cells cs => simp only [BRel] at this; obtain ⟨_, _, xs, e, hc, _⟩ := this; exact (Array.getElem?_eq_some_iff.1 hc).1
    | froz cs => simp only [BRel] at this; obtain ⟨_, _, xs, e, hc, _⟩ := this; exact (Array.getElem?_eq_some_iff.1 hc).1
    | map es => simp only [BRel] at this; obtain ⟨_, ents, hc, _⟩ := this; exact (Array.getElem?_eq_some_iff.1 hc).1
    | siter t pos => simp only [BRel] at this; exact (Array.getElem?_eq_some_iff.1 this.2).1
  · cases hid

/-- Numbers in use as before, limits as before on what was there. -/
structure Same (M M' : Mm) (n : Nat) : Prop where
  al : M'.al = M.al
  j : M'.j = M.j
  z : M'.z = M.z
  fm : M'.fm = M.fm
  lim : ∀ b, b < n → M'.lim b = M.lim b
theorem Same.refl (M : Mm) (n : Nat) : Same M M n := ⟨rfl, rfl, rfl, rfl, fun _ _ => rfl⟩

theorem Same.bl {n : Nat} (s : Same M M' n) (id : Nat) : blOf M' H id = blOf M H id := by simp only [blOf, s.j, s.z]

/-- Memory grew, and nothing of it is ours to write. -/
theorem stp_same (hr : HRel M w H) (g : Grew w w') (s : Same M M' w.heap.size) : Stp M H w M' H w' ∧ Ids M M' H.length ∧ HRel M' w' H := by
  have hst : Stp M H w M' H w' := {
    os := g.os
    tape := g.tape
    output := g.output
    size := g.size
    same := fun b hb _ => g.block b hb
    cells := fun b l o hb _ _ => g.cell hb
    limn := fun b hb hl => (s.lim b hb).trans hl
    lims := fun b l hb hl => ⟨l, (s.lim b hb).trans hl, Nat.le_refl _⟩
    limo := fun b hb _ => s.lim b hb
    own := fun b _ ho => by obtain ⟨id, hid⟩ := ho; exact ⟨id, by rw [← s.bl]; exact hid⟩
    fm := s.fm }
  have hid : Ids M M' H.length := fun id _ ha => ⟨by rw [s.al]; exact ha, by rw [s.j], by rw [s.z]; exact Zle.refl _⟩
  refine ⟨hst, hid, ⟨fun id => by rw [s.al]; exact hr.dom id, fun id blk hb => ?_, fun id id' b h1 h2 => ?_, hr.glo.step hst hr hid⟩⟩
  · refine BRel.step hst hr hid hb (fun b hbl => ?_) (by rw [s.z])
    have hlt := hr.owned_lt ⟨id, hbl⟩
    exact ⟨g.block b hlt, s.lim b hlt⟩
  · rw [s.bl] at h1 h2
    exact hr.inj id id' b h1 h2

/-- A new limit for a block that wasn't there. -/
def Mm.lims (M : Mm) (b : Nat) (l : Option Nat) : Mm := { M with lim := fun k => if k = b then l else M.lim k }
theorem Same.lims (M : Mm) (n : Nat) (l : Option Nat) : Same M (M.lims n l) n := ⟨rfl, rfl, rfl, rfl, fun b hb => by simp only [Mm.lims]; rw [if_neg (by omega)]⟩

/-- A free number gets a block. -/
def Mm.alc (M : Mm) (id b : Nat) : Mm :=
  { M with al := fun i => decide (i = id) || M.al i, j := fun i => if i = id then b else M.j i, lim := fun k => if k = b then some 0 else M.lim k }

theorem free_al (hr : HRel M w H) {id : Nat} (hf : isFree H id = true) : M.al id = false := by
  cases h : M.al id with
  | false => rfl
  | true =>
    obtain ⟨blk, hb⟩ := (hr.dom id).1 h
    rw [isFree_iff.1 hf] at hb
    cases hb

theorem free_lt {id : Nat} (hf : isFree H id = true) : id < H.length := (List.getElem?_eq_some_iff.1 (isFree_iff.1 hf)).1

def Blk.isZone : Blk → Bool
  | .zone _ => true
  | _ => false
theorem stp_alcG (hr : HRel M w H) {id : Nat} (hf : isFree H id = true) {blk0 : Blk} {ob : Obj} (hnz : blk0.isZone = false)
    (hB : Stp M H w (M.alc id w.heap.size) (H.set id (some blk0)) (w.alloc ob) → Ids M (M.alc id w.heap.size) H.length → BRel (M.alc id w.heap.size) (w.alloc ob) id blk0) :
    Stp M H w (M.alc id w.heap.size) (H.set id (some blk0)) (w.alloc ob) ∧ Ids M (M.alc id w.heap.size) H.length ∧
    HRel (M.alc id w.heap.size) (w.alloc ob) (H.set id (some blk0)) := by
  have ha := free_al hr hf
  have hlt := free_lt hf
  have g := Grew.alloc w ob
  have hbl : ∀ i, i ≠ id → blOf (M.alc id w.heap.size) (H.set id (some blk0)) i = blOf M H i := by
    intro i hi
    unfold blOf
    rw [getElem?_set_ne hi]
    split <;> simp_all [Mm.alc]
  have hblid : blOf (M.alc id w.heap.size) (H.set id (some blk0)) id = some w.heap.size := by
    unfold blOf
    rw [List.getElem?_set_self hlt]
    cases blk0 <;> first | (simp [Blk.isZone] at hnz; done) | simp [Mm.alc]
  have hst : Stp M H w (M.alc id w.heap.size) (H.set id (some blk0)) (w.alloc ob) := {
    os := g.os
    tape := g.tape
    output := g.output
    size := g.size
    same := fun b hb _ => g.block b hb
    cells := fun b l o hb _ _ => g.cell hb
    limn := fun b hb hl => by simp only [Mm.alc]; rw [if_neg (by omega)]; exact hl
    lims := fun b l hb hl => ⟨l, by simp only [Mm.alc]; rw [if_neg (by omega)]; exact hl, Nat.le_refl _⟩
    limo := fun b hb _ => by simp only [Mm.alc]; rw [if_neg (by omega)]
    own := fun b hb ho => by
      obtain ⟨i, hi⟩ := ho
      by_cases e : i = id
      · subst e; rw [hblid] at hi; cases hi; omega
      · rw [hbl i e] at hi; exact ⟨i, hi⟩
    fm := rfl }
  have hid : Ids M (M.alc id w.heap.size) H.length := fun i _ hi => by
    have : i ≠ id := fun e => by subst e; rw [ha] at hi; cases hi
    simp only [Mm.alc, hi, Bool.or_true, true_and, if_neg this]
    exact Zle.refl _
  refine ⟨hst, hid, ⟨fun i => ?_, fun i blk hb => ?_, fun i i' b h1 h2 => ?_, hr.glo.step hst hr hid⟩⟩
  · by_cases e : i = id
    · subst e
      simp only [Mm.alc, decide_true, Bool.true_or, true_iff]
      exact ⟨_, List.getElem?_set_self hlt⟩
    · simp only [Mm.alc, e, decide_false, Bool.false_or]
      rw [getElem?_set_ne e]
      exact hr.dom i
  · by_cases e : i = id
    · subst e
      rw [List.getElem?_set_self hlt] at hb
      simp only [Option.some.injEq] at hb
      subst hb
      exact hB hst hid
    · rw [getElem?_set_ne e] at hb
      refine BRel.step hst hr hid hb (fun b hbl => ?_) rfl
      have hblt := hr.owned_lt ⟨i, hbl⟩
      refine ⟨g.block b hblt, ?_⟩
      simp only [Mm.alc]
      rw [if_neg (by omega)]
  · by_cases e : i = id
    · by_cases e' : i' = id
      · omega
      · subst e
        rw [hblid] at h1
        rw [hbl i' e'] at h2
        cases h1
        have := hr.owned_lt ⟨i', h2⟩
        omega
    · by_cases e' : i' = id
      · subst e'
        rw [hblid] at h2
        rw [hbl i e] at h1
        cases h2
        have := hr.owned_lt ⟨i, h1⟩
        omega
      · rw [hbl i e] at h1
        rw [hbl i' e'] at h2
        exact hr.inj i i' b h1 h2

theorem stp_alc (hr : HRel M w H) {id : Nat} (hf : isFree H id = true) {cs : List V} {xs : Array Value} {t : TypeId} (hc : EncL M w cs xs.toList) (hs : ∀ c ∈ cs, c.scal = true) :
    Stp M H w (M.alc id w.heap.size) (H.set id (some (.cells cs))) (w.alloc (.cells xs t)) ∧ Ids M (M.alc id w.heap.size) H.length ∧
    HRel (M.alc id w.heap.size) (w.alloc (.cells xs t)) (H.set id (some (.cells cs))) := by
  refine stp_alcG hr hf rfl fun hst hid => ?_
  simp only [BRel]
  refine ⟨hs, by simp [Mm.alc], xs, t, ?_, EncL.step hst hr hid hc⟩
  simp only [Mm.alc, if_true]
  exact heap_alloc_new w _

/-- A block gets other contents: it is no zone, and none of its cells stays. -/
def Mm.limit (M : Mm) (b l : Nat) : Mm := { M with lim := fun k => if k = b then some l else M.lim k }
theorem stp_put (hr : HRel M w H) {id : Nat} {blk0 blk1 : Blk} (hb : H[id]? = some (some blk0)) (h0 : blk0.isZone = false) (h1 : blk1.isZone = false) (hl0 : M.lim (M.j id) = some 0) (l : Nat)
    (os : w'.os = w.os) (tape : w'.tape = w.tape) (output : w'.output = w.output) (size : w'.heap.size = w.heap.size) (hoth : ∀ b, b ≠ M.j id → w'.heap[b]? = w.heap[b]?)
    (hB : Stp M H w (M.limit (M.j id) l) (H.set id (some blk1)) w' → Ids M (M.limit (M.j id) l) H.length → BRel (M.limit (M.j id) l) w' id blk1) :
    Stp M H w (M.limit (M.j id) l) (H.set id (some blk1)) w' ∧ Ids M (M.limit (M.j id) l) H.length ∧ HRel (M.limit (M.j id) l) w' (H.set id (some blk1)) := by
  have hlt : id < H.length := (List.getElem?_eq_some_iff.1 hb).1
  have ha : M.al id = true := (hr.dom id).2 ⟨_, hb⟩
  have hblo : blOf M H id = some (M.j id) := by
    unfold blOf
    rw [hb]
    cases blk0 <;> first | (simp [Blk.isZone] at h0; done) | rfl
  have hbl : ∀ i, blOf (M.limit (M.j id) l) (H.set id (some blk1)) i = blOf M H i := by
    intro i
    by_cases e : i = id
    · subst e
      rw [hblo]
      unfold blOf
      rw [List.getElem?_set_self hlt]
      cases blk1 <;> first | (simp [Blk.isZone] at h1; done) | rfl
    · unfold blOf; rw [getElem?_set_ne e]; rfl
  have hst : Stp M H w (M.limit (M.j id) l) (H.set id (some blk1)) w' := {
    os := os
    tape := tape
    output := output
    size := by rw [size]; exact Nat.le_refl _
    same := fun b _ ho => hoth b (fun e => ho ⟨id, by rw [hblo, e]⟩)
    cells := fun b l o _ hl ho => by
      by_cases e : b = M.j id
      · subst e; rw [hl0] at hl; cases hl; omega
      · exact World.cell?_of_block (w := w) (hoth b e)
    limn := fun b _ hl => by
      simp only [Mm.limit]
      rw [if_neg]; · exact hl
      intro e; subst e; rw [hl0] at hl; cases hl
    lims := fun b l' _ hl => by
      simp only [Mm.limit]
      by_cases e : b = M.j id
      · subst e; rw [hl0] at hl; cases hl; exact ⟨l, by simp, Nat.zero_le _⟩
      · exact ⟨l', by rw [if_neg e]; exact hl, Nat.le_refl _⟩
    limo := fun b _ ho => by
      simp only [Mm.limit]
      rw [if_neg]
      intro e; exact ho ⟨id, by rw [hblo, e]⟩
    own := fun b _ ho => by obtain ⟨i, hi⟩ := ho; exact ⟨i, by rw [← hbl]; exact hi⟩
    fm := rfl }
  have hid : Ids M (M.limit (M.j id) l) H.length := fun i _ hi => ⟨hi, rfl, Zle.refl _⟩
  refine ⟨hst, hid, ⟨fun i => ?_, fun i blk hi => ?_, fun i i' b h1 h2 => ?_, hr.glo.step hst hr hid⟩⟩
  · by_cases e : i = id
    · subst e; simp only [Mm.limit, ha, true_iff]; exact ⟨_, List.getElem?_set_self hlt⟩
    · rw [getElem?_set_ne e]; exact hr.dom i
  · by_cases e : i = id
    · subst e
      rw [List.getElem?_set_self hlt] at hi
      simp only [Option.some.injEq] at hi
      subst hi
      exact hB hst hid
    · rw [getElem?_set_ne e] at hi
      have hne : ∀ b, blOf M H i = some b → b ≠ M.j id := fun b hbl2 e2 => by subst e2; exact e (hr.inj i id _ hbl2 hblo)
      refine BRel.step hst hr hid hi (fun b hbl2 => ⟨hoth b (hne b hbl2), ?_⟩) rfl
      simp only [Mm.limit]
      rw [if_neg (hne b hbl2)]
  · rw [hbl] at h1 h2
    exact hr.inj i i' b h1 h2

/-- A block's cells are written. -/
theorem stp_set (hr : HRel M w H) {id : Nat} {cs ds : List V} (hb : H[id]? = some (some (.cells cs))) {xs : Array Value} {t : TypeId}
    (hx : w.heap[M.j id]? = some (.cells xs t (0, 0))) {ys : Array Value} (hd : EncL M w ds ys.toList) (hs : ∀ c ∈ ds, c.scal = true) :
    Stp M H w M (H.set id (some (.cells ds))) (w.setRow (M.j id) ys) ∧ Ids M M H.length ∧ HRel M (w.setRow (M.j id) ys) (H.set id (some (.cells ds))) := by
  have ha : M.al id = true := (hr.dom id).2 ⟨_, hb⟩
  have hlt := hr.lt ha
  have hblo : blOf M H id = some (M.j id) := by simp [blOf, hb]
  have hbl : ∀ i, blOf M (H.set id (some (.cells ds))) i = blOf M H i := by
    intro i
    by_cases e : i = id
    · subst e; rw [hblo]; unfold blOf; rw [List.getElem?_set_self hlt]
    · unfold blOf; rw [getElem?_set_ne e]
  have hl0 : M.lim (M.j id) = some 0 := by have := hr.rel id _ hb; simp only [BRel] at this; exact this.2.1
  have hoth : ∀ k, k ≠ M.j id → (w.setRow (M.j id) ys).heap[k]? = w.heap[k]? := fun k hk => setRow_other w (M.j id) k ys (fun e => hk e)
  have hst : Stp M H w M (H.set id (some (.cells ds))) (w.setRow (M.j id) ys) := {
    os := rfl
    tape := rfl
    output := rfl
    size := by simp [World.setRow]
    same := fun b hb2 ho => hoth b (fun e => ho ⟨id, by rw [hblo, e]⟩)
    cells := fun b l o hb2 hl ho => by
      by_cases e : b = M.j id
      · subst e; rw [hl0] at hl; cases hl; omega
      · exact World.cell?_of_block (w := w) (hoth b e)
    limn := fun _ _ hl => hl
    lims := fun b l _ hl => ⟨l, hl, Nat.le_refl _⟩
    limo := fun _ _ _ => rfl
    own := fun b _ ho => by obtain ⟨i, hi⟩ := ho; exact ⟨i, by rw [← hbl]; exact hi⟩
    fm := rfl }
  refine ⟨hst, Ids.refl _ _, ⟨fun i => ?_, fun i blk hi => ?_, fun i i' b h1 h2 => ?_, hr.glo.step hst hr (Ids.refl _ _)⟩⟩
  · by_cases e : i = id
    · subst e; simp only [ha, true_iff]; exact ⟨_, List.getElem?_set_self hlt⟩
    · rw [getElem?_set_ne e]; exact hr.dom i
  · by_cases e : i = id
    · subst e
      rw [List.getElem?_set_self hlt] at hi
      simp only [Option.some.injEq] at hi
      subst hi
      simp only [BRel]
      exact ⟨hs, hl0, ys, t, setRow_heap w (M.j i) xs ys t _ hx, EncL.step hst hr (Ids.refl _ _) hd⟩
    · rw [getElem?_set_ne e] at hi
      refine BRel.step hst hr (Ids.refl _ _) hi (fun b hbl2 => ⟨hoth b (fun e2 => ?_), rfl⟩) rfl
      subst e2
      exact e (hr.inj i id _ hbl2 hblo)
  · rw [hbl] at h1 h2
    exact hr.inj i i' b h1 h2

/-- A zone is begun, or grows. -/
def Mm.zon (M : Mm) (id : Nat) (z : Z) : Mm :=
  { M with al := fun i => decide (i = id) || M.al i, z := fun i => if i = id then z else M.z i,
           lim := fun k => if z.blk = some k then some (z.n * z.sz) else M.lim k }

theorem stp_zone (hr : HRel M w H) {id : Nat} {z : Z} (hf : isFree H id = true ∨ ∃ k, H[id]? = some (some (.zone k)))
    (os : w'.os = w.os) (tape : w'.tape = w.tape) (output : w'.output = w.output) (size : w.heap.size ≤ w'.heap.size)
    (hoth : ∀ b, b < w.heap.size → blOf M H id ≠ some b → w'.heap[b]? = w.heap[b]?)
    (hcell : ∀ b l o, blOf M H id = some b → M.lim b = some l → o < l → w'.cell? ⟨b, o, none⟩ = w.cell? ⟨b, o, none⟩)
    (hnew : ∀ b, z.blk = some b → w.heap.size ≤ b ∨ blOf M H id = some b)
    (hlim : ∀ b l, blOf M H id = some b → z.blk = some b → M.lim b = some l → l ≤ z.n * z.sz)
    (hle : M.al id = true → Zle (M.z id) z)
    (hz : match z.blk with
      | none => z.cap = z.n
      | some b => 0 < z.n ∧ z.n ≤ z.cap ∧ 0 < z.sz ∧ ∃ xs e, w'.heap[b]? = some (.cells xs e (0, 0)) ∧ xs.size = z.cap * z.sz) :
    Stp M H w (M.zon id z) (H.set id (some (.zone z.n))) w' ∧ Ids M (M.zon id z) H.length ∧ HRel (M.zon id z) w' (H.set id (some (.zone z.n))) := by
  have hlt : id < H.length := by
    rcases hf with hf | ⟨k, hf⟩
    · exact free_lt hf
    · exact (List.getElem?_eq_some_iff.1 hf).1
  have hset : (H.set id (some (Blk.zone z.n)))[id]? = some (some (.zone z.n)) := List.getElem?_set_self hlt
  have hblid : blOf (M.zon id z) (H.set id (some (.zone z.n))) id = z.blk := by simp only [blOf, hset, Mm.zon, if_true]
  have hbl : ∀ i, i ≠ id → blOf (M.zon id z) (H.set id (some (.zone z.n))) i = blOf M H i := by
    intro i hi
    unfold blOf
    rw [getElem?_set_ne hi]
    split <;> simp_all [Mm.zon]
  have hst : Stp M H w (M.zon id z) (H.set id (some (.zone z.n))) w' := {
    os := os
    tape := tape
    output := output
    size := size
    same := fun b hb ho => hoth b hb (fun e => ho ⟨id, e⟩)
    cells := fun b l o hb hl ho => by
      by_cases e : blOf M H id = some b
      · exact hcell b l o e hl ho
      · exact World.cell?_of_block (w := w) (hoth b hb e)
    limn := fun b hb hl => by
      simp only [Mm.zon]
      rw [if_neg]; · exact hl
      intro e
      rcases hnew b e with h | h
      · omega
      · obtain ⟨l, hl2⟩ := hr.owned_lim ⟨id, h⟩
        rw [hl] at hl2; cases hl2
    lims := fun b l hb hl => by
      by_cases e : z.blk = some b
      · refine ⟨z.n * z.sz, by simp only [Mm.zon, e, if_true], ?_⟩
        rcases hnew b e with h | h
        · omega
        · exact hlim b l h e hl
      · exact ⟨l, by simp only [Mm.zon]; rw [if_neg e]; exact hl, Nat.le_refl _⟩
    limo := fun b hb ho => by
      simp only [Mm.zon]
      rw [if_neg]
      intro e
      rcases hnew b e with h | h
      · omega
      · exact ho ⟨id, h⟩
    own := fun b hb ho => by
      obtain ⟨i, hi⟩ := ho
      by_cases e : i = id
      · subst e
        rw [hblid] at hi
        rcases hnew b hi with h | h
        · omega
        · exact ⟨i, h⟩
      · rw [hbl i e] at hi; exact ⟨i, hi⟩
    fm := rfl }
  have hid : Ids M (M.zon id z) H.length := fun i _ hi => by
    refine ⟨by simp only [Mm.zon, hi, Bool.or_true], rfl, ?_⟩
    simp only [Mm.zon]
    split
    · rename_i e; subst e; exact hle hi
    · exact Zle.refl _
  refine ⟨hst, hid, ⟨fun i => ?_, fun i blk hb => ?_, fun i i' b h1 h2 => ?_, hr.glo.step hst hr hid⟩⟩
  · by_cases e : i = id
    · subst e
      simp only [Mm.zon, decide_true, Bool.true_or, true_iff]
      exact ⟨_, hset⟩
    · simp only [Mm.zon, e, decide_false, Bool.false_or]
      rw [getElem?_set_ne e]
      exact hr.dom i
  · by_cases e : i = id
    · subst e
      rw [hset] at hb
      simp only [Option.some.injEq] at hb
      subst hb
      simp only [BRel, Mm.zon, if_true, true_and]
      cases hbk : z.blk with
      | none => simp only [hbk] at hz ⊢; exact hz
      | some b => simp only [hbk, if_true, true_and] at hz ⊢; exact hz
    · rw [getElem?_set_ne e] at hb
      refine BRel.step hst hr hid hb (fun b hbl2 => ?_) (by simp only [Mm.zon]; rw [if_neg e])
      have hblt := hr.owned_lt ⟨i, hbl2⟩
      have hne : blOf M H id ≠ some b := fun h => e (hr.inj i id b hbl2 h)
      refine ⟨hoth b hblt hne, ?_⟩
      simp only [Mm.zon]
      rw [if_neg]
      intro h
      rcases hnew b h with h | h
      · omega
      · exact hne h
  · by_cases e : i = id
    · by_cases e' : i' = id
      · omega
      · subst e
        rw [hblid] at h1
        rw [hbl i' e'] at h2
        rcases hnew b h1 with h | h
        · have := hr.owned_lt ⟨i', h2⟩; omega
        · exact (hr.inj i i' b h h2)
    · by_cases e' : i' = id
      · subst e'
        rw [hblid] at h2
        rw [hbl i e] at h1
        rcases hnew b h2 with h | h
        · have := hr.owned_lt ⟨i, h1⟩; omega
        · exact (hr.inj i i' b h1 h)
      · rw [hbl i e] at h1
        rw [hbl i' e'] at h2
        exact hr.inj i i' b h1 h2

/-- Free places behind. -/
theorem blOf_pad (M : Mm) (H : Heap) (m i : Nat) : blOf M (H ++ List.replicate m none) i = blOf M H i := by
  unfold blOf
  by_cases hi : i < H.length
  · rw [List.getElem?_append_left hi]
  · rw [List.getElem?_append_right (by omega), List.getElem?_eq_none (by omega : H.length ≤ i), List.getElem?_replicate]
    by_cases h : i - H.length < m <;> simp [h]
theorem get_pad (H : Heap) (m i : Nat) (blk : Blk) : (H ++ List.replicate m none)[i]? = some (some blk) ↔ H[i]? = some (some blk) := by
  by_cases hi : i < H.length
  · rw [List.getElem?_append_left hi]
  · rw [List.getElem?_append_right (by omega), List.getElem?_eq_none (by omega : H.length ≤ i), List.getElem?_replicate]
    by_cases h : i - H.length < m <;> simp [h]
theorem hrel_pad (hr : HRel M w H) (m : Nat) : HRel M w (H ++ List.replicate m none) :=
  ⟨fun i => (hr.dom i).trans (exists_congr fun blk => (get_pad H m i blk).symm), fun i blk hb => hr.rel i blk ((get_pad H m i blk).1 hb),
    fun i i' b h1 h2 => hr.inj i i' b (by rw [← blOf_pad M H m]; exact h1) (by rw [← blOf_pad M H m]; exact h2), hr.glo⟩
theorem stp_pad (M : Mm) (H : Heap) (w : World) (m : Nat) : Stp M H w M (H ++ List.replicate m none) w :=
  have own : ∀ b, Owned M (H ++ List.replicate m none) b → Owned M H b := fun b ⟨i, hi⟩ => ⟨i, by rw [← blOf_pad M H m]; exact hi⟩
  { Stp.refl M H w with own := fun b _ ho => own b ho }

/-- The numbers from n on are let go. -/
def Mm.upto (M : Mm) (n : Nat) : Mm := { M with al := fun i => decide (i < n) && M.al i }

theorem V.cl_scal (n : Nat) (c : V) (h : c.scal = true) : (c.cl n).scal = true := by
  cases c <;> first | (simp [V.scal] at h; done) | rfl | (simp only [V.cl]; split <;> rfl)
theorem V.cl_pure (n : Nat) (c : V) (h : c.pure = true) : c.cl n = c := by
  cases c <;> first
    | rfl
    | (simp [V.pure] at h; done)
    | (rename_i es tk; cases tk <;> first | rfl | (simp [V.pure] at h; done))
    | (rename_i f cap; cases cap <;> first | rfl | (simp [V.pure] at h; done))

theorem clL_eq_map (n : Nat) : ∀ cs : List V, clL n cs = cs.map (V.cl n)
  | [] => rfl
  | c :: cs => by simp [clL, clL_eq_map n cs]

theorem TkOk.upto {n : Nat} {es : List (List V)} {a : Option Addr} {cap : Nat} {tk : Tk} (h : TkOk M es a cap tk) :
    TkOk (M.upto n) es a cap (tk.cl n) := by
  cases tk with
  | no => trivial
  | full => exact h
  | own q =>
    simp only [Tk.cl]
    split
    · rename_i hq
      obtain ⟨a, b, c⟩ := h
      exact ⟨by simp [Mm.upto, hq, a], b, c⟩
    · trivial

mutual
/-- What a value says is said, but for the numbers that are let go. -/
theorem Enc.upto (n : Nat) : ∀ {c : V} {x : Value}, Enc M w c x → Enc (M.upto n) w (c.cl n) x
  | .undef, _, _ => by simp only [V.cl, Enc]
  | .skp, _, e => by simpa only [V.cl, Enc] using e
  | .any, _, e => by simpa only [V.cl, Enc] using e
  | .int _ _, _, e => by simpa only [V.cl, Enc] using e
  | .bool _, _, e => by simpa only [V.cl, Enc] using e
  | .str _, _, e => by simpa only [V.cl, Enc] using e
  | .nilp, _, e => by simpa only [V.cl, Enc] using e
  | .nilf, _, e => by simpa only [V.cl, Enc] using e
  | .nilm, _, e => by simpa only [V.cl, Enc] using e
  | .mp id, _, e => by
    simp only [V.cl]
    simp only [Enc] at e
    split
    · rename_i h; simp only [Enc]; exact ⟨by simp [Mm.upto, h, e.1], e.2⟩
    · simp only [Enc]; rw [e.2]; rfl
  | .ptr id off, _, e => by
    simp only [V.cl]
    simp only [Enc] at e
    split
    · rename_i h; simp only [Enc]; exact ⟨by simp [Mm.upto, h, e.1], e.2⟩
    · simp only [Enc]; rw [e.2]; rfl
  | .rs id off k _, _, e => by
    simp only [V.cl]
    simp only [Enc] at e
    split
    · rename_i h; simp only [Enc]; exact ⟨by simp [Mm.upto, h, e.1], e.2⟩
    · simp only [Enc]; obtain ⟨_, cap, rfl, _⟩ := e; rfl
  | .cptr cs, _, e => by
    simp only [V.cl, Enc] at e ⊢
    obtain ⟨p, b, o, hv, e⟩ := e
    exact ⟨p, b, o, hv, EncRow.upto n p e⟩
  | .vs es tk, _, e => by
    simp only [V.cl, Enc] at e ⊢
    obtain ⟨p, a, cap, hv, hc, hs, ht⟩ := e
    refine ⟨p, a, cap, hv, hc, ?_, ht.upto⟩
    cases a with
    | none => exact hs
    | some ad => exact ⟨hs.1, hs.2.1, EncRows.upto n p hs.2.2⟩
  | .fn f cap, _, e => by
    simp only [V.cl, Enc] at e ⊢
    obtain ⟨xs, hv, e⟩ := e
    exact ⟨xs, hv, EncL.upto n e⟩
  | .agg cs, _, e => by
    simp only [V.cl, Enc] at e ⊢
    obtain ⟨p, xs, hv, e⟩ := e
    refine ⟨fun c hc => ?_, xs, hv, EncL.upto n e⟩
    rw [clL_eq_map, List.mem_map] at hc
    obtain ⟨c', hc', rfl⟩ := hc
    exact V.cl_scal n c' (p c' hc')
  | .tup cs, _, e => by
    simp only [V.cl, Enc] at e ⊢
    obtain ⟨xs, hv, e⟩ := e
    exact ⟨xs, hv, EncL.upto n e⟩
theorem EncL.upto (n : Nat) : ∀ {cs : List V} {xs : List Value}, EncL M w cs xs → EncL (M.upto n) w (clL n cs) xs
  | [], _, e => by simpa only [clL, EncL] using e
  | c :: cs, _, e => by
    simp only [clL, EncL] at e ⊢
    obtain ⟨x, xs', hv, e1, e2⟩ := e
    exact ⟨x, xs', hv, Enc.upto n e1, EncL.upto n e2⟩
theorem EncRow.upto (n : Nat) {b : Nat} : ∀ {cs : List V} {o : Nat}, (∀ c ∈ cs, c.pure = true) → EncRow M w b cs o → EncRow (M.upto n) w b cs o
  | [], _, _, _ => by simp only [EncRow]
  | c :: cs, o, p, e => by
    simp only [EncRow] at e ⊢
    obtain ⟨⟨x, hx, rd, e1⟩, e2⟩ := e
    refine ⟨⟨x, hx, rd, ?_⟩, EncRow.upto n (fun d hd => p d (by simp [hd])) e2⟩
    have := Enc.upto n e1
    rwa [V.cl_pure n c (p c (by simp))] at this
theorem EncRows.upto (n : Nat) {b : Nat} : ∀ {es : List (List V)} {o : Nat}, (∀ e ∈ es, ∀ c ∈ e, c.pure = true) → EncRows M w b es o → EncRows (M.upto n) w b es o
  | [], _, _, _ => by simp only [EncRows]
  | e :: es, o, p, k => by
    simp only [EncRows] at k ⊢
    exact ⟨EncRow.upto n (p e (by simp)) k.1, EncRows.upto n (fun d hd => p d (by simp [hd])) k.2⟩
end

theorem trunc_get (n : Nat) (H : Heap) (i : Nat) : (trunc n H)[i]? = if i < n then (H[i]?).map (Option.map (Blk.cl n)) else none := by
  unfold trunc
  rw [List.getElem?_map, List.getElem?_take]
  split <;> simp

theorem blOf_upto (M : Mm) (H : Heap) (n i b : Nat) (h : blOf (M.upto n) (trunc n H) i = some b) : blOf M H i = some b := by
  unfold blOf at h ⊢
  rw [trunc_get] at h
  by_cases hi : i < n
  · rw [if_pos hi] at h
    cases hh : H[i]? with
    | none => simp [hh] at h
    | some o => cases o with
      | none => simp [hh] at h
      | some blk => cases blk <;> simpa [hh, Blk.cl, Mm.upto] using h
  · rw [if_neg hi] at h; cases h

theorem stp_upto (hr : HRel M w H) (n : Nat) : Stp M H w (M.upto n) (trunc n H) w ∧ Ids M (M.upto n) n ∧ HRel (M.upto n) w (trunc n H) := by
  have hbl := blOf_upto M H n
  have hst : Stp M H w (M.upto n) (trunc n H) w :=
    { Stp.refl M H w with
      limn := fun _ _ h => h
      lims := fun _ l _ h => ⟨l, h, Nat.le_refl _⟩
      limo := fun _ _ _ => rfl
      own := fun b _ ho => by obtain ⟨i, hi⟩ := ho; exact ⟨i, hbl i b hi⟩
      fm := rfl }
  have scl : ∀ cs : List V, (∀ c ∈ cs, c.scal = true) → ∀ c ∈ clL n cs, c.scal = true := fun cs a v hv => by
    rw [clL_eq_map, List.mem_map] at hv
    obtain ⟨c', hc', rfl⟩ := hv
    exact V.cl_scal n c' (a c' hc')
  refine ⟨hst, fun i hi ha => ⟨by simp [Mm.upto, hi, ha], rfl, Zle.refl _⟩, ⟨fun i => ?_, fun i blk hb => ?_, fun i i' b h1 h2 => hr.inj i i' b (hbl i b h1) (hbl i' b h2), fun g cs hg => ?_⟩⟩
  · rw [trunc_get]
    by_cases hi : i < n
    · simp only [Mm.upto, hi, decide_true, Bool.true_and, if_true]
      rw [hr.dom i]
      constructor
      · rintro ⟨blk, hb⟩; exact ⟨blk.cl n, by simp [hb]⟩
      · rintro ⟨blk, hb⟩
        cases hh : H[i]? with
        | none => simp [hh] at hb
        | some o => cases o with
          | none => simp [hh] at hb
          | some b => exact ⟨b, rfl⟩
    · simp [Mm.upto, hi]
  · rw [trunc_get] at hb
    split at hb
    · rename_i hi
      cases hh : H[i]? with
      | none => simp [hh] at hb
      | some o => cases o with
        | none => simp [hh] at hb
        | some b0 =>
          simp only [hh, Option.map_some, Option.some.injEq] at hb
          subst hb
          have h0 := hr.rel i b0 hh
          cases b0 with
          | cells cs =>
            simp only [BRel, Blk.cl] at h0 ⊢
            obtain ⟨a, b, xs, e, c, d⟩ := h0
            exact ⟨scl cs a, b, xs, e, c, EncL.upto n d⟩
          | zone k => simpa only [BRel, Blk.cl, Mm.upto] using h0
          | froz cs =>
            simp only [BRel, Blk.cl] at h0 ⊢
            obtain ⟨a, b, xs, e, c, d⟩ := h0
            refine ⟨fun v hv => ?_, by rw [clL_eq_map, List.length_map]; exact b, xs, e, c, EncL.upto n d⟩
            rw [clL_eq_map, List.mem_map] at hv
            obtain ⟨c', hc', rfl⟩ := hv
            rw [V.cl_pure n c' (a c' hc')]; exact a c' hc'
          | map es =>
            simp only [BRel, Blk.cl] at h0 ⊢
            obtain ⟨b, ents, c, d, d', f⟩ := h0
            refine ⟨b, ents, by rw [List.length_map]; exact c, ?_, ?_, f⟩
            · have := EncL.upto n d
              rw [clL_eq_map, List.map_map] at this
              rw [List.map_map]; exact this
            · have := EncL.upto n d'
              rw [clL_eq_map, List.map_map] at this
              rw [List.map_map]; exact this
          | siter t pos => simpa only [BRel, Blk.cl, Mm.upto] using h0
    · cases hb
  · have := Enc.upto n (hr.glo g cs hg)
    simpa only [V.cl] using this

end Go.Ev
