/- Canonical values of a simplified reading of Go functions, and how they lie in the model's memory. -/
import Derived.WalkKit
import Derived.Orders
namespace Go.Ev
open Go Go.RowKit

/-- What is known of a slice's spare room: nothing; there is none; it is held by zone number q. -/
inductive Tk where
  | no | full | own (q : Nat)
  deriving DecidableEq

/-- Values. `ptr id off`: into block number id; `cptr`: to cells that stay; `vs`: a slice whose elements stay (each a list of cells);
`rs`: a slice of a block that may be written. -/
inductive V where
  | undef
  | skp
  | any
  | int (k : IntKind) (n : Int)
  | bool (b : Bool)
  | str (s : List UInt8)
  | nilp
  | ptr (id off : Nat)
  | cptr (cs : List V)
  | vs (es : List (List V)) (tk : Tk)
  | rs (id off n sz : Nat)
  | fn (f : Nat) (cap : List V)
  | nilf
  | agg (cs : List V)
  | tup (cs : List V)
  | mp (id : Nat)
  | nilm

/-- A value of one cell. -/
def V.scal : V → Bool
  | .undef | .skp | .agg _ | .tup _ => false
  | _ => true
/-- A value that names no block (its contents, where it has some, name none by `Enc`). -/
def V.pure : V → Bool
  | .int _ _ | .bool _ | .str _ | .nilp | .cptr _ | .nilf | .nilm => true
  | .vs _ (.own _) => false
  | .vs _ _ => true
  | .fn _ [] => true
  | _ => false
theorem V.scal_of_pure {c : V} (h : c.pure = true) : c.scal = true := by cases c <;> simp_all [V.pure, V.scal]

/-- A zone: how many elements, in which block (none: in none yet), its room, an element's cells. -/
structure Z where
  n : Nat
  blk : Option Nat
  cap : Nat
  sz : Nat

/-- What functions' numbers stand for, and the cells of global variables that stay. -/
structure Fm where
  fn : Nat → FuncId
  gl : Nat → Option (List V)
instance : CoeFun Fm fun _ => Nat → FuncId := ⟨Fm.fn⟩

/-- What canonical numbers stand for: which numbers are in use, their blocks; how many cells of a block stay (none: all); zones; functions. -/
structure Mm where
  al : Nat → Bool
  j : Nat → Nat
  lim : Nat → Option Nat
  z : Nat → Z
  fm : Fm

/-- A cell that stays. -/
def Rd (M : Mm) (b o : Nat) : Prop := ∀ l, M.lim b = some l → o < l

def TkOk (M : Mm) (es : List (List V)) (a : Option Addr) (cap : Nat) : Tk → Prop
  | .no => True
  | .full => cap = es.length
  | .own q => M.al q = true ∧ es.length ≤ (M.z q).n ∧ (es.length = (M.z q).n → cap = (M.z q).cap ∧
      match (M.z q).blk with
      | none => cap = es.length
      | some b => a = some ⟨b, 0, none⟩ ∧ ∀ e ∈ es, e.length = (M.z q).sz)

mutual
def Enc (M : Mm) (w : World) : V → Value → Prop
  | .undef, _ => True
  | .skp, v => v = undef
  | .any, v => v.oneCell' = true
  | .int k n, v => v = .int k n
  | .bool b, v => v = .bool b
  | .str s, v => v = .string ⟨s.toArray⟩
  | .nilp, v => v = .pointer none
  | .ptr id off, v => M.al id = true ∧ v = .pointer (some ⟨M.j id, off, none⟩)
  | .cptr cs, v => (∀ c ∈ cs, c.pure = true) ∧ ∃ b o, v = .pointer (some ⟨b, o, none⟩) ∧ EncRow M w b cs o
  | .vs es tk, v => (∀ e ∈ es, ∀ c ∈ e, c.pure = true) ∧ ∃ a cap, v = .slice a es.length cap ∧ es.length ≤ cap ∧
      (match a with
        | none => es = [] ∧ cap = 0
        | some ad => (es = [] ∨ ad.spot = none) ∧ (∃ sz, ∀ e ∈ es, e.length = sz) ∧ EncRows M w ad.block es ad.off) ∧ TkOk M es a cap tk
  | .rs id off n _, v => M.al id = true ∧ ∃ cap, v = .slice (some ⟨M.j id, off, none⟩) n cap ∧ n ≤ cap
  | .fn f cap, v => ∃ xs : List Value, v = .func (.func (M.fm f)) #[] xs.toArray ∧ EncL M w cap xs
  | .nilf, v => v = .nilFunc
  | .agg cs, v => (∀ c ∈ cs, c.scal = true) ∧ ∃ xs : List Value, v = .agg xs.toArray ∧ EncL M w cs xs
  | .tup cs, v => ∃ xs : List Value, v = .tuple xs.toArray ∧ EncL M w cs xs
  | .mp id, v => M.al id = true ∧ v = .map (some (M.j id))
  | .nilm, v => v = .map none
def EncL (M : Mm) (w : World) : List V → List Value → Prop
  | [], xs => xs = []
  | c :: cs, xs => ∃ x xs', xs = x :: xs' ∧ Enc M w c x ∧ EncL M w cs xs'
def EncRow (M : Mm) (w : World) (b : Nat) : List V → Nat → Prop
  | [], _ => True
  | c :: cs, o => (∃ x, w.cell? ⟨b, o, none⟩ = some x ∧ Rd M b o ∧ Enc M w c x) ∧ EncRow M w b cs (o + 1)
def EncRows (M : Mm) (w : World) (b : Nat) : List (List V) → Nat → Prop
  | [], _ => True
  | e :: es, o => EncRow M w b e o ∧ EncRows M w b es (o + e.length)
end

/-- A block. -/
inductive Blk where
  | cells (cs : List V)
  | zone (n : Nat)
  | froz (cs : List V)
  | map (es : List (V × V))
  | siter (s : List UInt8) (pos : Nat)
abbrev Heap := List (Option Blk)

/-- A block number's block in memory, if it has one that may be written. -/
def blOf (M : Mm) (H : Heap) (id : Nat) : Option Nat :=
  match H[id]? with
  | some (some (.zone _)) => (M.z id).blk
  | some (some _) => some (M.j id)
  | _ => none
def Owned (M : Mm) (H : Heap) (b : Nat) : Prop := ∃ id, blOf M H id = some b

def BRel (M : Mm) (w : World) (id : Nat) : Blk → Prop
  | .cells cs => (∀ c ∈ cs, c.scal = true) ∧ M.lim (M.j id) = some 0 ∧ ∃ xs e, w.heap[M.j id]? = some (.cells xs e (0, 0)) ∧ EncL M w cs xs.toList
  | .zone n => (M.z id).n = n ∧
      match (M.z id).blk with
      | none => (M.z id).cap = n
      | some b => 0 < n ∧ n ≤ (M.z id).cap ∧ 0 < (M.z id).sz ∧ M.lim b = some (n * (M.z id).sz) ∧ ∃ xs e, w.heap[b]? = some (.cells xs e (0, 0)) ∧ xs.size = (M.z id).cap * (M.z id).sz
  | .froz cs => (∀ c ∈ cs, c.pure = true) ∧ M.lim (M.j id) = some cs.length ∧ ∃ xs e, w.heap[M.j id]? = some (.cells xs e (0, 0)) ∧ EncL M w cs xs.toList
  | .map es => M.lim (M.j id) = some 0 ∧ ∃ ents : Array MapEntry, w.heap[M.j id]? = some (.map ents es.length) ∧ EncL M w (es.map (·.1)) (ents.toList.map (·.key)) ∧ EncL M w (es.map (·.2)) (ents.toList.map (·.val)) ∧
      ∀ (i : Nat) (x : MapEntry), ents[i]? = some x → x.born = i
  | .siter s pos => M.lim (M.j id) = some 0 ∧ w.heap[M.j id]? = some (.stringIter ⟨s.toArray⟩ pos)

/-- The global variables that stay. -/
def GOk (M : Mm) (w : World) : Prop := ∀ g cs, M.fm.gl g = some cs → Enc M w (.cptr cs) (.pointer (some ⟨g, 0, none⟩))

structure HRel (M : Mm) (w : World) (H : Heap) : Prop where
  dom : ∀ id, M.al id = true ↔ ∃ blk, H[id]? = some (some blk)
  rel : ∀ id blk, H[id]? = some (some blk) → BRel M w id blk
  inj : ∀ id id' b, blOf M H id = some b → blOf M H id' = some b → id = id'
  glo : GOk M w

/-- One zone later than another. -/
def Zle (a b : Z) : Prop := a.n ≤ b.n ∧ (a.n = b.n → a = b)
theorem Zle.refl (a : Z) : Zle a a := ⟨Nat.le_refl _, fun _ => rfl⟩
theorem Zle.trans {a b c : Z} (h : Zle a b) (k : Zle b c) : Zle a c :=
  ⟨Nat.le_trans h.1 k.1, fun e => by have h1 := h.1; have k1 := k.1; rw [h.2 (by omega), k.2 (by omega)]⟩

/-- From one state of memory to a later one. -/
structure Stp (M : Mm) (H : Heap) (w : World) (M' : Mm) (H' : Heap) (w' : World) : Prop where
  os : w'.os = w.os
  tape : w'.tape = w.tape
  output : w'.output = w.output
  size : w.heap.size ≤ w'.heap.size
  same : ∀ b, b < w.heap.size → ¬ Owned M H b → w'.heap[b]? = w.heap[b]?
  cells : ∀ b l o, b < w.heap.size → M.lim b = some l → o < l → w'.cell? ⟨b, o, none⟩ = w.cell? ⟨b, o, none⟩
  limn : ∀ b, b < w.heap.size → M.lim b = none → M'.lim b = none
  lims : ∀ b l, b < w.heap.size → M.lim b = some l → ∃ l', M'.lim b = some l' ∧ l ≤ l'
  limo : ∀ b, b < w.heap.size → ¬ Owned M H b → M'.lim b = M.lim b
  own : ∀ b, b < w.heap.size → Owned M' H' b → Owned M H b
  fm : M'.fm = M.fm

/-- The numbers below n that are in use stay so, and stand for what they stood for. -/
def Ids (M M' : Mm) (n : Nat) : Prop := ∀ id, id < n → M.al id = true → M'.al id = true ∧ M'.j id = M.j id ∧ Zle (M.z id) (M'.z id)

theorem Ids.refl (M : Mm) (n : Nat) : Ids M M n := fun _ _ h => ⟨h, rfl, Zle.refl _⟩
theorem Ids.trans {M M' M'' : Mm} {n m : Nat} (h : Ids M M' n) (k : Ids M' M'' m) (hn : n ≤ m) : Ids M M'' n := fun id hi ha => by
  obtain ⟨a, b, c⟩ := h id hi ha
  obtain ⟨a', b', c'⟩ := k id (by omega) a
  exact ⟨a', b'.trans b, c.trans c'⟩
theorem Ids.mono {M M' : Mm} {n m : Nat} (h : Ids M M' n) (hm : m ≤ n) : Ids M M' m := fun id hi => h id (by omega)

theorem HRel.lt {M : Mm} {w : World} {H : Heap} (h : HRel M w H) {id : Nat} (ha : M.al id = true) : id < H.length := by
  obtain ⟨blk, hb⟩ := (h.dom id).1 ha
  exact (List.getElem?_eq_some_iff.1 hb).1

theorem Stp.refl (M : Mm) (H : Heap) (w : World) : Stp M H w M H w :=
  ⟨rfl, rfl, rfl, Nat.le_refl _, fun _ _ _ => rfl, fun _ _ _ _ _ _ => rfl, fun _ _ h => h, fun _ l _ h => ⟨l, h, Nat.le_refl _⟩, fun _ _ _ => rfl, fun _ _ h => h, rfl⟩

theorem Stp.trans {M M' M'' : Mm} {H H' H'' : Heap} {w w' w'' : World} (h : Stp M H w M' H' w') (k : Stp M' H' w' M'' H'' w'') : Stp M H w M'' H'' w'' where
  os := k.os.trans h.os
  tape := k.tape.trans h.tape
  output := k.output.trans h.output
  size := Nat.le_trans h.size k.size
  same b hb ho := (k.same b (Nat.lt_of_lt_of_le hb h.size) (fun o => ho (h.own b hb o))).trans (h.same b hb ho)
  cells b l o hb hl ho := by
    obtain ⟨l', hl', hle⟩ := h.lims b l hb hl
    exact (k.cells b l' o (Nat.lt_of_lt_of_le hb h.size) hl' (by omega)).trans (h.cells b l o hb hl ho)
  limn b hb hl := k.limn b (Nat.lt_of_lt_of_le hb h.size) (h.limn b hb hl)
  lims b l hb hl := by
    obtain ⟨l', hl', hle⟩ := h.lims b l hb hl
    obtain ⟨l'', hl'', hle'⟩ := k.lims b l' (Nat.lt_of_lt_of_le hb h.size) hl'
    exact ⟨l'', hl'', by omega⟩
  limo b hb ho := (k.limo b (Nat.lt_of_lt_of_le hb h.size) (fun o => ho (h.own b hb o))).trans (h.limo b hb ho)
  own b hb o := h.own b hb (k.own b (Nat.lt_of_lt_of_le hb h.size) o)
  fm := k.fm.trans h.fm

/-- What is owned has a limit. -/
theorem HRel.owned_lim {M : Mm} {w : World} {H : Heap} (h : HRel M w H) {b : Nat} (ho : Owned M H b) : ∃ l, M.lim b = some l := by
  obtain ⟨id, hid⟩ := ho
  unfold blOf at hid
  split at hid
  · rename_i n hb
    have := h.rel id _ hb
    simp only [BRel, hid] at this
    exact ⟨_, this.2.2.2.2.1⟩
  · rename_i blk hn hb
    simp only [Option.some.injEq] at hid
    subst hid
    have := h.rel id _ hb
    cases blk with
    | zone n => exact absurd rfl (hn n)
    | cells cs => simp only [BRel] at this; exact ⟨_, this.2.1⟩
    | froz cs => simp only [BRel] at this; exact ⟨_, this.2.1⟩
    | map es => simp only [BRel] at this; exact ⟨_, this.1⟩
    | siter t pos => simp only [BRel] at this; exact ⟨_, this.1⟩
  · cases hid

/-- A cell that stays reads later as it does now. -/
theorem Stp.rd {M M' : Mm} {H H' : Heap} {w w' : World} (h : Stp M H w M' H' w') (hr : HRel M w H) {b o : Nat} {x : Value}
    (hx : w.cell? ⟨b, o, none⟩ = some x) (rd : Rd M b o) : w'.cell? ⟨b, o, none⟩ = some x ∧ Rd M' b o := by
  have hb : b < w.heap.size := World.block_lt_of_cell? w _ hx
  cases hl : M.lim b with
  | none =>
    have hno : ¬ Owned M H b := fun ho => by obtain ⟨l, hl'⟩ := hr.owned_lim ho; rw [hl] at hl'; cases hl'
    exact ⟨(World.cell?_of_block (w := w) (h.same b hb hno)).trans hx, fun l hl' => by rw [h.limn b hb hl] at hl'; cases hl'⟩
  | some l =>
    have ho := rd l hl
    obtain ⟨l', hl', hle⟩ := h.lims b l hb hl
    exact ⟨(h.cells b l o hb hl ho).trans hx, fun l2 hl2 => by rw [hl'] at hl2; cases hl2; omega⟩


theorem encL_length {M : Mm} {w : World} : ∀ {cs : List V} {xs : List Value}, EncL M w cs xs → xs.length = cs.length
  | [], xs, h => by simp only [EncL] at h; simp [h]
  | c :: cs, xs, h => by
    simp only [EncL] at h
    obtain ⟨x, xs', rfl, _, h⟩ := h
    simp [encL_length h]

theorem encL_get {M : Mm} {w : World} : ∀ {cs : List V} {xs : List Value}, EncL M w cs xs → ∀ {i : Nat} {c : V}, cs[i]? = some c → ∃ x, xs[i]? = some x ∧ Enc M w c x
  | [], _, _, i, c, hc => by simp at hc
  | c :: cs, xs, h, i, c', hc => by
    simp only [EncL] at h
    obtain ⟨x, xs', rfl, h1, h⟩ := h
    cases i with
    | zero => simp at hc; subst hc; exact ⟨x, by simp, h1⟩
    | succ i => simp at hc; simpa using encL_get h hc

theorem encL_of {M : Mm} {w : World} : ∀ {cs : List V} {xs : List Value}, xs.length = cs.length → (∀ (i : Nat) (c : V) (x : Value), cs[i]? = some c → xs[i]? = some x → Enc M w c x) → EncL M w cs xs
  | [], xs, hl, _ => by simp only [EncL]; exact List.eq_nil_of_length_eq_zero hl
  | c :: cs, [], hl, _ => by simp at hl
  | c :: cs, x :: xs, hl, h => by
    simp only [EncL]
    exact ⟨x, xs, rfl, h 0 c x (by simp) (by simp), encL_of (by simpa using hl) (fun i c' x' hc hx => h (i + 1) c' x' (by simpa using hc) (by simpa using hx))⟩

theorem encL_append {M : Mm} {w : World} {cs ds : List V} {xs ys : List Value} (h : EncL M w cs xs) (k : EncL M w ds ys) : EncL M w (cs ++ ds) (xs ++ ys) := by
  have hl := encL_length h
  have kl := encL_length k
  refine encL_of (by simp [hl, kl]) fun i c x hc hx => ?_
  rw [List.getElem?_append] at hc hx
  rw [hl] at hx
  split at hc
  · rename_i hi
    rw [if_pos hi] at hx
    obtain ⟨x', hx', he⟩ := encL_get h hc
    rw [hx] at hx'; cases hx'; exact he
  · rename_i hi
    rw [if_neg hi] at hx
    obtain ⟨x', hx', he⟩ := encL_get k hc
    rw [hx] at hx'; cases hx'; exact he

theorem encL_take {M : Mm} {w : World} {cs : List V} {xs : List Value} (h : EncL M w cs xs) (n : Nat) : EncL M w (cs.take n) (xs.take n) := by
  have hl := encL_length h
  refine encL_of (by simp [hl]) fun i c x hc hx => ?_
  rw [List.getElem?_take] at hc hx
  split at hc
  · rename_i hi
    rw [if_pos hi] at hx
    obtain ⟨x', hx', he⟩ := encL_get h hc
    rw [hx] at hx'; cases hx'; exact he
  · cases hc

theorem encL_drop {M : Mm} {w : World} {cs : List V} {xs : List Value} (h : EncL M w cs xs) (n : Nat) : EncL M w (cs.drop n) (xs.drop n) := by
  have hl := encL_length h
  refine encL_of (by simp [hl]) fun i c x hc hx => ?_
  rw [List.getElem?_drop] at hc hx
  obtain ⟨x', hx', he⟩ := encL_get h hc
  rw [hx] at hx'; cases hx'; exact he

theorem encRow_get {M : Mm} {w : World} {b : Nat} : ∀ {cs : List V} {o : Nat}, EncRow M w b cs o → ∀ {i : Nat} {c : V}, cs[i]? = some c → ∃ x, w.cell? ⟨b, o + i, none⟩ = some x ∧ Rd M b (o + i) ∧ Enc M w c x
  | [], _, _, i, c, hc => by simp at hc
  | c :: cs, o, h, i, c', hc => by
    simp only [EncRow] at h
    obtain ⟨⟨x, hx, hr, he⟩, h⟩ := h
    cases i with
    | zero => simp at hc; subst hc; exact ⟨x, by simpa using hx, by simpa using hr, he⟩
    | succ i =>
      simp at hc
      have := encRow_get h hc
      rw [show o + 1 + i = o + (i + 1) by omega] at this
      exact this

theorem encRow_of {M : Mm} {w : World} {b : Nat} : ∀ {cs : List V} {o : Nat}, (∀ (i : Nat) (c : V), cs[i]? = some c → ∃ x, w.cell? ⟨b, o + i, none⟩ = some x ∧ Rd M b (o + i) ∧ Enc M w c x) → EncRow M w b cs o
  | [], _, _ => by simp only [EncRow]
  | c :: cs, o, h => by
    simp only [EncRow]
    refine ⟨by simpa using h 0 c (by simp), encRow_of fun i c' hc => ?_⟩
    rw [show o + 1 + i = o + (i + 1) by omega]
    exact h (i + 1) c' (by simpa using hc)

theorem encRow_iff {M : Mm} {w : World} {b : Nat} {cs : List V} {o : Nat} : EncRow M w b cs o ↔ ∀ (i : Nat) (c : V), cs[i]? = some c → ∃ x, w.cell? ⟨b, o + i, none⟩ = some x ∧ Rd M b (o + i) ∧ Enc M w c x :=
  ⟨fun h _ _ hc => encRow_get h hc, encRow_of⟩

theorem encRow_append {M : Mm} {w : World} {b : Nat} {cs ds : List V} {o : Nat} : EncRow M w b (cs ++ ds) o ↔ EncRow M w b cs o ∧ EncRow M w b ds (o + cs.length) := by
  induction cs generalizing o with
  | nil => simp [EncRow]
  | cons c cs ih =>
    simp only [List.cons_append, EncRow, ih, List.length_cons]
    rw [show o + 1 + cs.length = o + (cs.length + 1) by omega]
    exact and_assoc.symm

theorem encRows_iff {M : Mm} {w : World} {b : Nat} {es : List (List V)} {o : Nat} : EncRows M w b es o ↔ EncRow M w b es.flatten o := by
  induction es generalizing o with
  | nil => simp [EncRow, EncRows]
  | cons e es ih => simp only [EncRows, List.flatten_cons, encRow_append, ih]

theorem encRows_append {M : Mm} {w : World} {b : Nat} {es fs : List (List V)} {o : Nat} : EncRows M w b (es ++ fs) o ↔ EncRows M w b es o ∧ EncRows M w b fs (o + es.flatten.length) := by
  simp only [encRows_iff, List.flatten_append, encRow_append]

/-- A canonical scalar value lies in one cell. -/
theorem enc_one {M : Mm} {w : World} {c : V} {x : Value} (h : Enc M w c x) (hs : c.scal = true) : x.oneCell' = true := by
  cases c <;> simp only [V.scal, Bool.false_eq_true] at hs <;> simp only [Enc] at h
  case any => exact h
  case int => subst h; rfl
  case bool => subst h; rfl
  case str => subst h; rfl
  case nilp => subst h; rfl
  case ptr => obtain ⟨_, rfl⟩ := h; rfl
  case cptr => obtain ⟨_, _, _, rfl, _⟩ := h; rfl
  case vs => obtain ⟨_, _, _, rfl, _⟩ := h; rfl
  case rs => obtain ⟨_, _, rfl, _⟩ := h; rfl
  case fn => obtain ⟨_, rfl, _⟩ := h; rfl
  case nilf => subst h; rfl
  case mp => obtain ⟨_, rfl⟩ := h; rfl
  case nilm => subst h; rfl

mutual
theorem Enc.step {M M' : Mm} {H H' : Heap} {w w' : World} (h : Stp M H w M' H' w') (hr : HRel M w H) (hi : Ids M M' H.length) : ∀ {c : V} {x : Value}, Enc M w c x → Enc M' w' c x
  | .undef, _, _ => by simp only [Enc]
  | .skp, _, e => by simpa only [Enc] using e
  | .any, _, e => by simpa only [Enc] using e
  | .int _ _, _, e => by simpa only [Enc] using e
  | .bool _, _, e => by simpa only [Enc] using e
  | .str _, _, e => by simpa only [Enc] using e
  | .nilp, _, e => by simpa only [Enc] using e
  | .ptr id off, _, e => by
    simp only [Enc] at e ⊢
    obtain ⟨a, b, _⟩ := hi id (hr.lt e.1) e.1
    exact ⟨a, by rw [b]; exact e.2⟩
  | .cptr cs, _, e => by
    simp only [Enc] at e ⊢
    obtain ⟨p, b, o, hv, e⟩ := e
    exact ⟨p, b, o, hv, EncRow.step h hr hi e⟩
  | .vs es tk, _, e => by
    simp only [Enc] at e ⊢
    obtain ⟨p, a, cap, hv, hc, hs, ht⟩ := e
    refine ⟨p, a, cap, hv, hc, ?_, ?_⟩
    · cases a with
      | none => exact hs
      | some ad => exact ⟨hs.1, hs.2.1, EncRows.step h hr hi hs.2.2⟩
    · cases tk with
      | no => trivial
      | full => exact ht
      | own q =>
        obtain ⟨t1, t2, t3⟩ := ht
        obtain ⟨a', _, z⟩ := hi q (hr.lt t1) t1
        refine ⟨a', Nat.le_trans t2 z.1, fun hn => ?_⟩
        have hz := z.1
        have : (M.z q).n = (M'.z q).n := by omega
        have := z.2 this
        rw [← this] at hn ⊢
        exact t3 hn
  | .rs id off n _, _, e => by
    simp only [Enc] at e ⊢
    obtain ⟨a, b, _⟩ := hi id (hr.lt e.1) e.1
    exact ⟨a, by rw [b]; exact e.2⟩
  | .fn f cap, _, e => by
    simp only [Enc] at e ⊢
    obtain ⟨xs, hv, e⟩ := e
    exact ⟨xs, by rw [h.fm]; exact hv, EncL.step h hr hi e⟩
  | .nilf, _, e => by simpa only [Enc] using e
  | .nilm, _, e => by simpa only [Enc] using e
  | .mp id, _, e => by
    simp only [Enc] at e ⊢
    obtain ⟨a, b, _⟩ := hi id (hr.lt e.1) e.1
    exact ⟨a, by rw [b]; exact e.2⟩
  | .agg cs, _, e => by
    simp only [Enc] at e ⊢
    obtain ⟨p, xs, hv, e⟩ := e
    exact ⟨p, xs, hv, EncL.step h hr hi e⟩
  | .tup cs, _, e => by
    simp only [Enc] at e ⊢
    obtain ⟨xs, hv, e⟩ := e
    exact ⟨xs, hv, EncL.step h hr hi e⟩
theorem EncL.step {M M' : Mm} {H H' : Heap} {w w' : World} (h : Stp M H w M' H' w') (hr : HRel M w H) (hi : Ids M M' H.length) : ∀ {cs : List V} {xs : List Value}, EncL M w cs xs → EncL M' w' cs xs
  | [], _, e => by simpa only [EncL] using e
  | c :: cs, _, e => by
    simp only [EncL] at e ⊢
    obtain ⟨x, xs', hv, e1, e2⟩ := e
    exact ⟨x, xs', hv, Enc.step h hr hi e1, EncL.step h hr hi e2⟩
theorem EncRow.step {M M' : Mm} {H H' : Heap} {w w' : World} (h : Stp M H w M' H' w') (hr : HRel M w H) (hi : Ids M M' H.length) {b : Nat} : ∀ {cs : List V} {o : Nat}, EncRow M w b cs o → EncRow M' w' b cs o
  | [], _, _ => by simp only [EncRow]
  | c :: cs, o, e => by
    simp only [EncRow] at e ⊢
    obtain ⟨⟨x, hx, rd, e1⟩, e2⟩ := e
    have := h.rd hr hx rd
    exact ⟨⟨x, this.1, this.2, Enc.step h hr hi e1⟩, EncRow.step h hr hi e2⟩
theorem EncRows.step {M M' : Mm} {H H' : Heap} {w w' : World} (h : Stp M H w M' H' w') (hr : HRel M w H) (hi : Ids M M' H.length) {b : Nat} : ∀ {es : List (List V)} {o : Nat}, EncRows M w b es o → EncRows M' w' b es o
  | [], _, _ => by simp only [EncRows]
  | e :: es, o, k => by
    simp only [EncRows] at k ⊢
    exact ⟨EncRow.step h hr hi k.1, EncRows.step h hr hi k.2⟩
end

theorem GOk.step {M M' : Mm} {H H' : Heap} {w w' : World} (h : Stp M H w M' H' w') (hr : HRel M w H) (hi : Ids M M' H.length) (g : GOk M w) : GOk M' w' :=
  fun k cs hk => Enc.step h hr hi (g k cs (by rw [← h.fm]; exact hk))

end Go.Ev
