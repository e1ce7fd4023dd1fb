/- Canonical values of a simplified reading of Go functions, and how they lie in the model's memory. -/
import Derived.WalkKit
import Derived.Orders
import Derived.Deep.MidRow
import Derived.Deep.AppendSrc
import Derived.Deep.Upon
set_option linter.unusedVariables false
set_option linter.unusedSimpArgs false
namespace Go.Ev
open Go Go.RowKit
inductive Tk where
 | no | full | own (q : Nat)
 deriving DecidableEq
inductive V where
 | undef
 | skp
 | any
 | int (k : IntKind) (n : Int)
 | bool (b : Bool)
 | str (s : List UInt8)
 | nilp
 | ptr (id off : Nat)
 | cptr (cs : List V)
 | vs (es : List (List V)) (tk : Tk)
 | rs (id off n sz : Nat)
 | fn (f : Nat) (cap : List V)
 | nilf
 | agg (cs : List V)
 | tup (cs : List V)
 | mp (id : Nat)
 | nilm
 | yld (id : Nat)
 | gs (id n : Nat)
/-! The syntax of simplified code. -/
inductive X where
 | t (i : Nat)
 | c (v : V)
inductive Kd where
 | int | bool | str
 deriving DecidableEq
inductive Ky where
 | sc (k : Kd)
 | row (ks : List Kd)
@[simp] def Ky.isRow : Ky → Bool
 | .sc _ => false
 | .row _ => true
inductive SOp where
 | mv (x : X)
 | pick (c a b : X)
 | box (s : Nat) (x : X)
 | alloc (s : Nat) (z : List V)
 | build (z : List V) (ps : List (Nat × Nat × X))
 | bslice (n : Nat) (z : List V) (ps : List (Nat × X))
 | load (sz : Nat) (ag old : Bool) (x : X)
 | store (sz : Nat) (a x : X)
 | faddr (off : Nat) (x : X)
 | fld (off sz : Nat) (ag : Bool) (x : X)
 | iaddr (sz : Nat) (x i : X)
 | iaddrA (len sz : Nat) (x i : X)
 | idx (len sz : Nat) (ag : Bool) (x i : X)
 | bin (op : BinOp) (x y : X)
 | beq (neg : Bool) (x y : X)
 | un (op : UnOp) (x : X)
 | conv (k : IntKind) (x : X)
 | mkfn (f : Nat) (cap : List X)
 | ext (i : Nat) (x : X)
 | len (st : Bool) (x : X)
 | app (s sz bytes : Nat) (x y : X)
 | slc (sz : Nat) (x : X) (lo hi mx : Option X)
 | nilck (x : X)
 | mksl (s bytes : Nat) (z : List V) (n : X)
 | aeq (ks : List Kd) (neg : Bool) (x y : X)
 | nileq (k : Nat) (neg : Bool) (x : X)
 | mm (mx : Bool) (xs : List X)
 | sidx (x i : X)
 | sslc (x : X) (lo hi : Option X)
 | b2s (x : X)
 | i2s (x : X)
 | s2b (s : Nat) (x : X)
 | mkmap (s : Nat)
 | mget (ks : Ky) (ok : Bool) (z : V) (x k : X)
 | mput (ks : Ky) (x k v : X)
 | ment (ks : Ky) (z : V) (x k : X)
 | mst (x i v : X)
 | rng (s : Nat) (x : X)
 | nxt (x : X)
 | slcA (len sz : Nat) (x : X) (lo hi : Option X)
 | cpy (sz : Nat) (x y : X)
 | loadR (sz : Nat) (ag : Bool) (r : Nat) (x : X)
 | storeA (sz : Nat) (rs : List Nat) (a x : X)
 | bsliceR (s n : Nat) (z : List V) (ps : List (Nat × X))
 | loadC (sz : Nat) (ag : Bool) (x : X)
 | storeN (s sz : Nat) (a x : X)
 | kcall (ro : Bool) (f : Nat) (xs : List X)
 | pcall (f : Nat) (xs : List X)
 | scall (f : Nat) (xs : List X)
 | vcall (ro : Bool) (f : X) (xs : List X)
 | scallA (rs : List Nat) (f : Nat) (xs : List X)
 | scallE (f : Nat) (xs : List X)
 | appG (last : Bool) (s sz bytes : Nat) (x y : X)
 | loadN (sz : Nat) (x : X)
 | bsliceG (s n : Nat) (z : List V) (ps : List (Nat × X))
 | mark (x : X)
 | loadA (sz : Nat) (ag : Bool) (rs : List Nat) (x : X)
 | storeT (sz r : Nat) (a x : X)
structure SOper where
 dst : Option Nat
 op : SOp
 guard : Option (Nat × Bool)
inductive SCode where
 | skip
 | region (m : Nat) (ops : List SOper)
 | seq (a b : SCode)
 | cond (c : X) (a b : SCode)
 | block (id : Nat) (c : SCode)
 | loop (l : List Nat) (c : SCode)
 | exit (id : Nat)
 | ret
 | keep (l : List Nat)
 | give (t : Nat) (off : Option Nat)
 | freeze (t : Nat)
 | rangeF (g : X) (l ps : List Nat) (as bo : SCode)
 | nat (k : Nat)
inductive Ex where
 | nx | exit (id : Nat) | ret
 deriving DecidableEq
inductive ResV where
 | tmp (t : Nat)
 | cell (t sz : Nat) (ag : Bool)
inductive LSt where
 | ready
 | busy
 | done (x : Ex)
 | over
def V.scal : V → Bool
 | .undef | .skp | .agg _ | .tup _ => false
 | _ => true
def V.pure : V → Bool
 | .int _ _ | .bool _ | .str _ | .nilp | .cptr _ | .nilf | .nilm => true
 | .vs _ (.own _) => false
 | .vs _ _ => true
 | .fn _ [] => true
 | _ => false
theorem V.scal_of_pure {c : V} (h : c.pure = true) : c.scal = true := by cases c <;> simp_all [V.pure, V.scal]
structure Z where
 n : Nat
 blk : Option Nat
 cap : Nat
 sz : Nat
structure Fm where
 fn : Nat → FuncId
 gl : Nat → Option (List V)
 chk : Nat → SCode → Code → Prop
instance : CoeFun Fm fun _ => Nat → FuncId := ⟨Fm.fn⟩
structure Mm where
 al : Nat → Bool
 j : Nat → Nat
 lim : Nat → Option Nat
 z : Nat → Z
 fm : Fm
def Rd (M : Mm) (b o : Nat) : Prop := ∀ l, M.lim b = some l → o < l
def TkOk (M : Mm) (es : List (List V)) (a : Option Addr) (cap : Nat) : Tk → Prop
 | .no => True
 | .full => cap = es.length
 | .own q => M.al q = true ∧ es.length ≤ (M.z q).n ∧ (es.length = (M.z q).n → cap = (M.z q).cap ∧
   match (M.z q).blk with
   | none => cap = es.length
   | some b => a = some ⟨b, 0, none⟩ ∧ ∀ e ∈ es, e.length = (M.z q).sz)
mutual
def Enc (M : Mm) (w : World) : V → Value → Prop
 | .undef, _ => True
 | .skp, v => v = undef
 | .any, v => v.oneCell' = true
 | .int k n, v => v = .int k n
 | .bool b, v => v = .bool b
 | .str s, v => v = .string ⟨s.toArray⟩
 | .nilp, v => v = .pointer none
 | .ptr id off, v => M.al id = true ∧ v = .pointer (some ⟨M.j id, off, none⟩)
 | .cptr cs, v => (∀ c ∈ cs, c.pure = true) ∧ ∃ b o, v = .pointer (some ⟨b, o, none⟩) ∧ EncRow M w b cs o
 | .vs es tk, v => (∀ e ∈ es, ∀ c ∈ e, c.pure = true) ∧ ∃ a cap, v = .slice a es.length cap ∧ es.length ≤ cap ∧
   (match a with
    | none => es = [] ∧ cap = 0
    | some ad => (es = [] ∨ ad.spot = none) ∧ (∃ sz, ∀ e ∈ es, e.length = sz) ∧ EncRows M w ad.block es ad.off) ∧ TkOk M es a cap tk
 | .rs id off n _, v => M.al id = true ∧ ∃ cap, v = .slice (some ⟨M.j id, off, none⟩) n cap ∧ n ≤ cap
 | .fn f cap, v => ∃ xs : List Value, v = .func (.func (M.fm f)) #[] xs.toArray ∧ EncL M w cap xs
 | .nilf, v => v = .nilFunc
 | .agg cs, v => (∀ c ∈ cs, c.scal = true) ∧ ∃ xs : List Value, v = .agg xs.toArray ∧ EncL M w cs xs
 | .tup cs, v => ∃ xs : List Value, v = .tuple xs.toArray ∧ EncL M w cs xs
 | .mp id, v => M.al id = true ∧ v = .map (some (M.j id))
 | .nilm, v => v = .map none
 | .yld id, v => M.al id = true ∧ v = .func (.yield (M.j id)) #[] #[]
 | .gs id n, v => M.al id = true ∧ ∃ cap, v = .slice (some ⟨M.j id, 0, none⟩) n cap ∧ n ≤ cap ∧ ((M.z id).n = 0 → cap = (M.z id).cap)
def EncL (M : Mm) (w : World) : List V → List Value → Prop
 | [], xs => xs = []
 | c :: cs, xs => ∃ x xs', xs = x :: xs' ∧ Enc M w c x ∧ EncL M w cs xs'
def EncRow (M : Mm) (w : World) (b : Nat) : List V → Nat → Prop
 | [], _ => True
 | c :: cs, o => (∃ x, w.cell? ⟨b, o, none⟩ = some x ∧ Rd M b o ∧ Enc M w c x) ∧ EncRow M w b cs (o + 1)
def EncRows (M : Mm) (w : World) (b : Nat) : List (List V) → Nat → Prop
 | [], _ => True
 | e :: es, o => EncRow M w b e o ∧ EncRows M w b es (o + e.length)
end
inductive Blk where
 | cells (cs : List V)
 | zone (n : Nat)
 | froz (cs : List V)
 | map (es : List (V × V))
 | siter (s : List UInt8) (pos : Nat)
 | loop (e0 : List (Nat × V)) (ps : List Nat) (as bo : SCode) (st : LSt)
 | grow (cs : List V) (sz : Nat) (fu : Bool)
abbrev Heap := List (Option Blk)
def blOf (M : Mm) (H : Heap) (id : Nat) : Option Nat :=
 match H[id]? with
 | some (some (.zone _)) => (M.z id).blk
 | some (some _) => some (M.j id)
 | _ => none
def Owned (M : Mm) (H : Heap) (b : Nat) : Prop := ∃ id, blOf M H id = some b
def exCode : Ex → Code
 | .nx => .skip
 | .exit id => .exit id
 | .ret => .ret
def LStOk : LSt → Loop → Prop
 | .ready, r => r.state = .ready ∧ r.pending = none
 | .busy, r => r.state = .busy
 | .done x, r => r.state = .done ∧ r.pending = some (exCode x)
 | .over, _ => True
def LPs (ps : List Nat) (r : Loop) : Prop := r.params.toList = ps ∧ ∀ p ∈ ps, p < r.tmps.size
def BRel (M : Mm) (w : World) (id : Nat) : Blk → Prop
 | .cells cs => (∀ c ∈ cs, c.scal = true) ∧ M.lim (M.j id) = some 0 ∧ ∃ xs e, w.heap[M.j id]? = some (.cells xs e (0, 0)) ∧ EncL M w cs (xs.toList.take cs.length)
 | .grow cs sz fu => (∀ c ∈ cs, c.scal = true) ∧ M.lim (M.j id) = some 0 ∧ (M.z id).n = 0 ∧ (M.z id).sz = sz ∧ ∃ xs e, w.heap[M.j id]? = some (.cells xs e (0, 0)) ∧ xs.size = (M.z id).cap * sz ∧ EncL M w cs (xs.toList.take cs.length) ∧ (fu = true → xs.size = cs.length)
 | .zone n => (M.z id).n = n ∧
   match (M.z id).blk with
   | none => (M.z id).cap = n
   | some b => 0 < n ∧ n ≤ (M.z id).cap ∧ 0 < (M.z id).sz ∧ M.lim b = some (n * (M.z id).sz) ∧ ∃ xs e, w.heap[b]? = some (.cells xs e (0, 0)) ∧ xs.size = (M.z id).cap * (M.z id).sz
 | .froz cs => (∀ c ∈ cs, c.pure = true) ∧ M.lim (M.j id) = some cs.length ∧ ∃ xs e, w.heap[M.j id]? = some (.cells xs e (0, 0)) ∧ EncL M w cs (xs.toList.take cs.length)
 | .map es => M.lim (M.j id) = some 0 ∧ ∃ ents : Array MapEntry, w.heap[M.j id]? = some (.map ents es.length) ∧ EncL M w (es.map (·.1)) (ents.toList.map (·.key)) ∧ EncL M w (es.map (·.2)) (ents.toList.map (·.val)) ∧
   ∀ (i : Nat) (x : MapEntry), ents[i]? = some x → x.born = i
 | .siter s pos => M.lim (M.j id) = some 0 ∧ w.heap[M.j id]? = some (.stringIter ⟨s.toArray⟩ pos)
 | .loop e0 ps as bo st => M.lim (M.j id) = some 0 ∧ ∃ r : Loop, w.heap[M.j id]? = some (.loop r) ∧ LStOk st r ∧ LPs ps r ∧ M.fm.chk r.tmps.size as r.assign ∧ M.fm.chk r.tmps.size bo r.body ∧
   ∀ p ∈ e0, Enc M w p.2 (r.tmps.getD p.1 undef)
def GOk (M : Mm) (w : World) : Prop := ∀ g cs, M.fm.gl g = some cs → Enc M w (.cptr cs) (.pointer (some ⟨g, 0, none⟩))
structure HRel (M : Mm) (w : World) (H : Heap) : Prop where
 dom : ∀ id, M.al id = true ↔ ∃ blk, H[id]? = some (some blk)
 rel : ∀ id blk, H[id]? = some (some blk) → BRel M w id blk
 inj : ∀ id id' b, blOf M H id = some b → blOf M H id' = some b → id = id'
 glo : GOk M w
def Zle (a b : Z) : Prop := a.n ≤ b.n ∧ (a.n = b.n → a = b)
theorem Zle.refl (a : Z) : Zle a a := ⟨Nat.le_refl _, fun _ => rfl⟩
theorem Zle.trans {a b c : Z} (h : Zle a b) (k : Zle b c) : Zle a c :=
 ⟨Nat.le_trans h.1 k.1, fun e => by have h1 := h.1; have k1 := k.1; rw [h.2 (by omega), k.2 (by omega)]⟩
structure Stp (M : Mm) (H : Heap) (w : World) (M' : Mm) (H' : Heap) (w' : World) : Prop where
 os : w'.os = w.os
 tape : w'.tape = w.tape
 output : w'.output = w.output
 size : w.heap.size ≤ w'.heap.size
 same : ∀ b, b < w.heap.size → ¬ Owned M H b → w'.heap[b]? = w.heap[b]?
 cells : ∀ b l o, b < w.heap.size → M.lim b = some l → o < l → w'.cell? ⟨b, o, none⟩ = w.cell? ⟨b, o, none⟩
 limn : ∀ b, b < w.heap.size → M.lim b = none → M'.lim b = none
 lims : ∀ b l, b < w.heap.size → M.lim b = some l → ∃ l', M'.lim b = some l' ∧ l ≤ l'
 limo : ∀ b, b < w.heap.size → ¬ Owned M H b → M'.lim b = M.lim b
 own : ∀ b, b < w.heap.size → Owned M' H' b → Owned M H b
 fm : M'.fm = M.fm
def Ids (M M' : Mm) (n : Nat) : Prop := ∀ id, id < n → M.al id = true → M'.al id = true ∧ M'.j id = M.j id ∧ Zle (M.z id) (M'.z id)
theorem Ids.refl (M : Mm) (n : Nat) : Ids M M n := fun _ _ h => ⟨h, rfl, Zle.refl _⟩
theorem Ids.trans {M M' M'' : Mm} {n m : Nat} (h : Ids M M' n) (k : Ids M' M'' m) (hn : n ≤ m) : Ids M M'' n := fun id hi ha => by
 obtain ⟨a, b, c⟩ := h id hi ha
 obtain ⟨a', b', c'⟩ := k id (by omega) a
 exact ⟨a', b'.trans b, c.trans c'⟩
theorem Ids.mono {M M' : Mm} {n m : Nat} (h : Ids M M' n) (hm : m ≤ n) : Ids M M' m := fun id hi => h id (by omega)
theorem HRel.lt {M : Mm} {w : World} {H : Heap} (h : HRel M w H) {id : Nat} (ha : M.al id = true) : id < H.length := by
 obtain ⟨blk, hb⟩ := (h.dom id).1 ha
 exact (List.getElem?_eq_some_iff.1 hb).1
theorem Stp.refl (M : Mm) (H : Heap) (w : World) : Stp M H w M H w :=
 ⟨rfl, rfl, rfl, Nat.le_refl _, fun _ _ _ => rfl, fun _ _ _ _ _ _ => rfl, fun _ _ h => h, fun _ l _ h => ⟨l, h, Nat.le_refl _⟩, fun _ _ _ => rfl, fun _ _ h => h, rfl⟩
theorem Stp.trans {M M' M'' : Mm} {H H' H'' : Heap} {w w' w'' : World} (h : Stp M H w M' H' w') (k : Stp M' H' w' M'' H'' w'') : Stp M H w M'' H'' w'' where
 os := k.os.trans h.os
 tape := k.tape.trans h.tape
 output := k.output.trans h.output
 size := Nat.le_trans h.size k.size
 same b hb ho := (k.same b (Nat.lt_of_lt_of_le hb h.size) (fun o => ho (h.own b hb o))).trans (h.same b hb ho)
 cells b l o hb hl ho := by
  obtain ⟨l', hl', hle⟩ := h.lims b l hb hl
  exact (k.cells b l' o (Nat.lt_of_lt_of_le hb h.size) hl' (by omega)).trans (h.cells b l o hb hl ho)
 limn b hb hl := k.limn b (Nat.lt_of_lt_of_le hb h.size) (h.limn b hb hl)
 lims b l hb hl := by
  obtain ⟨l', hl', hle⟩ := h.lims b l hb hl
  obtain ⟨l'', hl'', hle'⟩ := k.lims b l' (Nat.lt_of_lt_of_le hb h.size) hl'
  exact ⟨l'', hl'', by omega⟩
 limo b hb ho := (k.limo b (Nat.lt_of_lt_of_le hb h.size) (fun o => ho (h.own b hb o))).trans (h.limo b hb ho)
 own b hb o := h.own b hb (k.own b (Nat.lt_of_lt_of_le hb h.size) o)
 fm := k.fm.trans h.fm
theorem HRel.owned_lim {M : Mm} {w : World} {H : Heap} (h : HRel M w H) {b : Nat} (ho : Owned M H b) : ∃ l, M.lim b = some l := by
 obtain ⟨id, hid⟩ := ho
 unfold blOf at hid
 split at hid
 ·rename_i n hb
  have := h.rel id _ hb
  simp only [BRel, hid] at this
  exact ⟨_, this.2.2.2.2.1⟩
 ·rename_i blk hn hb
  simp only [Option.some.injEq] at hid
  subst hid
  have := h.rel id _ hb
  cases blk with
  | zone n => exact absurd rfl (hn n)
  | cells cs => simp only [BRel] at this; exact ⟨_, this.2.1⟩
  | froz cs => simp only [BRel] at this; exact ⟨_, this.2.1⟩
  | map es => simp only [BRel] at this; exact ⟨_, this.1⟩
  | siter t pos => simp only [BRel] at this; exact ⟨_, this.1⟩
  | loop e0 ps as bo st => simp only [BRel] at this; exact ⟨_, this.1⟩
  | grow cs sz fu => simp only [BRel] at this; exact ⟨_, this.2.1⟩
 ·cases hid
theorem Stp.rd {M M' : Mm} {H H' : Heap} {w w' : World} (h : Stp M H w M' H' w') (hr : HRel M w H) {b o : Nat} {x : Value}
  (hx : w.cell? ⟨b, o, none⟩ = some x) (rd : Rd M b o) : w'.cell? ⟨b, o, none⟩ = some x ∧ Rd M' b o := by
 have hb : b < w.heap.size := World.block_lt_of_cell? w _ hx
 cases hl : M.lim b with
 | none =>
  have hno : ¬ Owned M H b := fun ho => by obtain ⟨l, hl'⟩ := hr.owned_lim ho; rw [hl] at hl'; cases hl'
  exact ⟨(World.cell?_of_block (w := w) (h.same b hb hno)).trans hx, fun l hl' => by rw [h.limn b hb hl] at hl'; cases hl'⟩
 | some l =>
  have ho := rd l hl
  obtain ⟨l', hl', hle⟩ := h.lims b l hb hl
  exact ⟨(h.cells b l o hb hl ho).trans hx, fun l2 hl2 => by rw [hl'] at hl2; cases hl2; omega⟩
theorem encL_length {M : Mm} {w : World} : ∀ {cs : List V} {xs : List Value}, EncL M w cs xs → xs.length = cs.length
 | [], xs, h => by simp only [EncL] at h; simp [h]
 | c :: cs, xs, h => by
  simp only [EncL] at h
  obtain ⟨x, xs', rfl, _, h⟩ := h
  simp [encL_length h]
theorem encL_get {M : Mm} {w : World} : ∀ {cs : List V} {xs : List Value}, EncL M w cs xs → ∀ {i : Nat} {c : V}, cs[i]? = some c → ∃ x, xs[i]? = some x ∧ Enc M w c x
 | [], _, _, i, c, hc => by simp at hc
 | c :: cs, xs, h, i, c', hc => by
  simp only [EncL] at h
  obtain ⟨x, xs', rfl, h1, h⟩ := h
  cases i with
  | zero => simp at hc; subst hc; exact ⟨x, by simp, h1⟩
  | succ i => simp at hc; simpa using encL_get h hc
theorem encL_of {M : Mm} {w : World} : ∀ {cs : List V} {xs : List Value}, xs.length = cs.length → (∀ (i : Nat) (c : V) (x : Value), cs[i]? = some c → xs[i]? = some x → Enc M w c x) → EncL M w cs xs
 | [], xs, hl, _ => by simp only [EncL]; exact List.eq_nil_of_length_eq_zero hl
 | c :: cs, [], hl, _ => by simp at hl
 | c :: cs, x :: xs, hl, h => by
  simp only [EncL]
  exact ⟨x, xs, rfl, h 0 c x (by simp) (by simp), encL_of (by simpa using hl) (fun i c' x' hc hx => h (i + 1) c' x' (by simpa using hc) (by simpa using hx))⟩
theorem encL_append {M : Mm} {w : World} {cs ds : List V} {xs ys : List Value} (h : EncL M w cs xs) (k : EncL M w ds ys) : EncL M w (cs ++ ds) (xs ++ ys) := by
 have hl := encL_length h
 have kl := encL_length k
 refine encL_of (by simp [hl, kl]) fun i c x hc hx => ?_
 rw [List.getElem?_append] at hc hx
 rw [hl] at hx
 split at hc
 ·rename_i hi
  rw [if_pos hi] at hx
  obtain ⟨x', hx', he⟩ := encL_get h hc
  rw [hx] at hx'; cases hx'; exact he
 ·rename_i hi
  rw [if_neg hi] at hx
  obtain ⟨x', hx', he⟩ := encL_get k hc
  rw [hx] at hx'; cases hx'; exact he
theorem encL_take {M : Mm} {w : World} {cs : List V} {xs : List Value} (h : EncL M w cs xs) (n : Nat) : EncL M w (cs.take n) (xs.take n) := by
 have hl := encL_length h
 refine encL_of (by simp [hl]) fun i c x hc hx => ?_
 rw [List.getElem?_take] at hc hx
 split at hc
 ·rename_i hi
  rw [if_pos hi] at hx
  obtain ⟨x', hx', he⟩ := encL_get h hc
  rw [hx] at hx'; cases hx'; exact he
 ·cases hc
theorem encL_drop {M : Mm} {w : World} {cs : List V} {xs : List Value} (h : EncL M w cs xs) (n : Nat) : EncL M w (cs.drop n) (xs.drop n) := by
 have hl := encL_length h
 refine encL_of (by simp [hl]) fun i c x hc hx => ?_
 rw [List.getElem?_drop] at hc hx
 obtain ⟨x', hx', he⟩ := encL_get h hc
 rw [hx] at hx'; cases hx'; exact he
theorem encRow_get {M : Mm} {w : World} {b : Nat} : ∀ {cs : List V} {o : Nat}, EncRow M w b cs o → ∀ {i : Nat} {c : V}, cs[i]? = some c → ∃ x, w.cell? ⟨b, o + i, none⟩ = some x ∧ Rd M b (o + i) ∧ Enc M w c x
 | [], _, _, i, c, hc => by simp at hc
 | c :: cs, o, h, i, c', hc => by
  simp only [EncRow] at h
  obtain ⟨⟨x, hx, hr, he⟩, h⟩ := h
  cases i with
  | zero => simp at hc; subst hc; exact ⟨x, by simpa using hx, by simpa using hr, he⟩
  | succ i =>
   simp at hc
   have := encRow_get h hc
   rw [show o + 1 + i = o + (i + 1) by omega] at this
   exact this
theorem encRow_of {M : Mm} {w : World} {b : Nat} : ∀ {cs : List V} {o : Nat}, (∀ (i : Nat) (c : V), cs[i]? = some c → ∃ x, w.cell? ⟨b, o + i, none⟩ = some x ∧ Rd M b (o + i) ∧ Enc M w c x) → EncRow M w b cs o
 | [], _, _ => by simp only [EncRow]
 | c :: cs, o, h => by
  simp only [EncRow]
  refine ⟨by simpa using h 0 c (by simp), encRow_of fun i c' hc => ?_⟩
  rw [show o + 1 + i = o + (i + 1) by omega]
  exact h (i + 1) c' (by simpa using hc)
theorem encRow_append {M : Mm} {w : World} {b : Nat} {cs ds : List V} {o : Nat} : EncRow M w b (cs ++ ds) o ↔ EncRow M w b cs o ∧ EncRow M w b ds (o + cs.length) := by
 induction cs generalizing o with
 | nil => simp [EncRow]
 | cons c cs ih =>
  simp only [List.cons_append, EncRow, ih, List.length_cons]
  rw [show o + 1 + cs.length = o + (cs.length + 1) by omega]
  exact and_assoc.symm
theorem encRows_iff {M : Mm} {w : World} {b : Nat} {es : List (List V)} {o : Nat} : EncRows M w b es o ↔ EncRow M w b es.flatten o := by
 induction es generalizing o with
 | nil => simp [EncRow, EncRows]
 | cons e es ih => simp only [EncRows, List.flatten_cons, encRow_append, ih]
theorem encRows_append {M : Mm} {w : World} {b : Nat} {es fs : List (List V)} {o : Nat} : EncRows M w b (es ++ fs) o ↔ EncRows M w b es o ∧ EncRows M w b fs (o + es.flatten.length) := by
 simp only [encRows_iff, List.flatten_append, encRow_append]
theorem enc_one {M : Mm} {w : World} {c : V} {x : Value} (h : Enc M w c x) (hs : c.scal = true) : x.oneCell' = true := by
 cases c <;> simp only [V.scal, Bool.false_eq_true] at hs <;> simp only [Enc] at h
 case any => exact h
 case int => subst h; rfl
 case bool => subst h; rfl
 case str => subst h; rfl
 case nilp => subst h; rfl
 case ptr => obtain ⟨_, rfl⟩ := h; rfl
 case cptr => obtain ⟨_, _, _, rfl, _⟩ := h; rfl
 case vs => obtain ⟨_, _, _, rfl, _⟩ := h; rfl
 case rs => obtain ⟨_, _, rfl, _⟩ := h; rfl
 case fn => obtain ⟨_, rfl, _⟩ := h; rfl
 case nilf => subst h; rfl
 case mp => obtain ⟨_, rfl⟩ := h; rfl
 case nilm => subst h; rfl
 case yld => obtain ⟨_, rfl⟩ := h; rfl
 case gs => obtain ⟨_, _, rfl, _⟩ := h; rfl
mutual
theorem Enc.step {M M' : Mm} {H H' : Heap} {w w' : World} (h : Stp M H w M' H' w') (hr : HRel M w H) (hi : Ids M M' H.length) : ∀ {c : V} {x : Value}, Enc M w c x → Enc M' w' c x
 | .undef, _, _ => by simp only [Enc]
 | .skp, _, e => by simpa only [Enc] using e
 | .any, _, e => by simpa only [Enc] using e
 | .int _ _, _, e => by simpa only [Enc] using e
 | .bool _, _, e => by simpa only [Enc] using e
 | .str _, _, e => by simpa only [Enc] using e
 | .nilp, _, e => by simpa only [Enc] using e
 | .ptr id off, _, e => by
  simp only [Enc] at e ⊢
  obtain ⟨a, b, _⟩ := hi id (hr.lt e.1) e.1
  exact ⟨a, by rw [b]; exact e.2⟩
 | .cptr cs, _, e => by
  simp only [Enc] at e ⊢
  obtain ⟨p, b, o, hv, e⟩ := e
  exact ⟨p, b, o, hv, EncRow.step h hr hi e⟩
 | .vs es tk, _, e => by
  simp only [Enc] at e ⊢
  obtain ⟨p, a, cap, hv, hc, hs, ht⟩ := e
  refine ⟨p, a, cap, hv, hc, ?_, ?_⟩
  ·cases a with
   | none => exact hs
   | some ad => exact ⟨hs.1, hs.2.1, EncRows.step h hr hi hs.2.2⟩
  ·cases tk with
   | no => trivial
   | full => exact ht
   | own q =>
    obtain ⟨t1, t2, t3⟩ := ht
    obtain ⟨a', _, z⟩ := hi q (hr.lt t1) t1
    refine ⟨a', Nat.le_trans t2 z.1, fun hn => ?_⟩
    have hz := z.1
    have : (M.z q).n = (M'.z q).n := by omega
    have := z.2 this
    rw [← this] at hn ⊢
    exact t3 hn
 | .rs id off n _, _, e => by
  simp only [Enc] at e ⊢
  obtain ⟨a, b, _⟩ := hi id (hr.lt e.1) e.1
  exact ⟨a, by rw [b]; exact e.2⟩
 | .fn f cap, _, e => by
  simp only [Enc] at e ⊢
  obtain ⟨xs, hv, e⟩ := e
  exact ⟨xs, by rw [h.fm]; exact hv, EncL.step h hr hi e⟩
 | .nilf, _, e => by simpa only [Enc] using e
 | .nilm, _, e => by simpa only [Enc] using e
 | .mp id, _, e => by
  simp only [Enc] at e ⊢
  obtain ⟨a, b, _⟩ := hi id (hr.lt e.1) e.1
  exact ⟨a, by rw [b]; exact e.2⟩
 | .yld id, _, e => by
  simp only [Enc] at e ⊢
  obtain ⟨a, b, _⟩ := hi id (hr.lt e.1) e.1
  exact ⟨a, by rw [b]; exact e.2⟩
 | .gs id n, _, e => by
  simp only [Enc] at e ⊢
  obtain ⟨a, b, z⟩ := hi id (hr.lt e.1) e.1
  obtain ⟨_, cap, hv, hc, hz⟩ := e
  refine ⟨a, cap, by rw [b]; exact hv, hc, fun h0 => ?_⟩
  have h1 := z.1
  have h2 := z.2 (by omega)
  rw [← h2] at h0 ⊢
  exact hz h0
 | .agg cs, _, e => by
  simp only [Enc] at e ⊢
  obtain ⟨p, xs, hv, e⟩ := e
  exact ⟨p, xs, hv, EncL.step h hr hi e⟩
 | .tup cs, _, e => by
  simp only [Enc] at e ⊢
  obtain ⟨xs, hv, e⟩ := e
  exact ⟨xs, hv, EncL.step h hr hi e⟩
theorem EncL.step {M M' : Mm} {H H' : Heap} {w w' : World} (h : Stp M H w M' H' w') (hr : HRel M w H) (hi : Ids M M' H.length) : ∀ {cs : List V} {xs : List Value}, EncL M w cs xs → EncL M' w' cs xs
 | [], _, e => by simpa only [EncL] using e
 | c :: cs, _, e => by
  simp only [EncL] at e ⊢
  obtain ⟨x, xs', hv, e1, e2⟩ := e
  exact ⟨x, xs', hv, Enc.step h hr hi e1, EncL.step h hr hi e2⟩
theorem EncRow.step {M M' : Mm} {H H' : Heap} {w w' : World} (h : Stp M H w M' H' w') (hr : HRel M w H) (hi : Ids M M' H.length) {b : Nat} : ∀ {cs : List V} {o : Nat}, EncRow M w b cs o → EncRow M' w' b cs o
 | [], _, _ => by simp only [EncRow]
 | c :: cs, o, e => by
  simp only [EncRow] at e ⊢
  obtain ⟨⟨x, hx, rd, e1⟩, e2⟩ := e
  have := h.rd hr hx rd
  exact ⟨⟨x, this.1, this.2, Enc.step h hr hi e1⟩, EncRow.step h hr hi e2⟩
theorem EncRows.step {M M' : Mm} {H H' : Heap} {w w' : World} (h : Stp M H w M' H' w') (hr : HRel M w H) (hi : Ids M M' H.length) {b : Nat} : ∀ {es : List (List V)} {o : Nat}, EncRows M w b es o → EncRows M' w' b es o
 | [], _, _ => by simp only [EncRows]
 | e :: es, o, k => by
  simp only [EncRows] at k ⊢
  exact ⟨EncRow.step h hr hi k.1, EncRows.step h hr hi k.2⟩
end
theorem GOk.step {M M' : Mm} {H H' : Heap} {w w' : World} (h : Stp M H w M' H' w') (hr : HRel M w H) (hi : Ids M M' H.length) (g : GOk M w) : GOk M' w' :=
 fun k cs hk => Enc.step h hr hi (g k cs (by rw [← h.fm]; exact hk))
abbrev mM (a b : Nat) : SOper := ⟨some a, .mv (.t b), none⟩
abbrev lD (a b : Nat) : SOper := ⟨some a, .load 1 false false (.t b), none⟩
abbrev lE (a b : Nat) : SOper := ⟨some a, .load 1 false true (.t b), none⟩
abbrev eX (a i b : Nat) : SOper := ⟨some a, .ext i (.t b), none⟩
abbrev fA (a k b : Nat) : SOper := ⟨some a, .faddr k (.t b), none⟩
abbrev oS (a : Nat) (o : SOp) : SOper := ⟨some a, o, none⟩
abbrev oN (o : SOp) : SOper := ⟨none, o, none⟩
abbrev oT (a b : Nat) (o : SOp) : SOper := ⟨some a, o, some (b, true)⟩
abbrev oF (a b : Nat) (o : SOp) : SOper := ⟨some a, o, some (b, false)⟩
abbrev kI (n : Int) : X := .c (.int .i64 n)
abbrev kF : X := .c (.bool false)
abbrev kT : X := .c (.bool true)
abbrev rS (o : List SOper) (c : SCode) : SCode := .seq (.region 0 o) c
abbrev rM (m : Nat) (o : List SOper) (c : SCode) : SCode := .seq (.region m o) c
abbrev rZ (o : List SOper) : SCode := .region 0 o
abbrev kS (l : List Nat) (c : SCode) : SCode := .seq (.keep l) c
abbrev cD (a : Nat) (c d : SCode) : SCode := .cond (.t a) c d
abbrev cX (a n : Nat) : SCode := .cond (.t a) .skip (.exit n)
abbrev bT (a : Nat) (o : BinOp) (b c : Nat) : SOper := ⟨some a, .bin o (.t b) (.t c), none⟩
abbrev bX (a : Nat) (o : BinOp) (b : Nat) (c : X) : SOper := ⟨some a, .bin o (.t b) c, none⟩
abbrev lN (a b : Nat) : SOper := ⟨some a, .len false (.t b), none⟩
abbrev iA (a z b c : Nat) : SOper := ⟨some a, .iaddr z (.t b) (.t c), none⟩
abbrev mC (a : Nat) (x : X) : SOper := ⟨some a, .mv x, none⟩
abbrev pK (a b : Nat) (x y : X) : SOper := ⟨some a, .pick (.t b) x y, none⟩
abbrev sT (z a b : Nat) : SOper := ⟨none, .store z (.t a) (.t b), none⟩
abbrev pC (a f : Nat) (l : List X) : SOper := ⟨some a, .pcall f l, none⟩
abbrev sC (a f : Nat) (l : List X) : SOper := ⟨some a, .scall f l, none⟩
abbrev nT (a b : Nat) : SOper := ⟨some a, .un .not (.t b), none⟩
abbrev zI : List V := [.int .i64 0, .int .i64 0, .int .i64 0, .int .u32 0]
end Go.Ev
/- Simplified code, and what it does to canonical values: a big-step relation. -/
namespace Go.Ev
open Go Go.RowKit
abbrev Env := Nat → V
def Env.put (e : Env) (d : Option Nat) (v : V) : Env :=
 match d with
 | some d => fun i => if i = d then v else e i
 | none => e
theorem Env.put_some (e : Env) (d : Nat) (v : V) (i : Nat) : (e.put (some d) v) i = if i = d then v else e i := rfl
def mkE : List (Nat × V) → Env
 | [] => fun _ => .undef
 | (d, v) :: l => fun i => if i = d then v else mkE l i
def look (e : Env) : List Nat → List (Nat × V)
 | [] => []
 | i :: l => (i, e i) :: look e l
def putP : List Nat → List V → Env → Env
 | p :: ps, v :: vs, e => putP ps vs (e.put (some p) v)
 | _, _, e => e
def X.ev (e : Env) : X → V
 | .t i => e i
 | .c v => v
def V.cells? : V → Option (List V)
 | .undef | .skp | .tup _ => none
 | .agg cs => some cs
 | v => some [v]
def mk (ag : Bool) (cs : List V) : Option V :=
 if ag then some (.agg cs) else match cs with | [c] => some c | _ => none
def Tk.cl (n : Nat) : Tk → Tk
 | .own q => if q < n then .own q else .no
 | .no => .no
 | .full => .full
mutual
/-- Without the numbers from n on. -/
def V.cl (n : Nat) : V → V
 | .ptr id off => if id < n then .ptr id off else .any
 | .rs id off k sz => if id < n then .rs id off k sz else .any
 | .vs es tk => .vs es (tk.cl n)
 | .fn f cap => .fn f (clL n cap)
 | .agg cs => .agg (clL n cs)
 | .tup cs => .tup (clL n cs)
 | .undef => .undef
 | .skp => .skp
 | .any => .any
 | .int k i => .int k i
 | .bool b => .bool b
 | .str s => .str s
 | .nilp => .nilp
 | .cptr cs => .cptr cs
 | .nilf => .nilf
 | .mp id => if id < n then .mp id else .any
 | .nilm => .nilm
 | .yld id => if id < n then .yld id else .any
 | .gs id k => if id < n then .gs id k else .any
def clL (n : Nat) : List V → List V
 | [] => []
 | c :: cs => c.cl n :: clL n cs
end
def Blk.cl (n : Nat) : Blk → Blk
 | .cells cs => .cells (clL n cs)
 | .zone k => .zone k
 | .froz cs => .froz (clL n cs)
 | .map es => .map (es.map fun p => (p.1.cl n, p.2.cl n))
 | .siter s pos => .siter s pos
 | .loop e0 ps as bo st => .loop (e0.map fun p => (p.1, p.2.cl n)) ps as bo st
 | .grow cs sz fu => .grow (clL n cs) sz fu
def trunc (n : Nat) (H : Heap) : Heap := (H.take n).map (Option.map (Blk.cl n))
inductive UOp where
 | neg | not | xor
 deriving DecidableEq
def andI (k : IntKind) (a b : Int) : Int := k.wrap (BitVec.ofInt k.bits a &&& BitVec.ofInt k.bits b).toNat
def orI (k : IntKind) (a b : Int) : Int := k.wrap (BitVec.ofInt k.bits a ||| BitVec.ofInt k.bits b).toNat
def xorI (k : IntKind) (a b : Int) : Int := k.wrap (BitVec.ofInt k.bits a ^^^ BitVec.ofInt k.bits b).toNat
def andnI (k : IntKind) (a b : Int) : Int := k.wrap (BitVec.ofInt k.bits a &&& ~~~BitVec.ofInt k.bits b).toNat
def shlI (k : IntKind) (a b : Int) : Int := k.wrap (a * 2 ^ (min b.toNat k.bits))
def shrI (k : IntKind) (a b : Int) : Int := a.fdiv (2 ^ (min b.toNat k.bits))
def quoI (k : IntKind) (a b : Int) : Int := k.wrap (a.tdiv b)
def mulI (k : IntKind) (a b : Int) : Int := k.wrap (a * b)
def addI (k : IntKind) (a b : Int) : Int := k.wrap (a + b)
def subI (k : IntKind) (a b : Int) : Int := k.wrap (a - b)
def remI (a b : Int) : Int := a.tmod b
def negI (k : IntKind) (a : Int) : Int := k.wrap (0 - a)
def notI (k : IntKind) (a : Int) : Int := k.wrap (BitVec.ofInt k.bits (if k.signed then -1 else k.max) ^^^ BitVec.ofInt k.bits a).toNat
def convI (k : IntKind) (a : Int) : Int := k.wrap a
def evBin (op : BinOp) : V → V → Option V
 | .int k a, .int k' b =>
  match op with
  | .shl => if b < 0 then none else some (.int k (shlI k a b))
  | .shr => if b < 0 then none else some (.int k (shrI k a b))
  | .add => if k = k' then some (.int k (addI k a b)) else none
  | .sub => if k = k' then some (.int k (subI k a b)) else none
  | .mul => if k = k' then some (.int k (mulI k a b)) else none
  | .quo => if k = k' then (if b = 0 then none else some (.int k (quoI k a b))) else none
  | .rem => if k = k' then (if b = 0 then none else some (.int k (remI a b))) else none
  | .and => if k = k' then some (.int k (andI k a b)) else none
  | .or => if k = k' then some (.int k (orI k a b)) else none
  | .xor => if k = k' then some (.int k (xorI k a b)) else none
  | .andNot => if k = k' then some (.int k (andnI k a b)) else none
  | .eql => if k = k' then some (.bool (a == b)) else none
  | .neq => if k = k' then some (.bool (a != b)) else none
  | .lss => if k = k' then some (.bool (decide (a < b))) else none
  | .leq => if k = k' then some (.bool (decide (a ≤ b))) else none
  | .gtr => if k = k' then some (.bool (decide (a > b))) else none
  | .geq => if k = k' then some (.bool (decide (a ≥ b))) else none
 | .str a, .str b =>
  match op with
  | .add => if a.length + b.length ≤ 9223372036854775807 then some (.str (a ++ b)) else none
  | .eql => some (.bool (a == b))
  | .neq => some (.bool !(a == b))
  | .lss => some (.bool (Op.bytesLess a b))
  | .leq => some (.bool (Op.bytesLess a b || a == b))
  | .gtr => some (.bool !(Op.bytesLess a b || a == b))
  | .geq => some (.bool !(Op.bytesLess a b))
  | _ => none
 | _, _ => none
def evUn (op : UnOp) : V → Option V
 | .int k n =>
  match op with
  | .neg => some (.int k (negI k n))
  | .xor => some (.int k (notI k n))
  | _ => none
 | .bool b =>
  match op with
  | .not => some (.bool !b)
  | _ => none
 | _ => none
def fillC (e : Env) : List V → List (Nat × Nat × X) → Option (List V)
 | cs, [] => some cs
 | cs, (off, sz, x) :: ps =>
  match (x.ev e).cells? with
  | some ds => if ds.length = sz ∧ off + ds.length ≤ cs.length then fillC e (cs.take off ++ ds ++ cs.drop (off + ds.length)) ps else none
  | none => none
def fillE (e : Env) (sz : Nat) : List (List V) → List (Nat × X) → Option (List (List V))
 | es, [] => some es
 | es, (i, x) :: ps =>
  match (x.ev e).cells? with
  | some ds => if i < es.length ∧ ds.length = sz ∧ ds.all V.pure = true then fillE e sz (es.set i ds) ps else none
  | none => none
def intOf? : V → Option Int
 | .int _ n => some n
 | _ => none
def bounds (e : Env) (len : Nat) (lo hi mx : Option X) : Option (Nat × Nat × Bool) :=
 let h? : Option Int := match hi with | some x => intOf? (x.ev e) | none => some len
 let l? : Option Int := match lo with | some x => intOf? (x.ev e) | none => some 0
 let m? : Option (Option Int) := match mx with | some x => (intOf? (x.ev e)).map some | none => some none
 match l?, h?, m? with
 | some l, some h, some m =>
  if 0 ≤ l ∧ l ≤ h ∧ h ≤ len ∧ (∀ v, m = some v → v = h) ∧ (mx.isSome → hi.isSome) then some (l.toNat, h.toNat, m.isSome) else none
 | _, _, _ => none
def V.eqc : V → V → Option Bool
 | .int k a, .int k' b => if k = k' then some (a == b) else none
 | .bool a, .bool b => some (a == b)
 | .str a, .str b => some (a == b)
 | _, _ => none
def eqcs : List V → List V → Option Bool
 | [], [] => some true
 | a :: as, b :: bs => match a.eqc b, eqcs as bs with
  | some x, some y => some (x && y)
  | _, _ => none
 | _, _ => none
def eqk : Kd → V → V → Option Bool
 | .int, .int k a, .int k' b => if k = k' then some (a == b) else none
 | .bool, .bool a, .bool b => some (a == b)
 | .str, .str a, .str b => some (a == b)
 | _, _, _ => none
def eqks : List Kd → List V → List V → Option Bool
 | [], [], [] => some true
 | k :: ks, a :: as, b :: bs => match eqk k a b, eqks ks as bs with
  | some x, some y => some (x && y)
  | _, _ => none
 | _, _, _ => none
def keyEq (ks : Ky) (a b : V) : Option Bool :=
 match ks, a, b with
 | .sc k, a, b => eqk k a b
 | .row ks, .agg x, .agg y => eqks ks x y
 | _, _, _ => none
def mfind (ks : Ky) (k : V) : List (V × V) → Nat → Option (Option (Nat × V))
 | [], _ => some none
 | p :: es, i => match keyEq ks k p.1 with
  | some true => some (some (i, p.2))
  | some false => mfind ks k es (i + 1)
  | none => none
def mmI (mx : Bool) (a b : Int) : Int := if mx then (if b > a then b else a) else (if b < a then b else a)
def mmGo (e : Env) (mx : Bool) (k : IntKind) : Int → List X → Option V
 | a, [] => some (.int k a)
 | a, x :: xs => match x.ev e with
  | .int k' b => if k = k' then mmGo e mx k (mmI mx a b) xs else none
  | _ => none
def bytesOf : List (List V) → Option (List UInt8)
 | [] => some []
 | [.int .u8 n] :: es => match bytesOf es with | some bs => some (UInt8.ofNat n.toNat :: bs) | none => none
 | _ => none
def ofBytes (s : List UInt8) : List (List V) := s.map fun b => [V.int .u8 b.toNat]
def V.elems? : V → Option (List (List V))
 | .vs es _ => some es
 | .str s => some (ofBytes s)
 | _ => none
def rowOf (H : Heap) (sz : Nat) : V → Option (List V)
 | .vs es _ => if es.all (fun f => f.length == sz) then some es.flatten else none
 | .rs id off n _ => match H[id]? with
  | some (some (.cells cs)) => if off + n * sz ≤ cs.length then some ((cs.drop off).take (n * sz)) else none
  | _ => none
 | _ => none
def isFree (H : Heap) (i : Nat) : Bool := match H[i]? with | some none => true | _ => false
def chunks (sz : Nat) : Nat → List V → List (List V)
 | 0, _ => []
 | k + 1, cs => cs.take sz :: chunks sz k (cs.drop sz)
def loadAt (H : Heap) (sz : Nat) (ag : Bool) (id off : Nat) : Option (V × Heap) :=
 match H[id]? with
 | some (some (.cells cs)) => if off + sz ≤ cs.length then (mk ag ((cs.drop off).take sz)).map (·, H) else none
 | _ => none
def V.ptrId? : V → Option Nat
 | .ptr id _ => some id
 | .rs id _ _ _ => some id
 | _ => none
def storeAt (H : Heap) (sz id off : Nat) (v : V) : Option (V × Heap) :=
 match v.cells?, H[id]? with
 | some ds, some (some (.cells cs)) => if ds.length = sz ∧ off + sz ≤ cs.length then some (.undef, H.set id (some (.cells (cs.take off ++ ds ++ cs.drop (off + sz))))) else none
 | _, _ => none
def growR (last : Bool) (id n sz : Nat) : V := if last then .rs id 0 n sz else .gs id n
def growB (last : Bool) (cs : List V) (sz : Nat) : Blk := if last then .cells cs else .grow cs sz false
def V.nf1 : V → V
 | .vs es _ => .vs es .no
 | v => v
def V.nf2 : V → V
 | .vs es _ => .vs es .no
 | .agg cs => .agg (cs.map V.nf1)
 | v => v
def appGV (last : Bool) (k sz bytes : Nat) (x y : V) (H : Heap) : Option (V × Heap) :=
 match x, y.elems? with
 | .vs es tk, some fs => if es = [] ∧ tk = .full ∧ fs = [] ∧ last = false then some (.vs [] .full, H) else
   if es = [] ∧ tk = .full ∧ fs ≠ [] ∧ isFree H k = true ∧ fs.length * bytes ≤ 140737488355328 ∧ (∀ f ∈ fs, f.length = sz) then
    some (growR last k fs.length sz, H.set k (some (growB last fs.flatten sz)))
   else none
 | .gs id n, some fs => match H[id]? with
  | some (some (.grow cs sz' _)) => if sz' = sz ∧ cs.length = n * sz ∧ isFree H k = true ∧ (n + fs.length) * bytes ≤ 140737488355328 ∧ (∀ f ∈ fs, f.length = sz) then
    some (growR last k (n + fs.length) sz, (H.set id (some (.zone 1))).set k (some (growB last (cs ++ fs.flatten) sz)))
   else none
  | _ => none
 | _, _ => none
def ev1 (base : Nat) (e : Env) (H : Heap) : SOp → Option (V × Heap)
 | .mv x => some (x.ev e, H)
 | .pick c a b => match c.ev e with | .bool t => some (if t then a.ev e else b.ev e, H) | _ => none
 | .box s x => match (x.ev e).cells? with
  | some cs => if isFree H (base + s) = true then some (.ptr (base + s) 0, H.set (base + s) (some (.cells cs))) else none
  | none => none
 | .alloc s z => if isFree H (base + s) = true then some (.ptr (base + s) 0, H.set (base + s) (some (.cells z))) else none
 | .build z ps => match fillC e z ps with | some cs => some (.agg cs, H) | none => none
 | .bslice n z ps => match fillE e z.length (List.replicate n z) ps with | some es => some (.vs es .full, H) | none => none
 | .load sz ag old x => match x.ev e with
  | .ptr id off => if old = true ∧ base ≤ id then none else match H[id]? with
   | some (some (.cells cs)) => if off + sz ≤ cs.length then (mk ag ((cs.drop off).take sz)).map (·, H) else none
   | _ => none
  | .cptr cs => if sz ≤ cs.length then (mk ag (cs.take sz)).map (·, H) else none
  | _ => none
 | .store sz a x => match a.ev e, (x.ev e).cells? with
  | .ptr id off, some ds => match H[id]? with
   | some (some (.cells cs)) => if ds.length = sz ∧ off + sz ≤ cs.length then some (.undef, H.set id (some (.cells (cs.take off ++ ds ++ cs.drop (off + sz))))) else none
   | _ => none
  | _, _ => none
 | .faddr off x => match x.ev e with
  | .ptr id o => some (.ptr id (o + off), H)
  | .cptr cs => some (.cptr (cs.drop off), H)
  | _ => none
 | .fld off sz ag x => match x.ev e with
  | .agg cs => if off + sz ≤ cs.length then (mk ag ((cs.drop off).take sz)).map (·, H) else none
  | _ => none
 | .iaddr sz x i => match x.ev e, i.ev e with
  | .vs es _, .int _ n => if 0 ≤ n then match es[n.toNat]? with
    | some cs => if cs.length = sz then some (.cptr cs, H) else none
    | none => none
   else none
  | .rs id off k _, .int _ n => if 0 ≤ n ∧ n < k then some (.ptr id (off + n.toNat * sz), H) else none
  | _, _ => none
 | .iaddrA len sz x i => match x.ev e, i.ev e with
  | .ptr id off, .int _ n => if 0 ≤ n ∧ n < len then some (.ptr id (off + n.toNat * sz), H) else none
  | .cptr cs, .int _ n => if 0 ≤ n ∧ n < len then some (.cptr (cs.drop (n.toNat * sz)), H) else none
  | _, _ => none
 | .idx len sz ag x i => match x.ev e, i.ev e with
  | .agg cs, .int _ n => if 0 ≤ n ∧ n < len ∧ n.toNat * sz + sz ≤ cs.length then (mk ag ((cs.drop (n.toNat * sz)).take sz)).map (·, H) else none
  | _, _ => none
 | .bin op x y => (evBin op (x.ev e) (y.ev e)).map (·, H)
 | .beq neg x y => match x.ev e, y.ev e with
  | .bool a, .bool b => some (.bool (if neg then !(a == b) else a == b), H)
  | _, _ => none
 | .un op x => (evUn op (x.ev e)).map (·, H)
 | .conv k x => match x.ev e with | .int _ n => some (.int k (convI k n), H) | _ => none
 | .mkfn f cap => some (.fn f (cap.map (X.ev e)), H)
 | .ext i x => match x.ev e with | .tup cs => (cs[i]?).map (·, H) | _ => none
 | .len st x => match st, x.ev e with
  | false, .vs es _ => some (.int .i64 es.length, H)
  | false, .rs _ _ n _ => some (.int .i64 n, H)
  | true, .str s => some (.int .i64 s.length, H)
  | _, _ => none
 | .app s sz bytes x y => match x.ev e, (y.ev e).elems? with
  | .vs es tk, some fs =>
   if fs = [] then some (.vs es tk, H) else
   if (es.length + fs.length) * bytes ≤ 140737488355328 ∧ (∀ f ∈ fs, f.length = sz) ∧ (∀ f ∈ es, f.length = sz) then
    match tk with
    | .own q => match H[q]? with
     | some (some (.zone n)) => if n = es.length then some (.vs (es ++ fs) (.own q), H.set q (some (.zone (n + fs.length)))) else none
     | _ => none
    | .full => if isFree H (base + s) = true then some (.vs (es ++ fs) (.own (base + s)), H.set (base + s) (some (.zone (es.length + fs.length)))) else none
    | .no => none
   else none
  | _, _ => none
 | .slc sz x lo hi mx => match x.ev e with
  | .vs es tk => match bounds e es.length lo hi mx with
   | some (l, h, m) => if (∀ f ∈ es, f.length = sz) then some (.vs ((es.drop l).take (h - l)) (if m = true ∨ tk = .full ∧ h = es.length then .full else .no), H) else none
   | none => none
  | .rs id off n sz' => match bounds e n lo hi mx with
   | some (l, h, m) => if l = 0 ∨ l < n ∧ m = false then some (.rs id (off + l * sz) (h - l) sz', H) else none
   | none => none
  | _ => none
 | .nilck x => match x.ev e with
  | .ptr id o => some (.ptr id o, H)
  | .cptr cs => some (.cptr cs, H)
  | .fn f cap => some (.fn f cap, H)
  | _ => none
 | .mksl s bytes z n => match n.ev e with
  | .int _ k => if isFree H (base + s) = true ∧ 0 ≤ k ∧ k.toNat * bytes ≤ 140737488355328 then some (.rs (base + s) 0 k.toNat z.length, H.set (base + s) (some (.cells (List.replicate k.toNat z).flatten))) else none
  | _ => none
 | .aeq ks neg x y => match x.ev e, y.ev e with
  | .agg cs, .agg ds => match eqks ks cs ds with
   | some b => some (.bool (if neg then !b else b), H)
   | none => none
  | _, _ => none
 | .nileq k neg x => match k, x.ev e with
  | 0, .fn _ _ => some (.bool neg, H)
  | 0, .nilf => some (.bool !neg, H)
  | 1, .ptr _ _ => some (.bool neg, H)
  | 1, .cptr _ => some (.bool neg, H)
  | 1, .nilp => some (.bool !neg, H)
  | 2, .mp _ => some (.bool neg, H)
  | 2, .nilm => some (.bool !neg, H)
  | _, _ => none
 | .mm mx xs => match xs with
  | x :: xs => match x.ev e with
   | .int k a => (mmGo e mx k a xs).map (·, H)
   | _ => none
  | [] => none
 | .sidx x i => match x.ev e, i.ev e with
  | .str s, .int _ n => if 0 ≤ n then match s[n.toNat]? with
    | some b => some (.int .u8 b.toNat, H)
    | none => none
   else none
  | _, _ => none
 | .sslc x lo hi => match x.ev e with
  | .str s => match bounds e s.length lo hi none with
   | some (l, h, _) => some (.str ((s.drop l).take (h - l)), H)
   | none => none
  | _ => none
 | .b2s x => match x.ev e with
  | .vs es _ => match bytesOf es with
   | some s => some (.str s, H)
   | none => none
  | _ => none
 | .i2s x => match x.ev e with
  | .int _ n => some (.str (Utf8.encode n).data.toList, H)
  | _ => none
 | .s2b s x => match x.ev e with
  | .str t => if isFree H (base + s) = true ∧ t ≠ [] ∧ t.length ≤ 140737488355328 then some (.vs (ofBytes t) (.own (base + s)), H.set (base + s) (some (.zone t.length))) else none
  | _ => none
 | .mkmap s => if isFree H (base + s) = true then some (.mp (base + s), H.set (base + s) (some (.map []))) else none
 | .mget ks ok z x k => if ks.isRow = true ∧ keyEq ks (k.ev e) (k.ev e) = none then none else match x.ev e with
  | .mp id => match H[id]? with
   | some (some (.map es)) => match mfind ks (k.ev e) es 0 with
    | some (some (_, v)) => some (if ok then .tup [v, .bool true] else v, H)
    | some none => some (if ok then .tup [z, .bool false] else z, H)
    | none => none
   | _ => none
  | .nilm => some (if ok then .tup [z, .bool false] else z, H)
  | _ => none
 | .mput ks x k v => match x.ev e with
  | .mp id => if keyEq ks (k.ev e) (k.ev e) = none ∨ (v.ev e).cells? = none then none else match H[id]? with
   | some (some (.map es)) => match mfind ks (k.ev e) es 0 with
    | some (some (i, _)) => some (.undef, H.set id (some (.map (es.set i (k.ev e, v.ev e)))))
    | some none => some (.undef, H.set id (some (.map (es ++ [(k.ev e, v.ev e)]))))
    | none => none
   | _ => none
  | _ => none
 | .ment ks z x k => match x.ev e with
  | .mp id => if keyEq ks (k.ev e) (k.ev e) = none then none else match H[id]? with
   | some (some (.map es)) => match mfind ks (k.ev e) es 0 with
    | some (some (i, v)) => some (.tup [v, .int .i64 i], H.set id (some (.map (es.set i (k.ev e, v)))))
    | some none => some (.tup [z, .int .i64 es.length], H.set id (some (.map (es ++ [(k.ev e, z)]))))
    | none => none
   | _ => none
  | _ => none
 | .mst x i v => match x.ev e, i.ev e with
  | .mp id, .int _ n => match H[id]? with
   | some (some (.map es)) => if 0 ≤ n then match es[n.toNat]? with
     | some p => some (.undef, H.set id (some (.map (es.set n.toNat (p.1, v.ev e)))))
     | none => none
    else none
   | _ => none
  | _, _ => none
 | .rng s x => match x.ev e with
  | .str t => if isFree H (base + s) = true then some (.ptr (base + s) 0, H.set (base + s) (some (.siter t 0))) else none
  | _ => none
 | .nxt x => match x.ev e with
  | .ptr id 0 => match H[id]? with
   | some (some (.siter t pos)) =>
    if pos < t.length then some (.tup [.bool true, .int .i64 pos, .int .i32 (Utf8.decode ⟨t.toArray⟩ pos).1], H.set id (some (.siter t (pos + (Utf8.decode ⟨t.toArray⟩ pos).2))))
    else some (.tup [.bool false], H)
   | _ => none
  | _ => none
 | .slcA len sz x lo hi => match bounds e len lo hi none with
  | some (l, h, _) => match x.ev e with
   | .ptr id off => if l < len then some (.rs id (off + l * sz) (h - l) sz, H) else none
   | _ => none
  | none => none
 | .cpy sz x y => match x.ev e with
  | .rs id off n _ => match H[id]?, rowOf H sz (y.ev e) with
   | some (some (.cells cs)), some ds =>
    if off + n * sz ≤ cs.length ∧ 0 < sz then
     some (.int .i64 (min (ds.length / sz) n : Nat), H.set id (some (.cells (cs.take off ++ ds.take (min (ds.length / sz) n * sz) ++ cs.drop (off + min (ds.length / sz) n * sz)))))
    else none
   | _, _ => none
  | _ => none
 | .loadR sz ag r x => match x.ev e with
  | .ptr id off => if (e r).ptrId? = some id then loadAt H sz ag id off else none
  | _ => none
 | .storeA sz rs a x => match a.ev e with
  | .ptr id off => if rs.all (fun r => (e r).ptrId? != some id) then storeAt H sz id off (x.ev e) else none
  | _ => none
 | .bsliceR s n z ps => if isFree H (base + s) = true then match fillC e (List.replicate n z).flatten (ps.map fun q => (q.1 * z.length, z.length, q.2)) with
   | some cs => some (.rs (base + s) 0 n z.length, H.set (base + s) (some (.cells cs)))
   | none => none
  else none
 | .loadC sz ag x => match x.ev e with
  | .cptr cs => if sz ≤ cs.length then (mk ag (cs.take sz)).map (·, H) else none
  | _ => none
 | .storeN s sz a x => match a.ev e with
  | .ptr id off => if id = base + s then storeAt H sz id off (x.ev e) else none
  | _ => none
 | .bsliceG s n z ps => match fillE e z.length (List.replicate n z) ps with
  | some es => if isFree H (base + s) = true then some (.gs (base + s) n, H.set (base + s) (some (.grow es.flatten z.length true))) else none
  | none => none
 | .mark x => match x.ev e with
  | .gs id n => match H[id]? with
   | some (some (.grow cs sz true)) => if sz = 1 ∧ cs.length = n ∧ cs.all V.pure = true then some (.vs (chunks 1 n cs) .full, H.set id (some (.zone 1))) else none
   | _ => none
  | _ => none
 | .appG last s sz bytes x y => appGV last (base + s) sz bytes (x.ev e) (y.ev e) H
 | .loadN sz x => match x.ev e with
  | .ptr id off => match H[id]? with
   | some (some (.cells cs)) => if off + sz ≤ cs.length then some ((V.agg ((cs.drop off).take sz)).nf2, H) else none
   | _ => none
  | _ => none
 | .loadA sz ag rs x => match x.ev e with
  | .ptr id off => if rs.all (fun r => (e r).ptrId? != some id) then loadAt H sz ag id off else none
  | _ => none
 | .storeT sz r a x => match a.ev e with
  | .ptr id off => if (e r).ptrId? = some id then storeAt H sz id off (x.ev e) else none
  | _ => none
 | .pcall _ _ | .scall _ _ | .kcall _ _ _ | .vcall _ _ _ | .scallA _ _ _ | .scallE _ _ => none
def frz1 (H : Heap) : V → V
 | .rs id off n sz => match H[id]? with
  | some (some (.cells cs)) => if off + n * sz ≤ cs.length ∧ cs.all V.pure = true then .vs (chunks sz n (cs.drop off)) .no else .rs id off n sz
  | _ => .rs id off n sz
 | v => v
def frz (H : Heap) : V → V
 | .tup vs => .tup (vs.map (frz1 H))
 | v => frz1 H v
def V.nf : V → V
 | .tup cs => .tup (cs.map V.nf2)
 | v => v.nf2
def V.out (v : V) : V := (v.cl 0).nf
def outL (l : List V) : List V := l.map V.out
structure SFn where
 nt : Nat
 body : SCode
 res : List ResV
def keepE (l : List Nat) (e : Env) : Env := fun i => if i ∈ l then e i else .undef
def Env.cl (n : Nat) (e : Env) : Env := fun i => (e i).cl n
def wanted (e : Env) (o : SOper) : Option Bool :=
 match o.guard with
 | none => some true
 | some (g, want) => match e g with | .bool b => some (b == want) | .skp => some false | _ => none
def giveIt (e : Env) (H : Heap) (t : Nat) : Option Nat → Option (Env × Heap)
 | none => match e t with
  | .vs es .full => some (e.put (some t) (.vs es (.own H.length)), H ++ [some (.zone es.length)])
  | .vs es (.own q) => some (e.put (some t) (.vs es (.own q)), H)
  | _ => none
 | some off => match e t with
  | .ptr id o => match H[id]? with
   | some (some (.cells cs)) => match cs[o + off]? with
    | some (.vs es .full) => some (e, H.set id (some (.cells (cs.set (o + off) (.vs es (.own H.length))))) ++ [some (.zone es.length)])
    | some (.vs _ (.own _)) => some (e, H)
    | _ => none
   | _ => none
  | _ => none
def frzL (H : Heap) : List V → Option (List V × Heap)
 | [] => some ([], H)
 | .rs id off n sz :: cs => match H[id]? with
  | some (some (.cells ds)) => if off + n * sz ≤ ds.length ∧ ds.all V.pure = true then
    match frzL (H.set id (some (.froz ds))) cs with
    | some (cs', H') => some (.vs (chunks sz n (ds.drop off)) .no :: cs', H')
    | none => none
   else none
  | some (some (.froz ds)) => if off + n * sz ≤ ds.length then
    match frzL H cs with
    | some (cs', H') => some (.vs (chunks sz n (ds.drop off)) .no :: cs', H')
    | none => none
   else none
  | _ => none
 | c :: cs => match frzL H cs with
  | some (cs', H') => some (c :: cs', H')
  | none => none
def frzIt (e : Env) (H : Heap) (t : Nat) : Option (Env × Heap) :=
 match e t with
 | .agg cs => match frzL H cs with
  | some (cs', H') => some (e.put (some t) (.agg cs'), H')
  | none => none
 | .ptr id _ => match H[id]? with
  | some (some (.cells cs)) => match frzL H cs with
   | some (cs', H') => match H'[id]? with
    | some (some (.cells _)) => some (e, H'.set id (some (.cells cs')))
    | _ => none
   | none => none
  | _ => none
 | v => match frzL H [v] with
  | some ([v'], H') => some (e.put (some t) v', H')
  | _ => none
def evRes (e : Env) (H : Heap) : ResV → Option V
 | .tmp t => some (e t)
 | .cell t sz ag => match e t with
  | .ptr id off => match H[id]? with
   | some (some (.cells cs)) => if off + sz ≤ cs.length then mk ag ((cs.drop off).take sz) else none
   | _ => none
  | _ => none
def evRess (e : Env) (H : Heap) : List ResV → Option (List V)
 | [] => some []
 | r :: rs => match evRes e H r, evRess e H rs with
  | some v, some vs => some (v :: vs)
  | _, _ => none
def resOf : List V → V
 | [v] => v
 | vs => .tup vs
def envOf (args : List V) : Env := fun i => args.getD i .undef
inductive J where
 | F (f : Nat) (args : List V) (H : Heap) (r : V) (H' : Heap)
 | S (base : Nat) (o : SOper) (e : Env) (H : Heap) (e' : Env) (H' : Heap)
 | O (base : Nat) (os : List SOper) (e : Env) (H : Heap) (e' : Env) (H' : Heap)
 | C (c : SCode) (e : Env) (H : Heap) (x : Ex) (e' : Env) (H' : Heap)
 | L (n : Nat) (l : List Nat) (c : SCode) (e : Env) (H : Heap) (x : Ex) (e' : Env) (H' : Heap)
def Leaves (e : Env) (rs : List Nat) (H H1 : Heap) : Prop := ∀ r ∈ rs, ∀ id, (e r).ptrId? = some id → H1[id]? = H[id]?
def Elder (base : Nat) (args : List V) (H H' : Heap) : Prop := (∀ v ∈ args, v.cl base = v) ∧ H.map (Option.map (Blk.cl base)) = H ∧ H'.drop base = H.drop base
def natR : Nat → List V → Heap → V → Heap → Prop
 | 0, [.mp id, .int .u32 n], H, r, H' => H' = H ∧ ∃ es : List (List UInt8 × Int), H[id]? = some (some (.map (es.map fun p => (V.str p.1, V.int .u32 p.2)))) ∧ (es.map (·.2)).Nodup ∧ r = .str (((es.find? fun p => p.2 == n).map (·.1)).getD [])
 | 0, [.nilm, .int .u32 _], H, r, H' => H' = H ∧ r = .str []
 | _, _, _, _, _ => False
inductive Big (G : Nat → Option SFn) : J → Prop
 | nat {f fn k args H r H'} : G f = some fn → fn.body = .nat k → natR k args H r H' → Big G (.F f args H r H')
 | fn {f fn args H x e' H' vs} : G f = some fn → args.length ≤ fn.nt → Big G (.C fn.body (envOf args) H x e' H') → (x = .nx ∨ x = .ret) → evRess e' H' fn.res = some vs →
   Big G (.F f args H (resOf vs) H')
 | ev {base o e H v H1} : wanted e o = some true → ev1 base e H o.op = some (v, H1) → Big G (.S base o e H (e.put o.dst v) H1)
 | skip {base o e H} : wanted e o = some false → Big G (.S base o e H (e.put o.dst .skp) H)
 | pcall {base o e H f xs r H1} : wanted e o = some true → o.op = .pcall f xs → Big G (.F f (outL (xs.map (X.ev e))) [] r H1) →
   Big G (.S base o e H (e.put o.dst (frz H1 r).out) H)
 | scall {base o e H f xs r H1} : wanted e o = some true → o.op = .scall f xs → Big G (.F f (xs.map (X.ev e)) H r H1) →
   Big G (.S base o e H (e.put o.dst (r.cl H.length)) (trunc H.length H1))
 | scallA {base o e H rs f xs r H1} : wanted e o = some true → o.op = .scallA rs f xs → Big G (.F f (xs.map (X.ev e)) H r H1) → Leaves e rs H (trunc H.length H1) →
   Big G (.S base o e H (e.put o.dst (r.cl H.length)) (trunc H.length H1))
 | scallE {base o e H f xs r H1} : wanted e o = some true → o.op = .scallE f xs → Big G (.F f (xs.map (X.ev e)) H r H1) → Elder base (xs.map (X.ev e)) H (trunc H.length H1) →
   Big G (.S base o e H (e.put o.dst (r.cl H.length)) (trunc H.length H1))
 | kcall {base o e H ro f xs r H1} : wanted e o = some true → o.op = .kcall ro f xs → Big G (.F f (xs.map (X.ev e)) H r H1) → (ro = true → base ≤ H.length ∧ H1.take H.length = H) →
   Big G (.S base o e H (e.put o.dst r) H1)
 | vcall {base o e H ro fx xs f cap r H1} : wanted e o = some true → o.op = .vcall ro fx xs → fx.ev e = .fn f cap → Big G (.F f (xs.map (X.ev e) ++ cap) H r H1) →
   (ro = true → trunc H.length H1 = H) → Big G (.S base o e H (e.put o.dst (r.cl H.length)) (trunc H.length H1))
 | ycall {base o e H fx xs id e0 ps as bo e1 H1 f0 fps fas fbo x e2 H2 g0 gps gas gbo} : wanted e o = some true → o.op = .vcall false fx xs → fx.ev e = .yld id → H[id]? = some (some (.loop e0 ps as bo .ready)) → xs.length = ps.length →
   Big G (.C as (putP ps (xs.map (X.ev e)) (mkE e0)) H .nx e1 H1) → H1[id]? = some (some (.loop f0 fps fas fbo .ready)) → Big G (.C bo e1 (H1.set id (some (.loop f0 fps fas fbo .busy))) x e2 H2) →
   H2[id]? = some (some (.loop g0 gps gas gbo .busy)) →
   Big G (.S base o e H (e.put o.dst (.bool (decide (x = .nx)))) (trunc H.length (H2.set id (some (.loop g0 gps gas gbo (if x = .nx then .ready else .done x))))))
 | nil {base e H} : Big G (.O base [] e H e H)
 | cons {base o os e H e1 H1 e2 H2} : Big G (.S base o e H e1 H1) → Big G (.O base os e1 H1 e2 H2) → Big G (.O base (o :: os) e H e2 H2)
 | cskip {e H} : Big G (.C .skip e H .nx e H)
 | region {m ops e H e' H'} : Big G (.O H.length ops e (H ++ List.replicate m none) e' H') → Big G (.C (.region m ops) e H .nx e' H')
 | seqN {a b e H e1 H1 x e2 H2} : Big G (.C a e H .nx e1 H1) → Big G (.C b e1 H1 x e2 H2) → Big G (.C (.seq a b) e H x e2 H2)
 | seqX {a b e H x e1 H1} : Big G (.C a e H x e1 H1) → x ≠ .nx → Big G (.C (.seq a b) e H x e1 H1)
 | cond {c a b e H t x e1 H1} : c.ev e = .bool t → Big G (.C (if t then a else b) e H x e1 H1) → Big G (.C (.cond c a b) e H x e1 H1)
 | block {id c e H x e1 H1} : Big G (.C c e H x e1 H1) → Big G (.C (.block id c) e H (if x = .exit id then .nx else x) e1 H1)
 | loop {l c e H x e1 H1} : Big G (.L H.length l c e H x e1 H1) → Big G (.C (.loop l c) e H x e1 H1)
 | round {n l c e H e1 H1 x e2 H2} : Big G (.C c ((keepE l e).cl n) (trunc n H) .nx e1 H1) → Big G (.L n l c e1 H1 x e2 H2) → Big G (.L n l c e H x e2 H2)
 | last {n l c e H x e1 H1} : Big G (.C c ((keepE l e).cl n) (trunc n H) x e1 H1) → x ≠ .nx → Big G (.L n l c e H x e1 H1)
 | roundK {n k l c e H e1 H1 x e2 H2} : n ≤ k → k ≤ H.length → Big G (.C c ((keepE l e).cl k) (trunc k H) .nx e1 H1) → Big G (.L n l c e1 H1 x e2 H2) → Big G (.L n l c e H x e2 H2)
 | lastK {n k l c e H x e1 H1} : n ≤ k → k ≤ H.length → Big G (.C c ((keepE l e).cl k) (trunc k H) x e1 H1) → x ≠ .nx → Big G (.L n l c e H x e1 H1)
 | exit {id e H} : Big G (.C (.exit id) e H (.exit id) e H)
 | ret {e H} : Big G (.C .ret e H .ret e H)
 | keep {l e H} : Big G (.C (.keep l) e H .nx (keepE l e) H)
 | give {t off e H e1 H1} : giveIt e H t off = some (e1, H1) → Big G (.C (.give t off) e H .nx e1 H1)
 | rangeF {g l ps as bo e H f cap r H1 e0 ps' as' bo' st x} : g.ev e = .fn f cap → Big G (.F f (.yld H.length :: cap) (H ++ [some (.loop (look e l) ps as bo .ready)]) r H1) →
   H1[H.length]? = some (some (.loop e0 ps' as' bo' st)) → (st = .ready ∧ x = .nx ∨ st = .done x ∧ x ≠ .nx) → Big G (.C (.rangeF g l ps as bo) e H x e (trunc H.length H1))
 | freeze {t e H e1 H1} : frzIt e H t = some (e1, H1) → Big G (.C (.freeze t) e H .nx e1 H1)
end Go.Ev
/- Steps of memory: a new block, a store into a block, a zone that grows; each keeps what is said of all else. -/
namespace Go.Ev
open Go Go.RowKit
variable {M M' : Mm} {H H' : Heap} {w w' : World}
theorem getElem?_set_ne {α : Type} {l : List α} {i j : Nat} {a : α} (h : j ≠ i) : (l.set i a)[j]? = l[j]? := by
 rw [List.getElem?_set]; rw [if_neg (fun e => h e.symm)]
theorem isFree_iff {i : Nat} : isFree H i = true ↔ H[i]? = some none := by
 unfold isFree
 split <;> simp_all
theorem BRel.step (h : Stp M H w M' H' w') (hr : HRel M w H) (hi : Ids M M' H.length) {id : Nat} {blk : Blk} (hb : H[id]? = some (some blk))
  (hs : ∀ b, blOf M H id = some b → w'.heap[b]? = w.heap[b]? ∧ M'.lim b = M.lim b) (hz : M'.z id = M.z id) : BRel M' w' id blk := by
 have ha : M.al id = true := (hr.dom id).2 ⟨blk, hb⟩
 have hl := hr.lt ha
 obtain ⟨_, hj, _⟩ := hi id hl ha
 have h0 := hr.rel id blk hb
 cases blk with
 | cells cs =>
  simp only [BRel] at h0 ⊢
  obtain ⟨a, b, xs, e, c, d⟩ := h0
  have := hs (M.j id) (by simp [blOf, hb])
  rw [hj]
  exact ⟨a, this.2.trans b, xs, e, this.1.trans c, EncL.step h hr hi d⟩
 | zone n =>
  simp only [BRel] at h0 ⊢
  rw [hz]
  refine ⟨h0.1, ?_⟩
  have h1 := h0.2
  cases hbk : (M.z id).blk with
  | none => simp only [hbk] at h1 ⊢; exact h1
  | some b =>
   simp only [hbk] at h1 ⊢
   have := hs b (by simp [blOf, hb, hbk])
   rw [this.1, this.2]
   exact h1
 | froz cs =>
  simp only [BRel] at h0 ⊢
  obtain ⟨a, b, xs, e, c, d⟩ := h0
  have := hs (M.j id) (by simp [blOf, hb])
  rw [hj]
  exact ⟨a, this.2.trans b, xs, e, this.1.trans c, EncL.step h hr hi d⟩
 | map es =>
  simp only [BRel] at h0 ⊢
  obtain ⟨b, ents, c, d, d', f⟩ := h0
  have := hs (M.j id) (by simp [blOf, hb])
  rw [hj]
  exact ⟨this.2.trans b, ents, this.1.trans c, EncL.step h hr hi d, EncL.step h hr hi d', f⟩
 | siter t pos =>
  simp only [BRel] at h0 ⊢
  have := hs (M.j id) (by simp [blOf, hb])
  rw [hj]
  exact ⟨this.2.trans h0.1, this.1.trans h0.2⟩
 | grow cs sz fu =>
  simp only [BRel] at h0 ⊢
  obtain ⟨a, b, z1, z2, xs, e, c, s, d, fl⟩ := h0
  have := hs (M.j id) (by simp [blOf, hb])
  rw [hj, hz]
  exact ⟨a, this.2.trans b, z1, z2, xs, e, this.1.trans c, s, EncL.step h hr hi d, fl⟩
 | loop e0 ps as bo st =>
  simp only [BRel] at h0 ⊢
  obtain ⟨a, r, hc, h1, h2, h3, h4, h5⟩ := h0
  have := hs (M.j id) (by simp [blOf, hb])
  rw [hj, h.fm]
  exact ⟨this.2.trans a, r, this.1.trans hc, h1, h2, h3, h4, fun p hp => Enc.step h hr hi (h5 p hp)⟩
structure Grew (w w' : World) : Prop where
 os : w'.os = w.os
 tape : w'.tape = w.tape
 output : w'.output = w.output
 size : w.heap.size ≤ w'.heap.size
 block : ∀ b, b < w.heap.size → w'.heap[b]? = w.heap[b]?
theorem Grew.refl (w : World) : Grew w w := ⟨rfl, rfl, rfl, Nat.le_refl _, fun _ _ => rfl⟩
theorem Grew.drew (w : World) : Grew w w.drew := ⟨rfl, rfl, rfl, Nat.le_refl _, fun _ _ => rfl⟩
theorem Grew.alloc (w : World) (o : Obj) : Grew w (w.alloc o) := ⟨rfl, rfl, rfl, by simp, fun b hb => Below.heap_alloc w o b hb⟩
theorem Grew.trans {a b c : World} (h : Grew a b) (k : Grew b c) : Grew a c :=
 ⟨k.os.trans h.os, k.tape.trans h.tape, k.output.trans h.output, Nat.le_trans h.size k.size, fun i hi => (k.block i (Nat.lt_of_lt_of_le hi h.size)).trans (h.block i hi)⟩
theorem Grew.cell (h : Grew w w') {b o : Nat} (hb : b < w.heap.size) : w'.cell? ⟨b, o, none⟩ = w.cell? ⟨b, o, none⟩ :=
 World.cell?_of_block (w := w) (h.block b hb)
theorem HRel.owned_lt (h : HRel M w H) {b : Nat} (ho : Owned M H b) : b < w.heap.size := by
 obtain ⟨id, hid⟩ := ho
 unfold blOf at hid
 split at hid
 ·rename_i n hb
  have := h.rel id _ hb
  simp only [BRel, hid] at this
  obtain ⟨_, _, _, _, _, xs, e, hc, _⟩ := this
  exact (Array.getElem?_eq_some_iff.1 hc).1
 ·rename_i blk hn hb
  have := h.rel id _ hb
  simp only [Option.some.injEq] at hid
  subst hid
  cases blk with
  | zone n => exact absurd rfl (hn n)
  | cells cs => simp only [BRel] at this; obtain ⟨_, _, xs, e, hc, _⟩ := this; exact (Array.getElem?_eq_some_iff.1 hc).1
  | froz cs => simp only [BRel] at this; obtain ⟨_, _, xs, e, hc, _⟩ := this; exact (Array.getElem?_eq_some_iff.1 hc).1
  | map es => simp only [BRel] at this; obtain ⟨_, ents, hc, _⟩ := this; exact (Array.getElem?_eq_some_iff.1 hc).1
  | siter t pos => simp only [BRel] at this; exact (Array.getElem?_eq_some_iff.1 this.2).1
  | loop e0 ps as bo st => simp only [BRel] at this; obtain ⟨_, r, hc, _⟩ := this; exact (Array.getElem?_eq_some_iff.1 hc).1
  | grow cs sz fu => simp only [BRel] at this; obtain ⟨_, _, _, _, xs, e, hc, _⟩ := this; exact (Array.getElem?_eq_some_iff.1 hc).1
 ·cases hid
structure Same (M M' : Mm) (n : Nat) : Prop where
 al : M'.al = M.al
 j : M'.j = M.j
 z : M'.z = M.z
 fm : M'.fm = M.fm
 lim : ∀ b, b < n → M'.lim b = M.lim b
theorem Same.refl (M : Mm) (n : Nat) : Same M M n := ⟨rfl, rfl, rfl, rfl, fun _ _ => rfl⟩
theorem Same.bl {n : Nat} (s : Same M M' n) (id : Nat) : blOf M' H id = blOf M H id := by simp only [blOf, s.j, s.z]
theorem stp_same (hr : HRel M w H) (g : Grew w w') (s : Same M M' w.heap.size) : Stp M H w M' H w' ∧ Ids M M' H.length ∧ HRel M' w' H := by
 have hst : Stp M H w M' H w' := {
  os := g.os
  tape := g.tape
  output := g.output
  size := g.size
  same := fun b hb _ => g.block b hb
  cells := fun b l o hb _ _ => g.cell hb
  limn := fun b hb hl => (s.lim b hb).trans hl
  lims := fun b l hb hl => ⟨l, (s.lim b hb).trans hl, Nat.le_refl _⟩
  limo := fun b hb _ => s.lim b hb
  own := fun b _ ho => by obtain ⟨id, hid⟩ := ho; exact ⟨id, by rw [← s.bl]; exact hid⟩
  fm := s.fm }
 have hid : Ids M M' H.length := fun id _ ha => ⟨by rw [s.al]; exact ha, by rw [s.j], by rw [s.z]; exact Zle.refl _⟩
 refine ⟨hst, hid, ⟨fun id => by rw [s.al]; exact hr.dom id, fun id blk hb => ?_, fun id id' b h1 h2 => ?_, hr.glo.step hst hr hid⟩⟩
 ·refine BRel.step hst hr hid hb (fun b hbl => ?_) (by rw [s.z])
  have hlt := hr.owned_lt ⟨id, hbl⟩
  exact ⟨g.block b hlt, s.lim b hlt⟩
 ·rw [s.bl] at h1 h2
  exact hr.inj id id' b h1 h2
def Mm.lims (M : Mm) (b : Nat) (l : Option Nat) : Mm := { M with lim := fun k => if k = b then l else M.lim k }
theorem Same.lims (M : Mm) (n : Nat) (l : Option Nat) : Same M (M.lims n l) n := ⟨rfl, rfl, rfl, rfl, fun b hb => by simp only [Mm.lims]; rw [if_neg (by omega)]⟩
def Mm.alc (M : Mm) (id b : Nat) : Mm :=
 { M with al := fun i => decide (i = id) || M.al i, j := fun i => if i = id then b else M.j i, lim := fun k => if k = b then some 0 else M.lim k }
theorem free_al (hr : HRel M w H) {id : Nat} (hf : isFree H id = true) : M.al id = false := by
 cases h : M.al id with
 | false => rfl
 | true =>
  obtain ⟨blk, hb⟩ := (hr.dom id).1 h
  rw [isFree_iff.1 hf] at hb
  cases hb
theorem free_lt {id : Nat} (hf : isFree H id = true) : id < H.length := (List.getElem?_eq_some_iff.1 (isFree_iff.1 hf)).1
def Blk.isZone : Blk → Bool
 | .zone _ => true
 | _ => false
theorem stp_alcG (hr : HRel M w H) {id : Nat} (hf : isFree H id = true) {blk0 : Blk} {ob : Obj} (hnz : blk0.isZone = false)
  (hB : Stp M H w (M.alc id w.heap.size) (H.set id (some blk0)) (w.alloc ob) → Ids M (M.alc id w.heap.size) H.length → BRel (M.alc id w.heap.size) (w.alloc ob) id blk0) :
  Stp M H w (M.alc id w.heap.size) (H.set id (some blk0)) (w.alloc ob) ∧ Ids M (M.alc id w.heap.size) H.length ∧
  HRel (M.alc id w.heap.size) (w.alloc ob) (H.set id (some blk0)) := by
 have ha := free_al hr hf
 have hlt := free_lt hf
 have g := Grew.alloc w ob
 have hbl : ∀ i, i ≠ id → blOf (M.alc id w.heap.size) (H.set id (some blk0)) i = blOf M H i := by
  intro i hi
  unfold blOf
  rw [getElem?_set_ne hi]
  split <;> simp_all [Mm.alc]
 have hblid : blOf (M.alc id w.heap.size) (H.set id (some blk0)) id = some w.heap.size := by
  unfold blOf
  rw [List.getElem?_set_self hlt]
  cases blk0 <;> first | (simp [Blk.isZone] at hnz; done) | simp [Mm.alc]
 have hst : Stp M H w (M.alc id w.heap.size) (H.set id (some blk0)) (w.alloc ob) := {
  os := g.os
  tape := g.tape
  output := g.output
  size := g.size
  same := fun b hb _ => g.block b hb
  cells := fun b l o hb _ _ => g.cell hb
  limn := fun b hb hl => by simp only [Mm.alc]; rw [if_neg (by omega)]; exact hl
  lims := fun b l hb hl => ⟨l, by simp only [Mm.alc]; rw [if_neg (by omega)]; exact hl, Nat.le_refl _⟩
  limo := fun b hb _ => by simp only [Mm.alc]; rw [if_neg (by omega)]
  own := fun b hb ho => by
   obtain ⟨i, hi⟩ := ho
   by_cases e : i = id
   ·subst e; rw [hblid] at hi; cases hi; omega
   ·rw [hbl i e] at hi; exact ⟨i, hi⟩
  fm := rfl }
 have hid : Ids M (M.alc id w.heap.size) H.length := fun i _ hi => by
  have : i ≠ id := fun e => by subst e; rw [ha] at hi; cases hi
  simp only [Mm.alc, hi, Bool.or_true, true_and, if_neg this]
  exact Zle.refl _
 refine ⟨hst, hid, ⟨fun i => ?_, fun i blk hb => ?_, fun i i' b h1 h2 => ?_, hr.glo.step hst hr hid⟩⟩
 ·by_cases e : i = id
  ·subst e
   simp only [Mm.alc, decide_true, Bool.true_or, true_iff]
   exact ⟨_, List.getElem?_set_self hlt⟩
  ·simp only [Mm.alc, e, decide_false, Bool.false_or]
   rw [getElem?_set_ne e]
   exact hr.dom i
 ·by_cases e : i = id
  ·subst e
   rw [List.getElem?_set_self hlt] at hb
   simp only [Option.some.injEq] at hb
   subst hb
   exact hB hst hid
  ·rw [getElem?_set_ne e] at hb
   refine BRel.step hst hr hid hb (fun b hbl => ?_) rfl
   have hblt := hr.owned_lt ⟨i, hbl⟩
   refine ⟨g.block b hblt, ?_⟩
   simp only [Mm.alc]
   rw [if_neg (by omega)]
 ·by_cases e : i = id
  ·by_cases e' : i' = id
   ·omega
   ·subst e
    rw [hblid] at h1
    rw [hbl i' e'] at h2
    cases h1
    have := hr.owned_lt ⟨i', h2⟩
    omega
  ·by_cases e' : i' = id
   ·subst e'
    rw [hblid] at h2
    rw [hbl i e] at h1
    cases h2
    have := hr.owned_lt ⟨i, h1⟩
    omega
   ·rw [hbl i e] at h1
    rw [hbl i' e'] at h2
    exact hr.inj i i' b h1 h2
theorem encL_pre {cs : List V} {xs : List Value} (h : EncL M w cs xs) : xs.take cs.length = xs := by rw [← encL_length h]; exact List.take_length
theorem stp_alc (hr : HRel M w H) {id : Nat} (hf : isFree H id = true) {cs : List V} {xs : Array Value} {t : TypeId} (hc : EncL M w cs xs.toList) (hs : ∀ c ∈ cs, c.scal = true) :
  Stp M H w (M.alc id w.heap.size) (H.set id (some (.cells cs))) (w.alloc (.cells xs t)) ∧ Ids M (M.alc id w.heap.size) H.length ∧
  HRel (M.alc id w.heap.size) (w.alloc (.cells xs t)) (H.set id (some (.cells cs))) := by
 refine stp_alcG hr hf rfl fun hst hid => ?_
 simp only [BRel]
 refine ⟨hs, by simp [Mm.alc], xs, t, ?_, EncL.step hst hr hid (by rw [encL_pre hc]; exact hc)⟩
 simp only [Mm.alc, if_true]
 exact heap_alloc_new w _
def Mm.limit (M : Mm) (b l : Nat) : Mm := { M with lim := fun k => if k = b then some l else M.lim k }
theorem stp_put (hr : HRel M w H) {id : Nat} {blk0 blk1 : Blk} (hb : H[id]? = some (some blk0)) (h0 : blk0.isZone = false) (h1 : blk1.isZone = false) (hl0 : M.lim (M.j id) = some 0) (l : Nat)
  (os : w'.os = w.os) (tape : w'.tape = w.tape) (output : w'.output = w.output) (size : w'.heap.size = w.heap.size) (hoth : ∀ b, b ≠ M.j id → w'.heap[b]? = w.heap[b]?)
  (hB : Stp M H w (M.limit (M.j id) l) (H.set id (some blk1)) w' → Ids M (M.limit (M.j id) l) H.length → BRel (M.limit (M.j id) l) w' id blk1) :
  Stp M H w (M.limit (M.j id) l) (H.set id (some blk1)) w' ∧ Ids M (M.limit (M.j id) l) H.length ∧ HRel (M.limit (M.j id) l) w' (H.set id (some blk1)) := by
 have hlt : id < H.length := (List.getElem?_eq_some_iff.1 hb).1
 have ha : M.al id = true := (hr.dom id).2 ⟨_, hb⟩
 have hblo : blOf M H id = some (M.j id) := by
  unfold blOf
  rw [hb]
  cases blk0 <;> first | (simp [Blk.isZone] at h0; done) | rfl
 have hbl : ∀ i, blOf (M.limit (M.j id) l) (H.set id (some blk1)) i = blOf M H i := by
  intro i
  by_cases e : i = id
  ·subst e
   rw [hblo]
   unfold blOf
   rw [List.getElem?_set_self hlt]
   cases blk1 <;> first | (simp [Blk.isZone] at h1; done) | rfl
  ·unfold blOf; rw [getElem?_set_ne e]; rfl
 have hst : Stp M H w (M.limit (M.j id) l) (H.set id (some blk1)) w' := {
  os := os
  tape := tape
  output := output
  size := by rw [size]; exact Nat.le_refl _
  same := fun b _ ho => hoth b (fun e => ho ⟨id, by rw [hblo, e]⟩)
  cells := fun b l o _ hl ho => by
   by_cases e : b = M.j id
   ·subst e; rw [hl0] at hl; cases hl; omega
   ·exact World.cell?_of_block (w := w) (hoth b e)
  limn := fun b _ hl => by
   simp only [Mm.limit]
   rw [if_neg]; · exact hl
   intro e; subst e; rw [hl0] at hl; cases hl
  lims := fun b l' _ hl => by
   simp only [Mm.limit]
   by_cases e : b = M.j id
   ·subst e; rw [hl0] at hl; cases hl; exact ⟨l, by simp, Nat.zero_le _⟩
   ·exact ⟨l', by rw [if_neg e]; exact hl, Nat.le_refl _⟩
  limo := fun b _ ho => by
   simp only [Mm.limit]
   rw [if_neg]
   intro e; exact ho ⟨id, by rw [hblo, e]⟩
  own := fun b _ ho => by obtain ⟨i, hi⟩ := ho; exact ⟨i, by rw [← hbl]; exact hi⟩
  fm := rfl }
 have hid : Ids M (M.limit (M.j id) l) H.length := fun i _ hi => ⟨hi, rfl, Zle.refl _⟩
 refine ⟨hst, hid, ⟨fun i => ?_, fun i blk hi => ?_, fun i i' b h1 h2 => ?_, hr.glo.step hst hr hid⟩⟩
 ·by_cases e : i = id
  ·subst e; simp only [Mm.limit, ha, true_iff]; exact ⟨_, List.getElem?_set_self hlt⟩
  ·rw [getElem?_set_ne e]; exact hr.dom i
 ·by_cases e : i = id
  ·subst e
   rw [List.getElem?_set_self hlt] at hi
   simp only [Option.some.injEq] at hi
   subst hi
   exact hB hst hid
  ·rw [getElem?_set_ne e] at hi
   have hne : ∀ b, blOf M H i = some b → b ≠ M.j id := fun b hbl2 e2 => by subst e2; exact e (hr.inj i id _ hbl2 hblo)
   refine BRel.step hst hr hid hi (fun b hbl2 => ⟨hoth b (hne b hbl2), ?_⟩) rfl
   simp only [Mm.limit]
   rw [if_neg (hne b hbl2)]
 ·rw [hbl] at h1 h2
  exact hr.inj i i' b h1 h2
theorem stp_set (hr : HRel M w H) {id : Nat} {cs ds : List V} (hb : H[id]? = some (some (.cells cs))) {xs : Array Value} {t : TypeId}
  (hx : w.heap[M.j id]? = some (.cells xs t (0, 0))) {ys : Array Value} (hd : EncL M w ds (ys.toList.take ds.length)) (hs : ∀ c ∈ ds, c.scal = true) :
  Stp M H w M (H.set id (some (.cells ds))) (w.setRow (M.j id) ys) ∧ Ids M M H.length ∧ HRel M (w.setRow (M.j id) ys) (H.set id (some (.cells ds))) := by
 have ha : M.al id = true := (hr.dom id).2 ⟨_, hb⟩
 have hlt := hr.lt ha
 have hblo : blOf M H id = some (M.j id) := by simp [blOf, hb]
 have hbl : ∀ i, blOf M (H.set id (some (.cells ds))) i = blOf M H i := by
  intro i
  by_cases e : i = id
  ·subst e; rw [hblo]; unfold blOf; rw [List.getElem?_set_self hlt]
  ·unfold blOf; rw [getElem?_set_ne e]
 have hl0 : M.lim (M.j id) = some 0 := by have := hr.rel id _ hb; simp only [BRel] at this; exact this.2.1
 have hoth : ∀ k, k ≠ M.j id → (w.setRow (M.j id) ys).heap[k]? = w.heap[k]? := fun k hk => setRow_other w (M.j id) k ys (fun e => hk e)
 have hst : Stp M H w M (H.set id (some (.cells ds))) (w.setRow (M.j id) ys) := {
  os := rfl
  tape := rfl
  output := rfl
  size := by simp [World.setRow]
  same := fun b hb2 ho => hoth b (fun e => ho ⟨id, by rw [hblo, e]⟩)
  cells := fun b l o hb2 hl ho => by
   by_cases e : b = M.j id
   ·subst e; rw [hl0] at hl; cases hl; omega
   ·exact World.cell?_of_block (w := w) (hoth b e)
  limn := fun _ _ hl => hl
  lims := fun b l _ hl => ⟨l, hl, Nat.le_refl _⟩
  limo := fun _ _ _ => rfl
  own := fun b _ ho => by obtain ⟨i, hi⟩ := ho; exact ⟨i, by rw [← hbl]; exact hi⟩
  fm := rfl }
 refine ⟨hst, Ids.refl _ _, ⟨fun i => ?_, fun i blk hi => ?_, fun i i' b h1 h2 => ?_, hr.glo.step hst hr (Ids.refl _ _)⟩⟩
 ·by_cases e : i = id
  ·subst e; simp only [ha, true_iff]; exact ⟨_, List.getElem?_set_self hlt⟩
  ·rw [getElem?_set_ne e]; exact hr.dom i
 ·by_cases e : i = id
  ·subst e
   rw [List.getElem?_set_self hlt] at hi
   simp only [Option.some.injEq] at hi
   subst hi
   simp only [BRel]
   exact ⟨hs, hl0, ys, t, setRow_heap w (M.j i) xs ys t _ hx, EncL.step hst hr (Ids.refl _ _) hd⟩
  ·rw [getElem?_set_ne e] at hi
   refine BRel.step hst hr (Ids.refl _ _) hi (fun b hbl2 => ⟨hoth b (fun e2 => ?_), rfl⟩) rfl
   subst e2
   exact e (hr.inj i id _ hbl2 hblo)
 ·rw [hbl] at h1 h2
  exact hr.inj i i' b h1 h2
def Mm.zon (M : Mm) (id : Nat) (z : Z) : Mm :=
 { M with al := fun i => decide (i = id) || M.al i, z := fun i => if i = id then z else M.z i,
          lim := fun k => if z.blk = some k then some (z.n * z.sz) else M.lim k }
theorem stp_zone (hr : HRel M w H) {id : Nat} {z : Z} (hf : isFree H id = true ∨ ∃ k, H[id]? = some (some (.zone k)))
  (os : w'.os = w.os) (tape : w'.tape = w.tape) (output : w'.output = w.output) (size : w.heap.size ≤ w'.heap.size)
  (hoth : ∀ b, b < w.heap.size → blOf M H id ≠ some b → w'.heap[b]? = w.heap[b]?)
  (hcell : ∀ b l o, blOf M H id = some b → M.lim b = some l → o < l → w'.cell? ⟨b, o, none⟩ = w.cell? ⟨b, o, none⟩)
  (hnew : ∀ b, z.blk = some b → w.heap.size ≤ b ∨ blOf M H id = some b)
  (hlim : ∀ b l, blOf M H id = some b → z.blk = some b → M.lim b = some l → l ≤ z.n * z.sz)
  (hle : M.al id = true → Zle (M.z id) z)
  (hz : match z.blk with
   | none => z.cap = z.n
   | some b => 0 < z.n ∧ z.n ≤ z.cap ∧ 0 < z.sz ∧ ∃ xs e, w'.heap[b]? = some (.cells xs e (0, 0)) ∧ xs.size = z.cap * z.sz) :
  Stp M H w (M.zon id z) (H.set id (some (.zone z.n))) w' ∧ Ids M (M.zon id z) H.length ∧ HRel (M.zon id z) w' (H.set id (some (.zone z.n))) := by
 have hlt : id < H.length := by
  rcases hf with hf | ⟨k, hf⟩
  ·exact free_lt hf
  ·exact (List.getElem?_eq_some_iff.1 hf).1
 have hset : (H.set id (some (Blk.zone z.n)))[id]? = some (some (.zone z.n)) := List.getElem?_set_self hlt
 have hblid : blOf (M.zon id z) (H.set id (some (.zone z.n))) id = z.blk := by simp only [blOf, hset, Mm.zon, if_true]
 have hbl : ∀ i, i ≠ id → blOf (M.zon id z) (H.set id (some (.zone z.n))) i = blOf M H i := by
  intro i hi
  unfold blOf
  rw [getElem?_set_ne hi]
  split <;> simp_all [Mm.zon]
 have hst : Stp M H w (M.zon id z) (H.set id (some (.zone z.n))) w' := {
  os := os
  tape := tape
  output := output
  size := size
  same := fun b hb ho => hoth b hb (fun e => ho ⟨id, e⟩)
  cells := fun b l o hb hl ho => by
   by_cases e : blOf M H id = some b
   ·exact hcell b l o e hl ho
   ·exact World.cell?_of_block (w := w) (hoth b hb e)
  limn := fun b hb hl => by
   simp only [Mm.zon]
   rw [if_neg]; · exact hl
   intro e
   rcases hnew b e with h | h
   ·omega
   ·obtain ⟨l, hl2⟩ := hr.owned_lim ⟨id, h⟩
    rw [hl] at hl2; cases hl2
  lims := fun b l hb hl => by
   by_cases e : z.blk = some b
   ·refine ⟨z.n * z.sz, by simp only [Mm.zon, e, if_true], ?_⟩
    rcases hnew b e with h | h
    ·omega
    ·exact hlim b l h e hl
   ·exact ⟨l, by simp only [Mm.zon]; rw [if_neg e]; exact hl, Nat.le_refl _⟩
  limo := fun b hb ho => by
   simp only [Mm.zon]
   rw [if_neg]
   intro e
   rcases hnew b e with h | h
   ·omega
   ·exact ho ⟨id, h⟩
  own := fun b hb ho => by
   obtain ⟨i, hi⟩ := ho
   by_cases e : i = id
   ·subst e
    rw [hblid] at hi
    rcases hnew b hi with h | h
    ·omega
    ·exact ⟨i, h⟩
   ·rw [hbl i e] at hi; exact ⟨i, hi⟩
  fm := rfl }
 have hid : Ids M (M.zon id z) H.length := fun i _ hi => by
  refine ⟨by simp only [Mm.zon, hi, Bool.or_true], rfl, ?_⟩
  simp only [Mm.zon]
  split
  ·rename_i e; subst e; exact hle hi
  ·exact Zle.refl _
 refine ⟨hst, hid, ⟨fun i => ?_, fun i blk hb => ?_, fun i i' b h1 h2 => ?_, hr.glo.step hst hr hid⟩⟩
 ·by_cases e : i = id
  ·subst e
   simp only [Mm.zon, decide_true, Bool.true_or, true_iff]
   exact ⟨_, hset⟩
  ·simp only [Mm.zon, e, decide_false, Bool.false_or]
   rw [getElem?_set_ne e]
   exact hr.dom i
 ·by_cases e : i = id
  ·subst e
   rw [hset] at hb
   simp only [Option.some.injEq] at hb
   subst hb
   simp only [BRel, Mm.zon, if_true, true_and]
   cases hbk : z.blk with
   | none => simp only [hbk] at hz ⊢; exact hz
   | some b => simp only [hbk, if_true, true_and] at hz ⊢; exact hz
  ·rw [getElem?_set_ne e] at hb
   refine BRel.step hst hr hid hb (fun b hbl2 => ?_) (by simp only [Mm.zon]; rw [if_neg e])
   have hblt := hr.owned_lt ⟨i, hbl2⟩
   have hne : blOf M H id ≠ some b := fun h => e (hr.inj i id b hbl2 h)
   refine ⟨hoth b hblt hne, ?_⟩
   simp only [Mm.zon]
   rw [if_neg]
   intro h
   rcases hnew b h with h | h
   ·omega
   ·exact hne h
 ·by_cases e : i = id
  ·by_cases e' : i' = id
   ·omega
   ·subst e
    rw [hblid] at h1
    rw [hbl i' e'] at h2
    rcases hnew b h1 with h | h
    ·have := hr.owned_lt ⟨i', h2⟩; omega
    ·exact (hr.inj i i' b h h2)
  ·by_cases e' : i' = id
   ·subst e'
    rw [hblid] at h2
    rw [hbl i e] at h1
    rcases hnew b h2 with h | h
    ·have := hr.owned_lt ⟨i, h1⟩; omega
    ·exact (hr.inj i i' b h1 h)
   ·rw [hbl i e] at h1
    rw [hbl i' e'] at h2
    exact hr.inj i i' b h1 h2
theorem blOf_pad (M : Mm) (H : Heap) (m i : Nat) : blOf M (H ++ List.replicate m none) i = blOf M H i := by
 unfold blOf
 by_cases hi : i < H.length
 ·rw [List.getElem?_append_left hi]
 ·rw [List.getElem?_append_right (by omega), List.getElem?_eq_none (by omega : H.length ≤ i), List.getElem?_replicate]
  by_cases h : i - H.length < m <;> simp [h]
theorem get_pad (H : Heap) (m i : Nat) (blk : Blk) : (H ++ List.replicate m none)[i]? = some (some blk) ↔ H[i]? = some (some blk) := by
 by_cases hi : i < H.length
 ·rw [List.getElem?_append_left hi]
 ·rw [List.getElem?_append_right (by omega), List.getElem?_eq_none (by omega : H.length ≤ i), List.getElem?_replicate]
  by_cases h : i - H.length < m <;> simp [h]
theorem hrel_pad (hr : HRel M w H) (m : Nat) : HRel M w (H ++ List.replicate m none) :=
 ⟨fun i => (hr.dom i).trans (exists_congr fun blk => (get_pad H m i blk).symm), fun i blk hb => hr.rel i blk ((get_pad H m i blk).1 hb),
  fun i i' b h1 h2 => hr.inj i i' b (by rw [← blOf_pad M H m]; exact h1) (by rw [← blOf_pad M H m]; exact h2), hr.glo⟩
theorem stp_pad (M : Mm) (H : Heap) (w : World) (m : Nat) : Stp M H w M (H ++ List.replicate m none) w :=
 have own : ∀ b, Owned M (H ++ List.replicate m none) b → Owned M H b := fun b ⟨i, hi⟩ => ⟨i, by rw [← blOf_pad M H m]; exact hi⟩
 { Stp.refl M H w with own := fun b _ ho => own b ho }
def Mm.upto (M : Mm) (n : Nat) : Mm := { M with al := fun i => decide (i < n) && M.al i }
theorem V.cl_scal (n : Nat) (c : V) (h : c.scal = true) : (c.cl n).scal = true := by
 cases c <;> first | (simp [V.scal] at h; done) | rfl | (simp only [V.cl]; split <;> rfl)
theorem V.cl_pure (n : Nat) (c : V) (h : c.pure = true) : c.cl n = c := by
 cases c <;> first
  | rfl
  | (simp [V.pure] at h; done)
  | (rename_i es tk; cases tk <;> first | rfl | (simp [V.pure] at h; done))
  | (rename_i f cap; cases cap <;> first | rfl | (simp [V.pure] at h; done))
theorem clL_eq_map (n : Nat) : ∀ cs : List V, clL n cs = cs.map (V.cl n)
 | [] => rfl
 | c :: cs => by simp [clL, clL_eq_map n cs]
theorem TkOk.upto {n : Nat} {es : List (List V)} {a : Option Addr} {cap : Nat} {tk : Tk} (h : TkOk M es a cap tk) :
  TkOk (M.upto n) es a cap (tk.cl n) := by
 cases tk with
 | no => trivial
 | full => exact h
 | own q =>
  simp only [Tk.cl]
  split
  ·rename_i hq
   obtain ⟨a, b, c⟩ := h
   exact ⟨by simp [Mm.upto, hq, a], b, c⟩
  ·trivial
mutual
/-- What a value says is said, but for the numbers that are let go. -/
theorem Enc.upto (n : Nat) : ∀ {c : V} {x : Value}, Enc M w c x → Enc (M.upto n) w (c.cl n) x
 | .undef, _, _ => by simp only [V.cl, Enc]
 | .skp, _, e => by simpa only [V.cl, Enc] using e
 | .any, _, e => by simpa only [V.cl, Enc] using e
 | .int _ _, _, e => by simpa only [V.cl, Enc] using e
 | .bool _, _, e => by simpa only [V.cl, Enc] using e
 | .str _, _, e => by simpa only [V.cl, Enc] using e
 | .nilp, _, e => by simpa only [V.cl, Enc] using e
 | .nilf, _, e => by simpa only [V.cl, Enc] using e
 | .nilm, _, e => by simpa only [V.cl, Enc] using e
 | .mp id, _, e => by
  simp only [V.cl]
  simp only [Enc] at e
  split
  ·rename_i h; simp only [Enc]; exact ⟨by simp [Mm.upto, h, e.1], e.2⟩
  ·simp only [Enc]; rw [e.2]; rfl
 | .yld id, _, e => by
  simp only [V.cl]
  simp only [Enc] at e
  split
  ·rename_i h; simp only [Enc]; exact ⟨by simp [Mm.upto, h, e.1], e.2⟩
  ·simp only [Enc]; rw [e.2]; rfl
 | .gs id k, _, e => by
  simp only [V.cl]
  simp only [Enc] at e
  split
  ·rename_i h; simp only [Enc]; exact ⟨by simp [Mm.upto, h, e.1], e.2⟩
  ·simp only [Enc]; obtain ⟨_, cap, rfl, _⟩ := e; rfl
 | .ptr id off, _, e => by
  simp only [V.cl]
  simp only [Enc] at e
  split
  ·rename_i h; simp only [Enc]; exact ⟨by simp [Mm.upto, h, e.1], e.2⟩
  ·simp only [Enc]; rw [e.2]; rfl
 | .rs id off k _, _, e => by
  simp only [V.cl]
  simp only [Enc] at e
  split
  ·rename_i h; simp only [Enc]; exact ⟨by simp [Mm.upto, h, e.1], e.2⟩
  ·simp only [Enc]; obtain ⟨_, cap, rfl, _⟩ := e; rfl
 | .cptr cs, _, e => by
  simp only [V.cl, Enc] at e ⊢
  obtain ⟨p, b, o, hv, e⟩ := e
  exact ⟨p, b, o, hv, EncRow.upto n p e⟩
 | .vs es tk, _, e => by
  simp only [V.cl, Enc] at e ⊢
  obtain ⟨p, a, cap, hv, hc, hs, ht⟩ := e
  refine ⟨p, a, cap, hv, hc, ?_, ht.upto⟩
  cases a with
  | none => exact hs
  | some ad => exact ⟨hs.1, hs.2.1, EncRows.upto n p hs.2.2⟩
 | .fn f cap, _, e => by
  simp only [V.cl, Enc] at e ⊢
  obtain ⟨xs, hv, e⟩ := e
  exact ⟨xs, hv, EncL.upto n e⟩
 | .agg cs, _, e => by
  simp only [V.cl, Enc] at e ⊢
  obtain ⟨p, xs, hv, e⟩ := e
  refine ⟨fun c hc => ?_, xs, hv, EncL.upto n e⟩
  rw [clL_eq_map, List.mem_map] at hc
  obtain ⟨c', hc', rfl⟩ := hc
  exact V.cl_scal n c' (p c' hc')
 | .tup cs, _, e => by
  simp only [V.cl, Enc] at e ⊢
  obtain ⟨xs, hv, e⟩ := e
  exact ⟨xs, hv, EncL.upto n e⟩
theorem EncL.upto (n : Nat) : ∀ {cs : List V} {xs : List Value}, EncL M w cs xs → EncL (M.upto n) w (clL n cs) xs
 | [], _, e => by simpa only [clL, EncL] using e
 | c :: cs, _, e => by
  simp only [clL, EncL] at e ⊢
  obtain ⟨x, xs', hv, e1, e2⟩ := e
  exact ⟨x, xs', hv, Enc.upto n e1, EncL.upto n e2⟩
theorem EncRow.upto (n : Nat) {b : Nat} : ∀ {cs : List V} {o : Nat}, (∀ c ∈ cs, c.pure = true) → EncRow M w b cs o → EncRow (M.upto n) w b cs o
 | [], _, _, _ => by simp only [EncRow]
 | c :: cs, o, p, e => by
  simp only [EncRow] at e ⊢
  obtain ⟨⟨x, hx, rd, e1⟩, e2⟩ := e
  refine ⟨⟨x, hx, rd, ?_⟩, EncRow.upto n (fun d hd => p d (by simp [hd])) e2⟩
  have := Enc.upto n e1
  rwa [V.cl_pure n c (p c (by simp))] at this
theorem EncRows.upto (n : Nat) {b : Nat} : ∀ {es : List (List V)} {o : Nat}, (∀ e ∈ es, ∀ c ∈ e, c.pure = true) → EncRows M w b es o → EncRows (M.upto n) w b es o
 | [], _, _, _ => by simp only [EncRows]
 | e :: es, o, p, k => by
  simp only [EncRows] at k ⊢
  exact ⟨EncRow.upto n (p e (by simp)) k.1, EncRows.upto n (fun d hd => p d (by simp [hd])) k.2⟩
end
theorem trunc_get (n : Nat) (H : Heap) (i : Nat) : (trunc n H)[i]? = if i < n then (H[i]?).map (Option.map (Blk.cl n)) else none := by
 unfold trunc
 rw [List.getElem?_map, List.getElem?_take]
 split <;> simp
theorem blOf_upto (M : Mm) (H : Heap) (n i b : Nat) (h : blOf (M.upto n) (trunc n H) i = some b) : blOf M H i = some b := by
 unfold blOf at h ⊢
 rw [trunc_get] at h
 by_cases hi : i < n
 ·rw [if_pos hi] at h
  cases hh : H[i]? with
  | none => simp [hh] at h
  | some o => cases o with
   | none => simp [hh] at h
   | some blk => cases blk <;> simpa [hh, Blk.cl, Mm.upto] using h
 ·rw [if_neg hi] at h; cases h
theorem stp_upto (hr : HRel M w H) (n : Nat) : Stp M H w (M.upto n) (trunc n H) w ∧ Ids M (M.upto n) n ∧ HRel (M.upto n) w (trunc n H) := by
 have hbl := blOf_upto M H n
 have hst : Stp M H w (M.upto n) (trunc n H) w :=
  { Stp.refl M H w with
   limn := fun _ _ h => h
   lims := fun _ l _ h => ⟨l, h, Nat.le_refl _⟩
   limo := fun _ _ _ => rfl
   own := fun b _ ho => by obtain ⟨i, hi⟩ := ho; exact ⟨i, hbl i b hi⟩
   fm := rfl }
 have scl : ∀ cs : List V, (∀ c ∈ cs, c.scal = true) → ∀ c ∈ clL n cs, c.scal = true := fun cs a v hv => by
  rw [clL_eq_map, List.mem_map] at hv
  obtain ⟨c', hc', rfl⟩ := hv
  exact V.cl_scal n c' (a c' hc')
 refine ⟨hst, fun i hi ha => ⟨by simp [Mm.upto, hi, ha], rfl, Zle.refl _⟩, ⟨fun i => ?_, fun i blk hb => ?_, fun i i' b h1 h2 => hr.inj i i' b (hbl i b h1) (hbl i' b h2), fun g cs hg => ?_⟩⟩
 ·rw [trunc_get]
  by_cases hi : i < n
  ·simp only [Mm.upto, hi, decide_true, Bool.true_and, if_true]
   rw [hr.dom i]
   constructor
   ·rintro ⟨blk, hb⟩; exact ⟨blk.cl n, by simp [hb]⟩
   ·rintro ⟨blk, hb⟩
    cases hh : H[i]? with
    | none => simp [hh] at hb
    | some o => cases o with
     | none => simp [hh] at hb
     | some b => exact ⟨b, rfl⟩
  ·simp [Mm.upto, hi]
 ·rw [trunc_get] at hb
  split at hb
  ·rename_i hi
   cases hh : H[i]? with
   | none => simp [hh] at hb
   | some o => cases o with
    | none => simp [hh] at hb
    | some b0 =>
     simp only [hh, Option.map_some, Option.some.injEq] at hb
     subst hb
     have h0 := hr.rel i b0 hh
     cases b0 with
     | cells cs =>
      simp only [BRel, Blk.cl] at h0 ⊢
      obtain ⟨a, b, xs, e, c, d⟩ := h0
      exact ⟨scl cs a, b, xs, e, c, by rw [clL_eq_map, List.length_map, ← clL_eq_map]; exact EncL.upto n d⟩
     | grow cs sz fu =>
      simp only [BRel, Blk.cl] at h0 ⊢
      obtain ⟨a, b, z1, z2, xs, e, c, s, d, fl⟩ := h0
      exact ⟨scl cs a, b, z1, z2, xs, e, c, s, by rw [clL_eq_map, List.length_map, ← clL_eq_map]; exact EncL.upto n d, by rw [clL_eq_map, List.length_map]; exact fl⟩
     | zone k => simpa only [BRel, Blk.cl, Mm.upto] using h0
     | froz cs =>
      simp only [BRel, Blk.cl] at h0 ⊢
      obtain ⟨a, b, xs, e, c, d⟩ := h0
      refine ⟨fun v hv => ?_, by rw [clL_eq_map, List.length_map]; exact b, xs, e, c, by rw [clL_eq_map, List.length_map, ← clL_eq_map]; exact EncL.upto n d⟩
      rw [clL_eq_map, List.mem_map] at hv
      obtain ⟨c', hc', rfl⟩ := hv
      rw [V.cl_pure n c' (a c' hc')]; exact a c' hc'
     | map es =>
      simp only [BRel, Blk.cl] at h0 ⊢
      obtain ⟨b, ents, c, d, d', f⟩ := h0
      refine ⟨b, ents, by rw [List.length_map]; exact c, ?_, ?_, f⟩
      ·have := EncL.upto n d
       rw [clL_eq_map, List.map_map] at this
       rw [List.map_map]; exact this
      ·have := EncL.upto n d'
       rw [clL_eq_map, List.map_map] at this
       rw [List.map_map]; exact this
     | siter t pos => simpa only [BRel, Blk.cl, Mm.upto] using h0
     | loop e0 ps as bo st =>
      simp only [BRel, Blk.cl] at h0 ⊢
      obtain ⟨a, r, hc, h1, h2, h3, h4, h5⟩ := h0
      refine ⟨a, r, hc, h1, h2, h3, h4, fun p hp => ?_⟩
      obtain ⟨q, hq, rfl⟩ := List.mem_map.1 hp
      exact Enc.upto n (h5 q hq)
  ·cases hb
 ·have := Enc.upto n (hr.glo g cs hg)
  simpa only [V.cl] using this
end Go.Ev
/- The checker of one operation, and its soundness. -/
namespace Go.Ev
open Go Go.RowKit
variable {P : Program} {M M' : Mm} {H H1 : Heap} {w w' : World}
def encS : Value → V → Bool
 | .int k n, .int k' n' => k == k' && n == n'
 | .bool b, .bool b' => b == b'
 | .string s, .str s' => decide (s.data.toList = s')
 | .pointer none, .nilp => true
 | .slice none 0 0, .vs [] .full => true
 | .nilFunc, .nilf => true
 | .map none, .nilm => true
 | _, _ => false
def encSs : List Value → List V → Bool
 | [], [] => true
 | x :: xs, c :: cs => encS x c && encSs xs cs
 | _, _ => false
def encK : Value → V → Bool
 | .agg xs, .agg cs => encSs xs.toList cs
 | x, c => encS x c
theorem encS_enc {x : Value} {c : V} (h : encS x c = true) : Enc M w c x := by
 unfold encS at h
 split at h <;> (try simp only [Bool.false_eq_true, Bool.and_eq_true, beq_iff_eq, decide_eq_true_eq] at h)
 ·obtain ⟨rfl, rfl⟩ := h; simp only [Enc]
 ·subst h; simp only [Enc]
 ·subst h; simp only [Enc]
 ·simp only [Enc]
 ·simp only [Enc]; exact ⟨by simp, none, 0, rfl, Nat.le_refl _, by simp, by simp [TkOk]⟩
 ·simp only [Enc]
 ·simp only [Enc]
theorem encS_pure {x : Value} {c : V} (h : encS x c = true) : c.pure = true := by
 unfold encS at h
 split at h <;> first | rfl | simp at h
theorem encSs_encL : ∀ {xs : List Value} {cs : List V}, encSs xs cs = true → EncL M w cs xs
 | [], [], _ => by simp only [EncL]
 | [], _ :: _, h => by simp [encSs] at h
 | _ :: _, [], h => by simp [encSs] at h
 | x :: xs, c :: cs, h => by
  simp only [encSs, Bool.and_eq_true] at h
  simp only [EncL]
  exact ⟨x, xs, rfl, encS_enc h.1, encSs_encL h.2⟩
theorem encSs_pure : ∀ {xs : List Value} {cs : List V}, encSs xs cs = true → ∀ c ∈ cs, c.pure = true
 | [], [], _ => by simp
 | [], _ :: _, h => by simp [encSs] at h
 | _ :: _, [], h => by simp [encSs] at h
 | x :: xs, c :: cs, h => by
  simp only [encSs, Bool.and_eq_true] at h
  intro d hd
  simp only [List.mem_cons] at hd
  rcases hd with rfl | hd
  ·exact encS_pure h.1
  ·exact encSs_pure h.2 d hd
theorem encK_enc {x : Value} {c : V} (h : encK x c = true) : Enc M w c x := by
 unfold encK at h
 split at h
 ·rename_i xs cs
  simp only [Enc]
  exact ⟨fun c hc => V.scal_of_pure (encSs_pure h c hc), xs.toList, by simp, encSs_encL h⟩
 ·exact encS_enc h
theorem eqc_true {a b : V} (h : a.eqc b = some true) : a = b := by
 cases a <;> cases b <;> simp only [V.eqc, reduceCtorEq, Option.some.injEq] at h
 ·split at h
  ·rename_i hk; subst hk; simp at h; subst h; rfl
  ·cases h
 ·simp at h; subst h; rfl
 ·simp at h; subst h; rfl
theorem eqcs_true : ∀ {as bs : List V}, eqcs as bs = some true → as = bs
 | [], [], _ => rfl
 | [], _ :: _, h => by simp [eqcs] at h
 | _ :: _, [], h => by simp [eqcs] at h
 | a :: as, b :: bs, h => by
  simp only [eqcs] at h
  split at h
  ·rename_i x y hx hy
   simp only [Option.some.injEq, Bool.and_eq_true] at h
   obtain ⟨rfl, rfl⟩ := h
   rw [eqc_true hx, eqcs_true hy]
  ·cases h
def chkX (fm : Fm) : Operand → X → Bool
 | .tmp t, .t i => t == i
 | .const v, .c c => encK v c
 | .func f, .c (.fn f' []) => f == fm f'
 | .global g, .c (.cptr cs) => match fm.gl g with | some ds => eqcs ds cs == some true | none => false
 | _, _ => false
structure RelT (M : Mm) (w : World) (e : Env) (a : Act) (n : Nat) : Prop where
 size : a.tmps.size = n
 defers : a.defers.Nodup ∧ ∀ d ∈ a.defers, ∃ D, d = { target := .collected D, args := #[] } ∧ w.heap[D]? = some (.deferred (some []))
 rel : ∀ i, Enc M w (e i) (a.tmps.getD i undef)
 glo : GOk M w
theorem chkX_enc {e : Env} {a : Act} {n : Nat} {o : Operand} {x : X} (h : chkX M.fm o x = true) (ht : RelT M w e a n) : Enc M w (x.ev e) (a.eval o) := by
 unfold chkX at h
 split at h <;> (try simp only [beq_iff_eq, Bool.false_eq_true] at h)
 ·subst h; exact ht.rel _
 ·exact encK_enc h
 ·subst h; simp only [X.ev, Enc, Act.eval]; exact ⟨[], rfl, by simp only [EncL]⟩
 ·split at h
  ·rename_i ds hd
   have := eqcs_true (by simpa using h)
   subst this
   exact ht.glo _ _ hd
  ·cases h
def chkXs (fm : Fm) : List Operand → List X → Bool
 | [], [] => true
 | o :: os, x :: xs => chkX fm o x && chkXs fm os xs
 | _, _ => false
theorem chkXs_encL {e : Env} {a : Act} {n : Nat} : ∀ {os : List Operand} {xs : List X}, chkXs M.fm os xs = true → RelT M w e a n → EncL M w (xs.map (X.ev e)) (os.map a.eval)
 | [], [], _, _ => by simp only [List.map_nil, EncL]
 | [], _ :: _, h, _ => by simp [chkXs] at h
 | _ :: _, [], h, _ => by simp [chkXs] at h
 | o :: os, x :: xs, h, ht => by
  simp only [chkXs, Bool.and_eq_true] at h
  simp only [List.map_cons, EncL]
  exact ⟨_, _, rfl, chkX_enc h.1 ht, chkXs_encL h.2 ht⟩
def chkXo (fm : Fm) : Option Operand → Option X → Bool
 | none, none => true
 | some o, some x => chkX fm o x
 | _, _ => false
def tyOk (P : Program) (t : TypeId) (sz : Nat) (ag : Bool) : Bool :=
 match P.underlying t, P.info? t with
 | some d, some i => i.size == sz && (if d.isRow then ag else !ag && sz == 1)
 | _, _ => false
theorem enc_cells {c : V} {x : Value} {cs : List V} (h : Enc M w c x) (hc : c.cells? = some cs) : EncL M w cs x.cells.toList ∧ ∀ d ∈ cs, d.scal = true := by
 cases c <;> simp only [V.cells?, Option.some.injEq, reduceCtorEq] at hc <;> subst hc
 case agg cs => simp only [Enc] at h; obtain ⟨p, xs, rfl, h⟩ := h; exact ⟨by simpa [Value.cells] using h, p⟩
 all_goals
  have h1 := enc_one h rfl
  refine ⟨?_, by simp [V.scal]⟩
  have : x.cells = #[x] := by cases x <;> simp_all [Value.cells, Value.oneCell']
  rw [this]
  simp only [EncL]
  exact ⟨x, [], rfl, h, rfl⟩
def OpOk (P : Program) (o : Oper) (a : Act) (M : Mm) (H : Heap) (w : World) (v : V) (H1 : Heap) : Prop :=
 ∃ n w' M', (execOp a.eval o).run P w = .ok n w' ∧ (match n with | .value rv => Enc M' w' v rv | .skip => v = .undef | _ => False) ∧
  Stp M H w M' H1 w' ∧ Ids M M' H.length ∧ HRel M' w' H1
theorem OpOk.plain {o : Oper} {a : Act} {v : V} {rv : Value} (hr : HRel M w H) (h : (execOp a.eval o).run P w = .ok (.value rv) w) (he : Enc M w v rv) : OpOk P o a M H w v H :=
 ⟨_, w, M, h, he, Stp.refl M H w, Ids.refl _ _, hr⟩
section
variable {e : Env} {a : Act} {n : Nat} {o : Oper} {v : V}
theorem mv_ok {x : Operand} {sx : X} (ho : o.op = .move x ∨ o.op = .assign x) (hx : chkX M.fm x sx = true) (ht : RelT M w e a n) (hr : HRel M w H) : OpOk P o a M H w (sx.ev e) H := by
 refine .plain (rv := a.eval x) hr ?_ (chkX_enc hx ht)
 rcases ho with ho | ho <;> simp [execOp, ho]
theorem pick_ok {c x y : Operand} {sc sx sy : X} (ho : o.op = .pick c x y) (hc : chkX M.fm c sc = true) (hx : chkX M.fm x sx = true) (hy : chkX M.fm y sy = true) (ht : RelT M w e a n) (hr : HRel M w H)
  {b : Bool} (hb : sc.ev e = .bool b) : OpOk P o a M H w (if b then sx.ev e else sy.ev e) H := by
 have h := chkX_enc hc ht
 rw [hb] at h
 simp only [Enc] at h
 refine .plain (rv := if b then a.eval x else a.eval y) hr ?_ (by cases b <;> simp [chkX_enc hx ht, chkX_enc hy ht])
 cases b <;> simp [execOp, ho, h, asBool]
theorem box_ok {t : TypeId} {x : Operand} {sx : X} {id : Nat} {cs : List V} (ho : o.op = .box t x) (hx : chkX M.fm x sx = true) (ht : RelT M w e a n) (hr : HRel M w H)
  (hc : (sx.ev e).cells? = some cs) (hf : isFree H id = true) : OpOk P o a M H w (.ptr id 0) (H.set id (some (.cells cs))) := by
 obtain ⟨h1, h2⟩ := enc_cells (chkX_enc hx ht) hc
 obtain ⟨s, i, r⟩ := stp_alc (t := t) hr hf h1 h2
 refine ⟨.value (.pointer (some ⟨w.heap.size, 0, none⟩)), _, _, ?_, ?_, s, i, r⟩
 ·simp [execOp, ho, Instr.box, newVar, newRow]
 ·simp only [Enc, Mm.alc, decide_true, Bool.true_or, if_true, true_and]
theorem alloc_ok {t : TypeId} {id : Nat} {z : List V} {i : TypeInfo} {zv : Value} (ho : o.op = .alloc t) (hi : P.info? t = some i) (hz : i.zero = some zv) (hzz : encSs zv.cells.toList z = true)
  (hr : HRel M w H) (hf : isFree H id = true) : OpOk P o a M H w (.ptr id 0) (H.set id (some (.cells z))) := by
 obtain ⟨s, ii, r⟩ := stp_alc (t := t) (xs := zv.cells) hr hf (encSs_encL (M := M) (w := w) hzz) (fun c hc => V.scal_of_pure (encSs_pure hzz c hc))
 refine ⟨.value (.pointer (some ⟨w.heap.size, 0, none⟩)), _, _, ?_, ?_, s, ii, r⟩
 ·simp [execOp, ho, Instr.alloc, zeroValue, typeInfo, hi, hz, newVar, newRow]
 ·simp only [Enc, Mm.alc, decide_true, Bool.true_or, if_true, true_and]
def mkR (ag : Bool) (xs : List Value) : Value := if ag then .agg xs.toArray else xs.headD undef
theorem mk_enc {ag : Bool} {cs : List V} {xs : List Value} (hm : mk ag cs = some v) (he : EncL M w cs xs) (hs : ∀ c ∈ cs, c.scal = true) : Enc M w v (mkR ag xs) := by
 unfold mk at hm
 cases ag with
 | true => simp only [if_true, Option.some.injEq] at hm; subst hm; simp only [Enc, mkR, if_true]; exact ⟨hs, xs, rfl, he⟩
 | false =>
  simp only [Bool.false_eq_true, if_false] at hm
  split at hm
  ·simp only [Option.some.injEq] at hm
   subst hm
   simp only [EncL] at he
   obtain ⟨x, xs', rfl, h, rfl⟩ := he
   simpa [mkR] using h
  ·cases hm
theorem run_load_mk {t : TypeId} {sz : Nat} {ag : Bool} {b off : Nat} {xs : List Value} (hty : tyOk P t sz ag = true) (hl : xs.length = sz) (hc : w.rangeAt b off xs) :
  (Instr.loadAt t (.pointer (some ⟨b, off, none⟩))).run P w = .ok (mkR ag xs) w := by
 unfold tyOk at hty
 split at hty
 ·rename_i d i hu hi
  simp only [Bool.and_eq_true, beq_iff_eq] at hty
  obtain ⟨hsz, hty⟩ := hty
  by_cases hd : d.isRow = true
  ·rw [if_pos hd] at hty
   subst hty
   simp only [mkR, if_true]
   exact run_loadAt_mid w b off t xs d hc hu hd (by rw [hi]; simp [hsz, hl])
  ·rw [if_neg hd] at hty
   simp only [Bool.and_eq_true, Bool.not_eq_true', beq_iff_eq] at hty
   obtain ⟨rfl, rfl⟩ := hty
   match xs, hl, hc with
   | [x], _, hc =>
    have hx := hc 0 x rfl
    simp only [Nat.add_zero] at hx
    have hagg : (isAgg t).run P w = .ok false w := by
     unfold isAgg
     rw [Sem.run_bind, run_underlying hu w]
     cases d <;> simp_all [TypeDesc.isRow]
    simp [Instr.loadAt, Instr.sureAddr, loadVar, hagg, mkR, load, Sem.run, hx]
 ·cases hty
theorem encRow_range {b off : Nat} {cs : List V} (h : EncRow M w b cs off) : ∃ xs : List Value, EncL M w cs xs ∧ w.rangeAt b off xs := by
 induction cs generalizing off with
 | nil => exact ⟨[], by simp only [EncL], fun j v hv => by simp at hv⟩
 | cons c cs ih =>
  simp only [EncRow] at h
  obtain ⟨⟨x, hx, _, he⟩, h⟩ := h
  obtain ⟨xs, h1, h2⟩ := ih h
  refine ⟨x :: xs, by simp only [EncL]; exact ⟨x, xs, rfl, he, h1⟩, fun j v hv => ?_⟩
  cases j with
  | zero => simp at hv; subst hv; simpa using hx
  | succ j => simp at hv; have := h2 j v hv; rw [show off + 1 + j = off + (j + 1) by omega] at this; exact this
theorem encRow_take {b off k : Nat} {cs : List V} (h : EncRow M w b cs off) : EncRow M w b (cs.take k) off := by
 refine encRow_of fun i c hc => ?_
 rw [List.getElem?_take] at hc
 split at hc
 ·exact encRow_get h hc
 ·cases hc
theorem encRow_drop {b off k : Nat} {cs : List V} (h : EncRow M w b cs off) : EncRow M w b (cs.drop k) (off + k) := by
 refine encRow_of fun i c hc => ?_
 rw [List.getElem?_drop] at hc
 have := encRow_get h hc
 rw [show off + (k + i) = off + k + i by omega] at this
 exact this
theorem load_ok {t : TypeId} {x : Operand} {sx : X} {base sz : Nat} {ag old : Bool} (ho : o.op = .load t x) (hx : chkX M.fm x sx = true) (hty : tyOk P t sz ag = true) (ht : RelT M w e a n) (hr : HRel M w H)
  (hv : ev1 base e H (.load sz ag old sx) = some (v, H1)) : OpOk P o a M H w v H1 := by
 have hx' := chkX_enc hx ht
 simp only [ev1] at hv
 split at hv
 ·rename_i id off hp
  split at hv
  ·cases hv
  ·split at hv
   ·rename_i cs hb
    split at hv
    ·rename_i hle
     rw [Option.map_eq_some_iff] at hv
     obtain ⟨v', hm, hv⟩ := hv
     cases hv
     rw [hp] at hx'
     simp only [Enc] at hx'
     have hb' := hr.rel id _ hb
     simp only [BRel] at hb'
     obtain ⟨hs, _, xs, te, hh, he⟩ := hb'
     have hlen := encL_length he
     refine .plain (rv := mkR ag (((xs.toList.take cs.length).drop off).take sz)) hr ?_ (mk_enc hm (encL_take (encL_drop he off) sz) (fun c hc => hs c (List.mem_of_mem_drop (List.mem_of_mem_take hc))))
     have := run_load_mk (P := P) (w := w) (b := M.j id) (off := off) (xs := ((xs.toList.take cs.length).drop off).take sz) hty (by rw [List.length_take, List.length_drop, hlen]; omega) (fun j u hu => by
      rw [List.getElem?_take] at hu
      split at hu
      ·rw [List.getElem?_drop, List.getElem?_take] at hu
       split at hu
       ·rw [cell_of_row w (M.j id) (off + j) xs te (0, 0) hh]
        simpa using hu
       ·cases hu
      ·cases hu)
     simp [execOp, ho, hx'.2, this]
    ·cases hv
   ·cases hv
 ·rename_i cs hp
  split at hv
  ·rename_i hle
   rw [Option.map_eq_some_iff] at hv
   obtain ⟨v', hm, hv⟩ := hv
   cases hv
   rw [hp] at hx'
   simp only [Enc] at hx'
   obtain ⟨hpu, b, off, hxe, hrow⟩ := hx'
   obtain ⟨xs, h1, h2⟩ := encRow_range (encRow_take (k := sz) hrow)
   refine .plain (rv := mkR ag xs) hr ?_ (mk_enc hm h1 (fun c hc => V.scal_of_pure (hpu c (List.mem_of_mem_take hc))))
   have := run_load_mk (P := P) (w := w) hty (by rw [encL_length h1]; simp; omega) h2
   simp [execOp, ho, hxe, this]
  ·cases hv
 ·cases hv
theorem pfx_get {xs : Array Value} {k i : Nat} {x : Value} (h : (xs.toList.take k)[i]? = some x) : xs[i]? = some x := by
 rw [List.getElem?_take] at h
 split at h
 ·simpa using h
 ·cases h
theorem pre_splice {l n : List Value} {k off : Nat} (hk : k ≤ l.length) (h : off + n.length ≤ k) :
  (l.take off ++ n ++ l.drop (off + n.length)).take k = (l.take k).take off ++ n ++ (l.take k).drop (off + n.length) := by
 have ha : (l.take k).length = k := by rw [List.length_take]; omega
 obtain ⟨a, h1⟩ : ∃ a, a = l.take k := ⟨_, rfl⟩
 obtain ⟨b, h2⟩ : ∃ b, b = l.drop k := ⟨_, rfl⟩
 have hl : l = a ++ b := by rw [h1, h2, List.take_append_drop]
 rw [← h1] at ha ⊢
 have e1 : (a ++ b).take off = a.take off := List.take_append_of_le_length (by omega)
 have e2 : (a ++ b).drop (off + n.length) = a.drop (off + n.length) ++ b := List.drop_append_of_le_length (by omega)
 rw [hl, e1, e2, ← List.append_assoc]
 refine List.take_left' ?_
 simp only [List.length_append, List.length_take, List.length_drop]
 omega
theorem store_ok {t : TypeId} {x y : Operand} {sx sy : X} {base sz : Nat} (ho : o.op = .store t x y) (hx : chkX M.fm x sx = true) (hy : chkX M.fm y sy = true) (hi : (P.info? t).map (·.size) = some sz)
  (ht : RelT M w e a n) (hr : HRel M w H) (hv : ev1 base e H (.store sz sx sy) = some (v, H1)) : OpOk P o a M H w v H1 := by
 have hx' := chkX_enc hx ht
 simp only [ev1] at hv
 split at hv
 ·rename_i id off ds hp hds
  split at hv
  ·rename_i cs hb
   split at hv
   ·rename_i hle
    cases hv
    rw [hp] at hx'
    simp only [Enc] at hx'
    have hb' := hr.rel id _ hb
    simp only [BRel] at hb'
    obtain ⟨hs, _, xs, te, hh, he⟩ := hb'
    have hlen := encL_length he
    obtain ⟨hd, hds'⟩ := enc_cells (chkX_enc hy ht) hds
    have hdl := encL_length hd
    have hone : ∀ u ∈ (a.eval y).cells.toList, u.oneCell' = true := by
     intro u hu
     obtain ⟨i, hi⟩ := List.getElem?_of_mem hu
     have hil : i < ds.length := by rw [← hdl]; exact (List.getElem?_eq_some_iff.1 hi).1
     obtain ⟨x', hx1, hx2⟩ := encL_get hd (List.getElem?_eq_getElem hil)
     rw [hi] at hx1; cases hx1
     exact enc_one hx2 (hds' _ (List.getElem_mem hil))
    have hxl : cs.length ≤ xs.toList.length := by rw [List.length_take] at hlen; omega
    have hxl' : cs.length ≤ xs.size := by simpa using hxl
    have hst := run_storeCells_at P (M.j id) off te (a.eval y).cells.toList 0 xs w hh (by rw [hdl]; omega) hone
    simp only [Nat.add_zero] at hst
    obtain ⟨s, ii, r⟩ := stp_set (ds := cs.take off ++ ds ++ cs.drop (off + sz)) hr hb hh (ys := (xs.toList.take off ++ (a.eval y).cells.toList ++ xs.toList.drop (off + (a.eval y).cells.toList.length)).toArray)
     (by
      rw [show (cs.take off ++ ds ++ cs.drop (off + sz)).length = cs.length by simp only [List.length_append, List.length_take, List.length_drop]; omega]
      simp only []
      rw [pre_splice hxl (by rw [hdl]; omega)]
      refine encL_append (encL_append (encL_take he off) hd) ?_
      rw [hdl, hle.1]
      exact encL_drop he _)
     (fun c hc => by
      simp only [List.mem_append] at hc
      rcases hc with (hc | hc) | hc
      ·exact hs c (List.mem_of_mem_take hc)
      ·exact hds' c hc
      ·exact hs c (List.mem_of_mem_drop hc))
    refine ⟨.skip, _, _, ?_, rfl, s, ii, r⟩
    have hsz : (a.eval y).cells.size = sz := by rw [← Array.length_toList, hdl, hle.1]
    cases hq : P.info? t with
    | none => simp [hq] at hi
    | some i =>
     have hs' : i.size = sz := by simpa [hq] using hi
     have hvar : (storeVar t ⟨M.j id, off, none⟩ (a.eval y)).run P w = (storeCells ⟨M.j id, off, none⟩ (a.eval y).cells.toList 0).run P w := by
      simp [storeVar, sizeOf, typeInfo, hq, hs', hsz]
     simp only [execOp, ho, Instr.storeAt, hx'.2, Instr.sureAddr, Sem.run_bind, Sem.run_pure, Result.andThen_ok, hvar, hst]
   ·cases hv
  ·cases hv
 ·cases hv
end
end Go.Ev
