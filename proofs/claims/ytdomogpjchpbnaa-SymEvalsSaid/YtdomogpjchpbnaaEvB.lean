/- Simplified code, and what it does to canonical values: a big-step relation. -/
import Derived.Test.YtdomogpjchpbnaaEvA
namespace Go.Ev
open Go Go.RowKit

abbrev Env := Nat → V
def Env.put (e : Env) (d : Option Nat) (v : V) : Env :=
  match d with
  | some d => fun i => if i = d then v else e i
  | none => e
theorem Env.put_some (e : Env) (d : Nat) (v : V) (i : Nat) : (e.put (some d) v) i = if i = d then v else e i := rfl
theorem Env.put_none (e : Env) (v : V) : e.put none v = e := rfl

inductive X where
  | t (i : Nat)
  | c (v : V)
def X.ev (e : Env) : X → V
  | .t i => e i
  | .c v => v

/-- The cells of a value. -/
def V.cells? : V → Option (List V)
  | .undef | .skp | .tup _ => none
  | .agg cs => some cs
  | v => some [v]
/-- A value of cells: an aggregate, or the one cell. -/
def mk (ag : Bool) (cs : List V) : Option V :=
  if ag then some (.agg cs) else match cs with | [c] => some c | _ => none

def Tk.cl (n : Nat) : Tk → Tk
  | .own q => if q < n then .own q else .no
  | .no => .no
  | .full => .full
mutual
/-- Without the numbers from n on. -/
def V.cl (n : Nat) : V → V
  | .ptr id off => if id < n then .ptr id off else .any
  | .rs id off k sz => if id < n then .rs id off k sz else .any
  | .vs es tk => .vs es (tk.cl n)
  | .fn f cap => .fn f (clL n cap)
  | .agg cs => .agg (clL n cs)
  | .tup cs => .tup (clL n cs)
  | .undef => .undef
  | .skp => .skp
  | .any => .any
  | .int k i => .int k i
  | .bool b => .bool b
  | .str s => .str s
  | .nilp => .nilp
  | .cptr cs => .cptr cs
  | .nilf => .nilf
  | .mp id => if id < n then .mp id else .any
  | .nilm => .nilm
def clL (n : Nat) : List V → List V
  | [] => []
  | c :: cs => c.cl n :: clL n cs
end
def Blk.cl (n : Nat) : Blk → Blk
  | .cells cs => .cells (clL n cs)
  | .zone k => .zone k
  | .froz cs => .froz (clL n cs)
  | .map es => .map (es.map fun p => (p.1.cl n, p.2.cl n))
  | .siter s pos => .siter s pos
def trunc (n : Nat) (H : Heap) : Heap := (H.take n).map (Option.map (Blk.cl n))

inductive UOp where
  | neg | not | xor
  deriving DecidableEq

/-- Kinds of scalars that may be compared. -/
inductive Kd where
  | int | bool | str
  deriving DecidableEq
/-- A map's keys: scalars, or rows of scalars. -/
inductive Ky where
  | sc (k : Kd)
  | row (ks : List Kd)

@[simp] def Ky.isRow : Ky → Bool
  | .sc _ => false
  | .row _ => true

inductive SOp where
  | mv (x : X)
  | pick (c a b : X)
  | box (s : Nat) (x : X)
  | alloc (s : Nat) (z : List V)
  | build (z : List V) (ps : List (Nat × Nat × X))
  | bslice (n : Nat) (z : List V) (ps : List (Nat × X))
  | load (sz : Nat) (ag old : Bool) (x : X)
  | store (sz : Nat) (a x : X)
  | faddr (off : Nat) (x : X)
  | fld (off sz : Nat) (ag : Bool) (x : X)
  | iaddr (sz : Nat) (x i : X)
  | iaddrA (len sz : Nat) (x i : X)
  | idx (len sz : Nat) (ag : Bool) (x i : X)
  | bin (op : BinOp) (x y : X)
  | beq (neg : Bool) (x y : X)
  | un (op : UnOp) (x : X)
  | conv (k : IntKind) (x : X)
  | mkfn (f : Nat) (cap : List X)
  | ext (i : Nat) (x : X)
  | len (st : Bool) (x : X)
  | app (s sz bytes : Nat) (x y : X)
  | slc (sz : Nat) (x : X) (lo hi mx : Option X)
  | nilck (x : X)
  | mksl (s bytes : Nat) (z : List V) (n : X)
  | aeq (ks : List Kd) (neg : Bool) (x y : X)
  | nileq (k : Nat) (neg : Bool) (x : X)
  | mm (mx : Bool) (xs : List X)
  | sidx (x i : X)
  | sslc (x : X) (lo hi : Option X)
  | b2s (x : X)
  | i2s (x : X)
  | s2b (s : Nat) (x : X)
  | mkmap (s : Nat)
  | mget (ks : Ky) (ok : Bool) (z : V) (x k : X)
  | mput (ks : Ky) (x k v : X)
  | ment (ks : Ky) (z : V) (x k : X)
  | mst (x i v : X)
  | rng (s : Nat) (x : X)
  | nxt (x : X)
  | slcA (len sz : Nat) (x : X) (lo hi : Option X)
  | cpy (sz : Nat) (x y : X)
  | loadR (sz : Nat) (ag : Bool) (r : Nat) (x : X)
  | storeA (sz : Nat) (rs : List Nat) (a x : X)
  | bsliceR (s n : Nat) (z : List V) (ps : List (Nat × X))
  | loadC (sz : Nat) (ag : Bool) (x : X)
  | storeN (s sz : Nat) (a x : X)
  | kcall (ro : Bool) (f : Nat) (xs : List X)
  | pcall (f : Nat) (xs : List X)
  | scall (f : Nat) (xs : List X)
  | vcall (ro : Bool) (f : X) (xs : List X)
  | scallA (rs : List Nat) (f : Nat) (xs : List X)

structure SOper where
  dst : Option Nat
  op : SOp
  guard : Option (Nat × Bool)

def andI (k : IntKind) (a b : Int) : Int := k.wrap (BitVec.ofInt k.bits a &&& BitVec.ofInt k.bits b).toNat
def orI (k : IntKind) (a b : Int) : Int := k.wrap (BitVec.ofInt k.bits a ||| BitVec.ofInt k.bits b).toNat
def xorI (k : IntKind) (a b : Int) : Int := k.wrap (BitVec.ofInt k.bits a ^^^ BitVec.ofInt k.bits b).toNat
def andnI (k : IntKind) (a b : Int) : Int := k.wrap (BitVec.ofInt k.bits a &&& ~~~BitVec.ofInt k.bits b).toNat
def shlI (k : IntKind) (a b : Int) : Int := k.wrap (a * 2 ^ (min b.toNat k.bits))
def shrI (k : IntKind) (a b : Int) : Int := a.fdiv (2 ^ (min b.toNat k.bits))
def quoI (k : IntKind) (a b : Int) : Int := k.wrap (a.tdiv b)
def mulI (k : IntKind) (a b : Int) : Int := k.wrap (a * b)
def addI (k : IntKind) (a b : Int) : Int := k.wrap (a + b)
def subI (k : IntKind) (a b : Int) : Int := k.wrap (a - b)
def remI (a b : Int) : Int := a.tmod b
def negI (k : IntKind) (a : Int) : Int := k.wrap (0 - a)
def notI (k : IntKind) (a : Int) : Int := k.wrap (BitVec.ofInt k.bits (if k.signed then -1 else k.max) ^^^ BitVec.ofInt k.bits a).toNat
def convI (k : IntKind) (a : Int) : Int := k.wrap a
/-- Arithmetic. -/
def evBin (op : BinOp) : V → V → Option V
  | .int k a, .int k' b =>
    match op with
    | .shl => if b < 0 then none else some (.int k (shlI k a b))
    | .shr => if b < 0 then none else some (.int k (shrI k a b))
    | .add => if k = k' then some (.int k (addI k a b)) else none
    | .sub => if k = k' then some (.int k (subI k a b)) else none
    | .mul => if k = k' then some (.int k (mulI k a b)) else none
    | .quo => if k = k' then (if b = 0 then none else some (.int k (quoI k a b))) else none
    | .rem => if k = k' then (if b = 0 then none else some (.int k (remI a b))) else none
    | .and => if k = k' then some (.int k (andI k a b)) else none
    | .or => if k = k' then some (.int k (orI k a b)) else none
    | .xor => if k = k' then some (.int k (xorI k a b)) else none
    | .andNot => if k = k' then some (.int k (andnI k a b)) else none
    | .eql => if k = k' then some (.bool (a == b)) else none
    | .neq => if k = k' then some (.bool (a != b)) else none
    | .lss => if k = k' then some (.bool (decide (a < b))) else none
    | .leq => if k = k' then some (.bool (decide (a ≤ b))) else none
    | .gtr => if k = k' then some (.bool (decide (a > b))) else none
    | .geq => if k = k' then some (.bool (decide (a ≥ b))) else none
  | .str a, .str b =>
    match op with
    | .add => if a.length + b.length ≤ 9223372036854775807 then some (.str (a ++ b)) else none
    | .eql => some (.bool (a == b))
    | .neq => some (.bool !(a == b))
    | .lss => some (.bool (Op.bytesLess a b))
    | .leq => some (.bool (Op.bytesLess a b || a == b))
    | .gtr => some (.bool !(Op.bytesLess a b || a == b))
    | .geq => some (.bool !(Op.bytesLess a b))
    | _ => none
  | _, _ => none
def evUn (op : UnOp) : V → Option V
  | .int k n =>
    match op with
    | .neg => some (.int k (negI k n))
    | .xor => some (.int k (notI k n))
    | _ => none
  | .bool b =>
    match op with
    | .not => some (.bool !b)
    | _ => none
  | _ => none

/-- Parts laid over cells. -/
def fillC (e : Env) : List V → List (Nat × Nat × X) → Option (List V)
  | cs, [] => some cs
  | cs, (off, sz, x) :: ps =>
    match (x.ev e).cells? with
    | some ds => if ds.length = sz ∧ off + ds.length ≤ cs.length then fillC e (cs.take off ++ ds ++ cs.drop (off + ds.length)) ps else none
    | none => none
/-- Elements laid over elements. -/
def fillE (e : Env) (sz : Nat) : List (List V) → List (Nat × X) → Option (List (List V))
  | es, [] => some es
  | es, (i, x) :: ps =>
    match (x.ev e).cells? with
    | some ds => if i < es.length ∧ ds.length = sz ∧ ds.all V.pure = true then fillE e sz (es.set i ds) ps else none
    | none => none

def intOf? : V → Option Int
  | .int _ n => some n
  | _ => none

/-- A slice expression's bounds: low, high. -/
def bounds (e : Env) (len : Nat) (lo hi mx : Option X) : Option (Nat × Nat × Bool) :=
  let h? : Option Int := match hi with | some x => intOf? (x.ev e) | none => some len
  let l? : Option Int := match lo with | some x => intOf? (x.ev e) | none => some 0
  let m? : Option (Option Int) := match mx with | some x => (intOf? (x.ev e)).map some | none => some none
  match l?, h?, m? with
  | some l, some h, some m =>
    if 0 ≤ l ∧ l ≤ h ∧ h ≤ len ∧ (∀ v, m = some v → v = h) ∧ (mx.isSome → hi.isSome) then some (l.toNat, h.toNat, m.isSome) else none
  | _, _, _ => none

/-- Scalars that may be compared. -/
def V.eqc : V → V → Option Bool
  | .int k a, .int k' b => if k = k' then some (a == b) else none
  | .bool a, .bool b => some (a == b)
  | .str a, .str b => some (a == b)
  | _, _ => none
def eqcs : List V → List V → Option Bool
  | [], [] => some true
  | a :: as, b :: bs => match a.eqc b, eqcs as bs with
    | some x, some y => some (x && y)
    | _, _ => none
  | _, _ => none
def eqk : Kd → V → V → Option Bool
  | .int, .int k a, .int k' b => if k = k' then some (a == b) else none
  | .bool, .bool a, .bool b => some (a == b)
  | .str, .str a, .str b => some (a == b)
  | _, _, _ => none
def eqks : List Kd → List V → List V → Option Bool
  | [], [], [] => some true
  | k :: ks, a :: as, b :: bs => match eqk k a b, eqks ks as bs with
    | some x, some y => some (x && y)
    | _, _ => none
  | _, _, _ => none
def keyEq (ks : Ky) (a b : V) : Option Bool :=
  match ks, a, b with
  | .sc k, a, b => eqk k a b
  | .row ks, .agg x, .agg y => eqks ks x y
  | _, _, _ => none
/-- A key's place in a map, and what it has. -/
def mfind (ks : Ky) (k : V) : List (V × V) → Nat → Option (Option (Nat × V))
  | [], _ => some none
  | p :: es, i => match keyEq ks k p.1 with
    | some true => some (some (i, p.2))
    | some false => mfind ks k es (i + 1)
    | none => none
def mmI (mx : Bool) (a b : Int) : Int := if mx then (if b > a then b else a) else (if b < a then b else a)
def mmGo (e : Env) (mx : Bool) (k : IntKind) : Int → List X → Option V
  | a, [] => some (.int k a)
  | a, x :: xs => match x.ev e with
    | .int k' b => if k = k' then mmGo e mx k (mmI mx a b) xs else none
    | _ => none
def bytesOf : List (List V) → Option (List UInt8)
  | [] => some []
  | [.int .u8 n] :: es => match bytesOf es with | some bs => some (UInt8.ofNat n.toNat :: bs) | none => none
  | _ => none
def ofBytes (s : List UInt8) : List (List V) := s.map fun b => [V.int .u8 b.toNat]
/-- What may be appended: elements, or a text's bytes. -/
def V.elems? : V → Option (List (List V))
  | .vs es _ => some es
  | .str s => some (ofBytes s)
  | _ => none
/-- The cells that a slice has. -/
def rowOf (H : Heap) (sz : Nat) : V → Option (List V)
  | .vs es _ => if es.all (fun f => f.length == sz) then some es.flatten else none
  | .rs id off n _ => match H[id]? with
    | some (some (.cells cs)) => if off + n * sz ≤ cs.length then some ((cs.drop off).take (n * sz)) else none
    | _ => none
  | _ => none

/-- A place that is still free. -/
def isFree (H : Heap) (i : Nat) : Bool := match H[i]? with | some none => true | _ => false

/-- Cells, an element's number each. -/
def chunks (sz : Nat) : Nat → List V → List (List V)
  | 0, _ => []
  | k + 1, cs => cs.take sz :: chunks sz k (cs.drop sz)

/-- A load of a block. -/
def loadAt (H : Heap) (sz : Nat) (ag : Bool) (id off : Nat) : Option (V × Heap) :=
  match H[id]? with
  | some (some (.cells cs)) => if off + sz ≤ cs.length then (mk ag ((cs.drop off).take sz)).map (·, H) else none
  | _ => none
/-- Where a pointer leads. -/
def V.ptrId? : V → Option Nat
  | .ptr id _ => some id
  | .rs id _ _ _ => some id
  | _ => none
/-- A store into a block. -/
def storeAt (H : Heap) (sz id off : Nat) (v : V) : Option (V × Heap) :=
  match v.cells?, H[id]? with
  | some ds, some (some (.cells cs)) => if ds.length = sz ∧ off + sz ≤ cs.length then some (.undef, H.set id (some (.cells (cs.take off ++ ds ++ cs.drop (off + sz))))) else none
  | _, _ => none

/-- An operation that is no call. -/
def ev1 (base : Nat) (e : Env) (H : Heap) : SOp → Option (V × Heap)
  | .mv x => some (x.ev e, H)
  | .pick c a b => match c.ev e with | .bool t => some (if t then a.ev e else b.ev e, H) | _ => none
  | .box s x => match (x.ev e).cells? with
    | some cs => if isFree H (base + s) = true then some (.ptr (base + s) 0, H.set (base + s) (some (.cells cs))) else none
    | none => none
  | .alloc s z => if isFree H (base + s) = true then some (.ptr (base + s) 0, H.set (base + s) (some (.cells z))) else none
  | .build z ps => match fillC e z ps with | some cs => some (.agg cs, H) | none => none
  | .bslice n z ps => match fillE e z.length (List.replicate n z) ps with | some es => some (.vs es .full, H) | none => none
  | .load sz ag old x => match x.ev e with
    | .ptr id off => if old = true ∧ base ≤ id then none else match H[id]? with
      | some (some (.cells cs)) => if off + sz ≤ cs.length then (mk ag ((cs.drop off).take sz)).map (·, H) else none
      | _ => none
    | .cptr cs => if sz ≤ cs.length then (mk ag (cs.take sz)).map (·, H) else none
    | _ => none
  | .store sz a x => match a.ev e, (x.ev e).cells? with
    | .ptr id off, some ds => match H[id]? with
      | some (some (.cells cs)) => if ds.length = sz ∧ off + sz ≤ cs.length then some (.undef, H.set id (some (.cells (cs.take off ++ ds ++ cs.drop (off + sz))))) else none
      | _ => none
    | _, _ => none
  | .faddr off x => match x.ev e with
    | .ptr id o => some (.ptr id (o + off), H)
    | .cptr cs => some (.cptr (cs.drop off), H)
    | _ => none
  | .fld off sz ag x => match x.ev e with
    | .agg cs => if off + sz ≤ cs.length then (mk ag ((cs.drop off).take sz)).map (·, H) else none
    | _ => none
  | .iaddr sz x i => match x.ev e, i.ev e with
    | .vs es _, .int _ n => if 0 ≤ n then match es[n.toNat]? with
        | some cs => if cs.length = sz then some (.cptr cs, H) else none
        | none => none
      else none
    | .rs id off k _, .int _ n => if 0 ≤ n ∧ n < k then some (.ptr id (off + n.toNat * sz), H) else none
    | _, _ => none
  | .iaddrA len sz x i => match x.ev e, i.ev e with
    | .ptr id off, .int _ n => if 0 ≤ n ∧ n < len then some (.ptr id (off + n.toNat * sz), H) else none
    | .cptr cs, .int _ n => if 0 ≤ n ∧ n < len then some (.cptr (cs.drop (n.toNat * sz)), H) else none
    | _, _ => none
  | .idx len sz ag x i => match x.ev e, i.ev e with
    | .agg cs, .int _ n => if 0 ≤ n ∧ n < len ∧ n.toNat * sz + sz ≤ cs.length then (mk ag ((cs.drop (n.toNat * sz)).take sz)).map (·, H) else none
    | _, _ => none
  | .bin op x y => (evBin op (x.ev e) (y.ev e)).map (·, H)
  | .beq neg x y => match x.ev e, y.ev e with
    | .bool a, .bool b => some (.bool (if neg then !(a == b) else a == b), H)
    | _, _ => none
  | .un op x => (evUn op (x.ev e)).map (·, H)
  | .conv k x => match x.ev e with | .int _ n => some (.int k (convI k n), H) | _ => none
  | .mkfn f cap => some (.fn f (cap.map (X.ev e)), H)
  | .ext i x => match x.ev e with | .tup cs => (cs[i]?).map (·, H) | _ => none
  | .len st x => match st, x.ev e with
    | false, .vs es _ => some (.int .i64 es.length, H)
    | false, .rs _ _ n _ => some (.int .i64 n, H)
    | true, .str s => some (.int .i64 s.length, H)
    | _, _ => none
  | .app s sz bytes x y => match x.ev e, (y.ev e).elems? with
    | .vs es tk, some fs =>
      if fs = [] then some (.vs es tk, H) else
      if (es.length + fs.length) * bytes ≤ 140737488355328 ∧ (∀ f ∈ fs, f.length = sz) ∧ (∀ f ∈ es, f.length = sz) then
        match tk with
        | .own q => match H[q]? with
          | some (some (.zone n)) => if n = es.length then some (.vs (es ++ fs) (.own q), H.set q (some (.zone (n + fs.length)))) else none
          | _ => none
        | .full => if isFree H (base + s) = true then some (.vs (es ++ fs) (.own (base + s)), H.set (base + s) (some (.zone (es.length + fs.length)))) else none
        | .no => none
      else none
    | _, _ => none
  | .slc sz x lo hi mx => match x.ev e with
    | .vs es tk => match bounds e es.length lo hi mx with
      | some (l, h, m) => if (∀ f ∈ es, f.length = sz) then some (.vs ((es.drop l).take (h - l)) (if m = true ∨ tk = .full ∧ h = es.length then .full else .no), H) else none
      | none => none
    | .rs id off n sz' => match bounds e n lo hi mx with
      | some (l, h, m) => if l = 0 ∨ l < n ∧ m = false then some (.rs id (off + l * sz) (h - l) sz', H) else none
      | none => none
    | _ => none
  | .nilck x => match x.ev e with
    | .ptr id o => some (.ptr id o, H)
    | .cptr cs => some (.cptr cs, H)
    | .fn f cap => some (.fn f cap, H)
    | _ => none
  | .mksl s bytes z n => match n.ev e with
    | .int _ k => if isFree H (base + s) = true ∧ 0 ≤ k ∧ k.toNat * bytes ≤ 140737488355328 then some (.rs (base + s) 0 k.toNat z.length, H.set (base + s) (some (.cells (List.replicate k.toNat z).flatten))) else none
    | _ => none
  | .aeq ks neg x y => match x.ev e, y.ev e with
    | .agg cs, .agg ds => match eqks ks cs ds with
      | some b => some (.bool (if neg then !b else b), H)
      | none => none
    | _, _ => none
  | .nileq k neg x => match k, x.ev e with
    | 0, .fn _ _ => some (.bool neg, H)
    | 0, .nilf => some (.bool !neg, H)
    | 1, .ptr _ _ => some (.bool neg, H)
    | 1, .cptr _ => some (.bool neg, H)
    | 1, .nilp => some (.bool !neg, H)
    | 2, .mp _ => some (.bool neg, H)
    | 2, .nilm => some (.bool !neg, H)
    | _, _ => none
  | .mm mx xs => match xs with
    | x :: xs => match x.ev e with
      | .int k a => (mmGo e mx k a xs).map (·, H)
      | _ => none
    | [] => none
  | .sidx x i => match x.ev e, i.ev e with
    | .str s, .int _ n => if 0 ≤ n then match s[n.toNat]? with
        | some b => some (.int .u8 b.toNat, H)
        | none => none
      else none
    | _, _ => none
  | .sslc x lo hi => match x.ev e with
    | .str s => match bounds e s.length lo hi none with
      | some (l, h, _) => some (.str ((s.drop l).take (h - l)), H)
      | none => none
    | _ => none
  | .b2s x => match x.ev e with
    | .vs es _ => match bytesOf es with
      | some s => some (.str s, H)
      | none => none
    | _ => none
  | .i2s x => match x.ev e with
    | .int _ n => some (.str (Utf8.encode n).toList, H)
    | _ => none
  | .s2b s x => match x.ev e with
    | .str t => if isFree H (base + s) = true ∧ t ≠ [] ∧ t.length ≤ 140737488355328 then some (.vs (ofBytes t) (.own (base + s)), H.set (base + s) (some (.zone t.length))) else none
    | _ => none
  | .mkmap s => if isFree H (base + s) = true then some (.mp (base + s), H.set (base + s) (some (.map []))) else none
  | .mget ks ok z x k => if ks.isRow = true ∧ keyEq ks (k.ev e) (k.ev e) = none then none else match x.ev e with
    | .mp id => match H[id]? with
      | some (some (.map es)) => match mfind ks (k.ev e) es 0 with
        | some (some (_, v)) => some (if ok then .tup [v, .bool true] else v, H)
        | some none => some (if ok then .tup [z, .bool false] else z, H)
        | none => none
      | _ => none
    | .nilm => some (if ok then .tup [z, .bool false] else z, H)
    | _ => none
  | .mput ks x k v => match x.ev e with
    | .mp id => if keyEq ks (k.ev e) (k.ev e) = none ∨ (v.ev e).cells? = none then none else match H[id]? with
      | some (some (.map es)) => match mfind ks (k.ev e) es 0 with
        | some (some (i, _)) => some (.undef, H.set id (some (.map (es.set i (k.ev e, v.ev e)))))
        | some none => some (.undef, H.set id (some (.map (es ++ [(k.ev e, v.ev e)]))))
        | none => none
      | _ => none
    | _ => none
  | .ment ks z x k => match x.ev e with
    | .mp id => if keyEq ks (k.ev e) (k.ev e) = none then none else match H[id]? with
      | some (some (.map es)) => match mfind ks (k.ev e) es 0 with
        | some (some (i, v)) => some (.tup [v, .int .i64 i], H.set id (some (.map (es.set i (k.ev e, v)))))
        | some none => some (.tup [z, .int .i64 es.length], H.set id (some (.map (es ++ [(k.ev e, z)]))))
        | none => none
      | _ => none
    | _ => none
  | .mst x i v => match x.ev e, i.ev e with
    | .mp id, .int _ n => match H[id]? with
      | some (some (.map es)) => if 0 ≤ n then match es[n.toNat]? with
          | some p => some (.undef, H.set id (some (.map (es.set n.toNat (p.1, v.ev e)))))
          | none => none
        else none
      | _ => none
    | _, _ => none
  | .rng s x => match x.ev e with
    | .str t => if isFree H (base + s) = true then some (.ptr (base + s) 0, H.set (base + s) (some (.siter t 0))) else none
    | _ => none
  | .nxt x => match x.ev e with
    | .ptr id 0 => match H[id]? with
      | some (some (.siter t pos)) =>
        if pos < t.length then some (.tup [.bool true, .int .i64 pos, .int .i32 (Utf8.decode ⟨t.toArray⟩ pos).1], H.set id (some (.siter t (pos + (Utf8.decode ⟨t.toArray⟩ pos).2))))
        else some (.tup [.bool false], H)
      | _ => none
    | _ => none
  | .slcA len sz x lo hi => match bounds e len lo hi none with
    | some (l, h, _) => match x.ev e with
      | .ptr id off => if l < len then some (.rs id (off + l * sz) (h - l) sz, H) else none
      | _ => none
    | none => none
  | .cpy sz x y => match x.ev e with
    | .rs id off n _ => match H[id]?, rowOf H sz (y.ev e) with
      | some (some (.cells cs)), some ds =>
        if off + n * sz ≤ cs.length ∧ 0 < sz then
          some (.int .i64 (min (ds.length / sz) n : Nat), H.set id (some (.cells (cs.take off ++ ds.take (min (ds.length / sz) n * sz) ++ cs.drop (off + min (ds.length / sz) n * sz)))))
        else none
      | _, _ => none
    | _ => none
  | .loadR sz ag r x => match x.ev e with
    | .ptr id off => if (e r).ptrId? = some id then loadAt H sz ag id off else none
    | _ => none
  | .storeA sz rs a x => match a.ev e with
    | .ptr id off => if rs.all (fun r => (e r).ptrId? != some id) then storeAt H sz id off (x.ev e) else none
    | _ => none
  | .bsliceR s n z ps => if isFree H (base + s) = true then match fillC e (List.replicate n z).flatten (ps.map fun q => (q.1 * z.length, z.length, q.2)) with
      | some cs => some (.rs (base + s) 0 n z.length, H.set (base + s) (some (.cells cs)))
      | none => none
    else none
  | .loadC sz ag x => match x.ev e with
    | .cptr cs => if sz ≤ cs.length then (mk ag (cs.take sz)).map (·, H) else none
    | _ => none
  | .storeN s sz a x => match a.ev e with
    | .ptr id off => if id = base + s then storeAt H sz id off (x.ev e) else none
    | _ => none
  | .pcall _ _ | .scall _ _ | .kcall _ _ _ | .vcall _ _ _ | .scallA _ _ _ => none

/-- A slice of a block that nobody will write any more. -/
def frz1 (H : Heap) : V → V
  | .rs id off n sz => match H[id]? with
    | some (some (.cells cs)) => if off + n * sz ≤ cs.length ∧ cs.all V.pure = true then .vs (chunks sz n (cs.drop off)) .no else .rs id off n sz
    | _ => .rs id off n sz
  | v => v
def frz (H : Heap) : V → V
  | .tup vs => .tup (vs.map (frz1 H))
  | v => frz1 H v

/-- Without what is known of spare room. -/
def V.nf1 : V → V
  | .vs es _ => .vs es .no
  | v => v
def V.nf2 : V → V
  | .vs es _ => .vs es .no
  | .agg cs => .agg (cs.map V.nf1)
  | v => v
def V.nf : V → V
  | .tup cs => .tup (cs.map V.nf2)
  | v => v.nf2
/-- What a value is to others: no numbers, no spare room. -/
def V.out (v : V) : V := (v.cl 0).nf
def outL (l : List V) : List V := l.map V.out

inductive SCode where
  | skip
  | region (m : Nat) (ops : List SOper)
  | seq (a b : SCode)
  | cond (c : X) (a b : SCode)
  | block (id : Nat) (c : SCode)
  | loop (l : List Nat) (c : SCode)
  | exit (id : Nat)
  | ret
  | keep (l : List Nat)
  | give (t : Nat) (off : Option Nat)
  | freeze (t : Nat)

inductive Ex where
  | nx | exit (id : Nat) | ret
  deriving DecidableEq

inductive ResV where
  | tmp (t : Nat)
  | cell (t sz : Nat) (ag : Bool)

structure SFn where
  nt : Nat
  body : SCode
  res : List ResV

def keepE (l : List Nat) (e : Env) : Env := fun i => if i ∈ l then e i else .undef
def Env.cl (n : Nat) (e : Env) : Env := fun i => (e i).cl n

def wanted (e : Env) (o : SOper) : Option Bool :=
  match o.guard with
  | none => some true
  | some (g, want) => match e g with | .bool b => some (b == want) | .skp => some false | _ => none

/-- A slice is given a zone: of a temporary, or of a cell behind a pointer. -/
def giveIt (e : Env) (H : Heap) (t : Nat) : Option Nat → Option (Env × Heap)
  | none => match e t with
    | .vs es .full => some (e.put (some t) (.vs es (.own H.length)), H ++ [some (.zone es.length)])
    | .vs es (.own q) => some (e.put (some t) (.vs es (.own q)), H)
    | _ => none
  | some off => match e t with
    | .ptr id o => match H[id]? with
      | some (some (.cells cs)) => match cs[o + off]? with
        | some (.vs es .full) => some (e, H.set id (some (.cells (cs.set (o + off) (.vs es (.own H.length))))) ++ [some (.zone es.length)])
        | some (.vs _ (.own _)) => some (e, H)
        | _ => none
      | _ => none
    | _ => none

/-- Slices of blocks become slices that stay; nobody may write these blocks any more. -/
def frzL (H : Heap) : List V → Option (List V × Heap)
  | [] => some ([], H)
  | .rs id off n sz :: cs => match H[id]? with
    | some (some (.cells ds)) => if off + n * sz ≤ ds.length ∧ ds.all V.pure = true then
        match frzL (H.set id (some (.froz ds))) cs with
        | some (cs', H') => some (.vs (chunks sz n (ds.drop off)) .no :: cs', H')
        | none => none
      else none
    | some (some (.froz ds)) => if off + n * sz ≤ ds.length then
        match frzL H cs with
        | some (cs', H') => some (.vs (chunks sz n (ds.drop off)) .no :: cs', H')
        | none => none
      else none
    | _ => none
  | c :: cs => match frzL H cs with
    | some (cs', H') => some (c :: cs', H')
    | none => none
def frzIt (e : Env) (H : Heap) (t : Nat) : Option (Env × Heap) :=
  match e t with
  | .agg cs => match frzL H cs with
    | some (cs', H') => some (e.put (some t) (.agg cs'), H')
    | none => none
  | .ptr id _ => match H[id]? with
    | some (some (.cells cs)) => match frzL H cs with
      | some (cs', H') => match H'[id]? with
        | some (some (.cells _)) => some (e, H'.set id (some (.cells cs')))
        | _ => none
      | none => none
    | _ => none
  | v => match frzL H [v] with
    | some ([v'], H') => some (e.put (some t) v', H')
    | _ => none

def evRes (e : Env) (H : Heap) : ResV → Option V
  | .tmp t => some (e t)
  | .cell t sz ag => match e t with
    | .ptr id off => match H[id]? with
      | some (some (.cells cs)) => if off + sz ≤ cs.length then mk ag ((cs.drop off).take sz) else none
      | _ => none
    | _ => none
def evRess (e : Env) (H : Heap) : List ResV → Option (List V)
  | [] => some []
  | r :: rs => match evRes e H r, evRess e H rs with
    | some v, some vs => some (v :: vs)
    | _, _ => none
def resOf : List V → V
  | [v] => v
  | vs => .tup vs
def envOf (args : List V) : Env := fun i => args.getD i .undef

inductive J where
  | F (f : Nat) (args : List V) (H : Heap) (r : V) (H' : Heap)
  | S (base : Nat) (o : SOper) (e : Env) (H : Heap) (e' : Env) (H' : Heap)
  | O (base : Nat) (os : List SOper) (e : Env) (H : Heap) (e' : Env) (H' : Heap)
  | C (c : SCode) (e : Env) (H : Heap) (x : Ex) (e' : Env) (H' : Heap)
  | L (n : Nat) (l : List Nat) (c : SCode) (e : Env) (H : Heap) (x : Ex) (e' : Env) (H' : Heap)

/-- Blocks behind these pointers are as they were. -/
def Leaves (e : Env) (rs : List Nat) (H H1 : Heap) : Prop := ∀ r ∈ rs, ∀ id, (e r).ptrId? = some id → H1[id]? = H[id]?

inductive Big (G : Nat → Option SFn) : J → Prop
  | fn {f fn args H x e' H' vs} : G f = some fn → args.length ≤ fn.nt → Big G (.C fn.body (envOf args) H x e' H') → (x = .nx ∨ x = .ret) → evRess e' H' fn.res = some vs →
      Big G (.F f args H (resOf vs) H')
  | ev {base o e H v H1} : wanted e o = some true → ev1 base e H o.op = some (v, H1) → Big G (.S base o e H (e.put o.dst v) H1)
  | skip {base o e H} : wanted e o = some false → Big G (.S base o e H (e.put o.dst .skp) H)
  | pcall {base o e H f xs r H1} : wanted e o = some true → o.op = .pcall f xs → Big G (.F f (outL (xs.map (X.ev e))) [] r H1) →
      Big G (.S base o e H (e.put o.dst (frz H1 r).out) H)
  | scall {base o e H f xs r H1} : wanted e o = some true → o.op = .scall f xs → Big G (.F f (xs.map (X.ev e)) H r H1) →
      Big G (.S base o e H (e.put o.dst (r.cl H.length)) (trunc H.length H1))
  | scallA {base o e H rs f xs r H1} : wanted e o = some true → o.op = .scallA rs f xs → Big G (.F f (xs.map (X.ev e)) H r H1) → Leaves e rs H (trunc H.length H1) →
      Big G (.S base o e H (e.put o.dst (r.cl H.length)) (trunc H.length H1))
  | kcall {base o e H ro f xs r H1} : wanted e o = some true → o.op = .kcall ro f xs → Big G (.F f (xs.map (X.ev e)) H r H1) → (ro = true → base ≤ H.length ∧ H1.take H.length = H) →
      Big G (.S base o e H (e.put o.dst r) H1)
  | vcall {base o e H ro fx xs f cap r H1} : wanted e o = some true → o.op = .vcall ro fx xs → fx.ev e = .fn f cap → Big G (.F f (xs.map (X.ev e) ++ cap) H r H1) →
      (ro = true → trunc H.length H1 = H) → Big G (.S base o e H (e.put o.dst (r.cl H.length)) (trunc H.length H1))
  | nil {base e H} : Big G (.O base [] e H e H)
  | cons {base o os e H e1 H1 e2 H2} : Big G (.S base o e H e1 H1) → Big G (.O base os e1 H1 e2 H2) → Big G (.O base (o :: os) e H e2 H2)
  | cskip {e H} : Big G (.C .skip e H .nx e H)
  | region {m ops e H e' H'} : Big G (.O H.length ops e (H ++ List.replicate m none) e' H') → Big G (.C (.region m ops) e H .nx e' H')
  | seqN {a b e H e1 H1 x e2 H2} : Big G (.C a e H .nx e1 H1) → Big G (.C b e1 H1 x e2 H2) → Big G (.C (.seq a b) e H x e2 H2)
  | seqX {a b e H x e1 H1} : Big G (.C a e H x e1 H1) → x ≠ .nx → Big G (.C (.seq a b) e H x e1 H1)
  | cond {c a b e H t x e1 H1} : c.ev e = .bool t → Big G (.C (if t then a else b) e H x e1 H1) → Big G (.C (.cond c a b) e H x e1 H1)
  | block {id c e H x e1 H1} : Big G (.C c e H x e1 H1) → Big G (.C (.block id c) e H (if x = .exit id then .nx else x) e1 H1)
  | loop {l c e H x e1 H1} : Big G (.L H.length l c e H x e1 H1) → Big G (.C (.loop l c) e H x e1 H1)
  | round {n l c e H e1 H1 x e2 H2} : Big G (.C c ((keepE l e).cl n) (trunc n H) .nx e1 H1) → Big G (.L n l c e1 H1 x e2 H2) → Big G (.L n l c e H x e2 H2)
  | last {n l c e H x e1 H1} : Big G (.C c ((keepE l e).cl n) (trunc n H) x e1 H1) → x ≠ .nx → Big G (.L n l c e H x e1 H1)
  | exit {id e H} : Big G (.C (.exit id) e H (.exit id) e H)
  | ret {e H} : Big G (.C .ret e H .ret e H)
  | keep {l e H} : Big G (.C (.keep l) e H .nx (keepE l e) H)
  | give {t off e H e1 H1} : giveIt e H t off = some (e1, H1) → Big G (.C (.give t off) e H .nx e1 H1)
  | freeze {t e H e1 H1} : frzIt e H t = some (e1, H1) → Big G (.C (.freeze t) e H .nx e1 H1)

end Go.Ev
